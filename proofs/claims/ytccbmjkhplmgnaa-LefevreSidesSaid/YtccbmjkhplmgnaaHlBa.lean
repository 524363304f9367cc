/- strings.Builder's copyCheck and WriteByte at this program. The walks are those of the kit's shelf (Shelf/Strings/Builder1), turned to this program, whose copyCheck ends in a refusal. The kit's contracts of strings.Builder's String and of strings.IndexByte laid at this program (the kit's own laying program's print). A strings.Builder beside the abstract state. -/
import Derived.Shelf.Strings.Builder1
import Derived.Test.YtccbmjkhplmgnaaProg
import Derived.Shelf.Strings.Search1
import Derived.Shelf.Small.Strs
import Derived.Test.YtccbmjkhplmgnaaHlE
import Derived.Test.YtccbmjkhplmgnaaHlT
set_option linter.unusedVariables false
set_option linter.unusedSimpArgs false
namespace Go.Hl
open Go Go.RowKit Go.Proofs
set_option linter.unusedVariables false
theorem infoBuilder : (Try.prog.info? 95).map (·.size) = some 2 := by kernel_rfl
theorem liesBuilder : liesAt Try.prog Try.prog.depth 95 (2 / Try.prog.cellsOf 95) 0 95 1 = true := by kernel_rfl
theorem infoByte : (Try.prog.info? 5).map (fun i => (i.zero, i.size, i.bytes)) = some (some (.int .u8 0), 1, 1) := by kernel_rfl
theorem mixedTry : Try.prog.follows .mixedOrders = true := by kernel_rfl
set_option maxHeartbeats 1000000 in
set_option maxRecDepth 100000 in
theorem copyCheck_used (b : Nat) (w : World) (h0 : w.cell? ⟨b, 0, none⟩ = some (.pointer (some ⟨b, 0, none⟩))) :
    Calls Try.prog 155 #[.pointer (some ⟨b, 0, none⟩)] w fun e w' => e = .returned (.tuple #[]) ∧ w' = w := by
  obtain ⟨j, hj, _⟩ := Option.map_eq_some_iff.1 infoBuilder
  have mixed := mixedTry
  have t95 := Try.underlying95; have a95 := Try.isAgg95; have z95 := Try.sizeOf95; have v95 := Try.zeroValue95; have u95 := run_underlying Try.underlying95
  have t92 := Try.underlying92; have a92 := Try.isAgg92; have z92 := Try.sizeOf92; have v92 := Try.zeroValue92; have u92 := run_underlying Try.underlying92
  have t4 := Try.underlying4; have a4 := Try.isAgg4; have z4 := Try.sizeOf4; have v4 := Try.zeroValue4; have u4 := run_underlying Try.underlying4
  have t119 := Try.underlying119; have a119 := Try.isAgg119; have z119 := Try.sizeOf119; have v119 := Try.zeroValue119; have u119 := run_underlying Try.underlying119
  go_enter Try.func155, Try.ntmps155
  go_wp2
  rw [Lib.run_neq_ptr_same w _ Try.underlying92 hj]
  go_wp2
  go_end0
  exact ⟨rfl, rfl⟩
set_option maxHeartbeats 1000000 in
set_option maxRecDepth 100000 in
theorem copyCheck_fresh (b : Nat) (w : World) (h0 : w.cell? ⟨b, 0, none⟩ = some (.pointer none)) (hsh : w.shape? b = some (95, 2)) (hfz : w.frozen? ⟨b, 0, none⟩ = false) :
    Calls Try.prog 155 #[.pointer (some ⟨b, 0, none⟩)] w fun e w' => e = .returned (.tuple #[]) ∧ w' = w.setCell ⟨b, 0, none⟩ (.pointer (some ⟨b, 0, none⟩)) := by
  obtain ⟨j, hj, hjs⟩ := Option.map_eq_some_iff.1 infoBuilder
  have mixed := mixedTry
  have t95 := Try.underlying95; have a95 := Try.isAgg95; have z95 := Try.sizeOf95; have v95 := Try.zeroValue95; have u95 := run_underlying Try.underlying95
  have t92 := Try.underlying92; have a92 := Try.isAgg92; have z92 := Try.sizeOf92; have v92 := Try.zeroValue92; have u92 := run_underlying Try.underlying92
  have t4 := Try.underlying4; have a4 := Try.isAgg4; have z4 := Try.sizeOf4; have v4 := Try.zeroValue4; have u4 := run_underlying Try.underlying4
  have t119 := Try.underlying119; have a119 := Try.isAgg119; have z119 := Try.sizeOf119; have v119 := Try.zeroValue119; have u119 := run_underlying Try.underlying119
  go_enter Try.func155, Try.ntmps155
  go_wp2
  rw [Lib.run_to_unsafe w ⟨b, 0, none⟩ Try.underlying92 Try.underlying119 hj (by rw [hjs]; decide) hsh (Nat.zero_lt_succ 1)]
  simp only [Result.andThen]
  rw [Oper.upon_value]
  go_wp2
  rw [run_callFunc_extern Try.func164 (by kernel_rfl) (by kernel_rfl) (by kernel_rfl) (e := Extern.AbiNoEscape.same) (by kernel_rfl)]
  rw [Lib.run_noEscape]
  simp only [Result.andThen]
  rw [Oper.upon_value]
  go_wp2
  rw [Lib.run_from_unsafe w ⟨b, 0, none⟩ Try.underlying119 Try.underlying92 hj hsh liesBuilder]
  simp only [Result.andThen]
  rw [Oper.upon_value]
  go_wp2
  go_end0
  exact ⟨rfl, rfl⟩
theorem copyCheck_ok (B b : Nat) (bs : List Value) (w : World) (h : Lib.IsBuilder 95 5 B b bs w) :
    Calls Try.prog 155 #[.pointer (some ⟨b, 0, none⟩)] w fun e w' => e = .returned (.tuple #[]) ∧ (Lib.BuilderAt 95 5 B b (.pointer (some ⟨b, 0, none⟩)) bs w' ∧ Below B w w') := by
  rcases h with h | h
  · refine (copyCheck_fresh b w h.cell0 h.shape h.frozen0).mono ?_
    rintro e w' ⟨rfl, rfl⟩
    exact ⟨rfl, h.used _, (Below.refl B w).setCell (p := ⟨b, 0, none⟩) h.1 _⟩
  · refine (copyCheck_used b w h.cell0).mono ?_
    rintro e w' ⟨rfl, rfl⟩
    exact ⟨rfl, h, Below.refl B _⟩
set_option maxHeartbeats 2000000 in
set_option maxRecDepth 100000 in
theorem writeByte_ok (B b : Nat) (bs : List Value) (c : Int) (w : World) (h : Lib.IsBuilder 95 5 B b bs w) (hlen : bs.length + 1 ≤ 140737488355328) (hBw : B ≤ w.heap.size) :
    Calls Try.prog 132 #[.pointer (some ⟨b, 0, none⟩), .int .u8 c] w fun e w' => e = .returned .nilIface ∧ (Lib.BuilderAt 95 5 B b (.pointer (some ⟨b, 0, none⟩)) (bs ++ [.int .u8 c]) w' ∧ Below B w w') := by
  obtain ⟨i0, hi, hz0, hz1, hz2⟩ := info_parts infoByte
  have mixed := mixedTry
  have t95 := Try.underlying95; have a95 := Try.isAgg95; have z95 := Try.sizeOf95; have v95 := Try.zeroValue95; have u95 := run_underlying Try.underlying95
  have t92 := Try.underlying92; have a92 := Try.isAgg92; have z92 := Try.sizeOf92; have v92 := Try.zeroValue92; have u92 := run_underlying Try.underlying92
  have t5 := Try.underlying5; have a5 := Try.isAgg5; have z5 := Try.sizeOf5; have v5 := Try.zeroValue5; have u5 := run_underlying Try.underlying5
  have t93 := Try.underlying93; have a93 := Try.isAgg93; have z93 := Try.sizeOf93; have v93 := Try.zeroValue93; have u93 := run_underlying Try.underlying93
  have t4 := Try.underlying4; have a4 := Try.isAgg4; have z4 := Try.sizeOf4; have v4 := Try.zeroValue4; have u4 := run_underlying Try.underlying4
  have t119 := Try.underlying119; have a119 := Try.isAgg119; have z119 := Try.sizeOf119; have v119 := Try.zeroValue119; have u119 := run_underlying Try.underlying119
  have e155 : ∀ args w, (callFunc 155 args).run Try.prog w = .ok (.enter 155 args) w := enters_of Try.func155 (by kernel_rfl) rfl
  go_enter Try.func132, Try.ntmps132
  go_wp2_with (go_at_fn 155; refine (copyCheck_ok B b bs _ h).mono ?_)
  rintro e w1 ⟨rfl, h1, hb1⟩
  obtain ⟨hB, v, hbk, hown, hne⟩ := h1
  have c0 : w1.cell? ⟨b, 0, none⟩ = some (.pointer (some ⟨b, 0, none⟩)) := by rw [Lib.cell_of_heap hbk]; rfl
  have c1 : w1.cell? ⟨b, 1, none⟩ = some v := by rw [Lib.cell_of_heap hbk]; rfl
  go_wp2_with (at_builtin; refine wpList_append_own _ rfl _ _ 93 rfl B 5 i0 (.int .u8 0) 1 1 Try.underlying93 hi hz0 hz1 hz2 rfl (by decide) _ _ _ rfl (hown.alloc _) ⟨w1.heap.size, 0, none⟩ 1 1 [.int .u8 c] rfl rfl ?c1 ?c2 ?c3 ?c4 ?c5 ?_)
  case c1 =>
    intro j u hj
    match j, hj with
    | 0, hj => simp at hj; subst hj; simp [Addr.add]
  case c2 => intro u hu; simp at hu; subst hu; rfl
  case c3 => unfold maxLen; omega
  case c4 => omega
  case c5 => have := hb1.size; simp; omega
  intro v' w2 hown' hgrow _
  have hlt : b < w1.heap.size := by
    rcases Nat.lt_or_ge b w1.heap.size with h' | h'
    · exact h'
    · simp [Array.getElem?_eq_none h'] at hbk
  have hb2 : w2.heap[b]? = some (.cells #[.pointer (some ⟨b, 0, none⟩), v] 95 (0, 0)) := by
    rw [hgrow.block b (by simp; omega) (fun e => hne e.symm), Lib.alloc_old w1 _ b hlt]
    exact hbk
  have d0 : w2.cell? ⟨b, 0, none⟩ = some (.pointer (some ⟨b, 0, none⟩)) := by rw [Lib.cell_of_heap hb2]; rfl
  have d1 : w2.cell? ⟨b, 1, none⟩ = some v := by rw [Lib.cell_of_heap hb2]; rfl
  have f1 : w2.frozen? ⟨b, 1, none⟩ = false := Lib.frozen_of_heap hb2 1
  obtain ⟨g, cap, rfl⟩ : ∃ g cap, v' = .slice (some ⟨g, 0, none⟩) (bs.length + 1) cap := by
    rcases hown'.2 with ⟨_, h0⟩ | ⟨g, cap, cur, hv, _⟩
    · omega
    · exact ⟨g, cap, hv⟩
  go_wp2
  go_ret
  refine ⟨rfl, ?_, ?_⟩
  · exact Lib.BuilderAt.put (T := 95) (e := 5) hB hb2 (bs' := bs ++ [.int .u8 c]) (by simpa using hown') (by decide)
  · exact ((hb1.alloc (by have := hb1.size; omega) _).grown hgrow (by have := hb1.size; simp; omega) (fun k hk => (hown.lt k hk).1)).setCell (p := ⟨b, 1, none⟩) hB _
end Go.Hl

namespace Go.Proofs
open Go.Shelf
def Hl169_ren : Go.Shelf.Ren := ⟨fun | 169 => 133 | n => n, fun | 70 => 92 | 9 => 9 | 0 => 0 | 72 => 95 | 37 => 93 | 127 => 114 | 3 => 3 | 5 => 5 | n => n, fun | n => n⟩
theorem Hl169 : Go.Proofs.Lays.n169 Try.prog Hl169_ren := {
  mixed := by kernel_rfl
  f169 := Try.func133.trans (congrArg some (by kernel_rfl))
  t0 := Try.underlying0
  a0 := Try.isAgg0
  z0 := Try.sizeOf0
  v0 := Try.zeroValue0
  t3 := Try.underlying3
  a3 := Try.isAgg3
  z3 := Try.sizeOf3
  v3 := Try.zeroValue3
  t9 := Try.underlying9
  a9 := Try.isAgg9
  z9 := Try.sizeOf9
  v9 := Try.zeroValue9
  t37 := Try.underlying93
  a37 := Try.isAgg93
  z37 := Try.sizeOf93
  v37 := Try.zeroValue93
  t70 := Try.underlying92
  a70 := Try.isAgg92
  z70 := Try.sizeOf92
  v70 := Try.zeroValue92
  t72 := Try.underlying95
  a72 := Try.isAgg95
  z72 := Try.sizeOf95
  v72 := Try.zeroValue95
  t127 := Try.underlying114
  a127 := Try.isAgg114
  z127 := Try.sizeOf114
  v127 := Try.zeroValue114 }
theorem HlExtra : Builder.Extra Try.prog Hl169_ren := {
  sizeBuilder := by kernel_rfl
  liesBuilder := by kernel_rfl
  t5 := Try.underlying5
  a5 := Try.isAgg5
  z5 := Try.sizeOf5
  v5 := Try.zeroValue5
  infoByte := by kernel_rfl
  cellsByte := by kernel_rfl
  sizeByte := by kernel_rfl
  neB5 := by decide }
def Hl137_ren : Go.Shelf.Ren := ⟨fun | 137 => 131 | 217 => 154 | 266 => 163 | n => n, fun | 9 => 9 | 5 => 5 | 3 => 3 | n => n, fun | n => n⟩
theorem Hl137 : Go.Proofs.Lays.n137 Try.prog Hl137_ren := {
  mixed := by kernel_rfl
  f137 := Try.func131.trans (congrArg some (by kernel_rfl))
  f217 := Try.func154.trans (congrArg some (by kernel_rfl))
  f266 := Try.func163.trans (congrArg some (by kernel_rfl))
  t3 := Try.underlying3
  a3 := Try.isAgg3
  z3 := Try.sizeOf3
  v3 := Try.zeroValue3
  t5 := Try.underlying5
  a5 := Try.isAgg5
  z5 := Try.sizeOf5
  v5 := Try.zeroValue5
  t9 := Try.underlying9
  a9 := Try.isAgg9
  z9 := Try.sizeOf9
  v9 := Try.zeroValue9 }
end Go.Proofs
namespace Go.Hl
open Go Go.RowKit Go.Proofs
theorem string_ok (B b : Nat) (l : List UInt8) (w : World) (h : Lib.IsBuilder 95 5 B b (Lib.byteCells l) w) (h0 : l ≠ []) :
    Calls Try.prog 133 #[.pointer (some ⟨b, 0, none⟩)] w fun e w' => e = .returned (.string ⟨l.toArray⟩) ∧ Below B w w' := Any.Builder_String Hl169 HlExtra B b l w h h0
theorem indexByte_calls (s : ByteArray) (c : Int) (w : World) :
    Calls Try.prog 131 #[.string s, .int .u8 c] w fun e w' => e = .returned (.int .i64 (Lib.indexByte s.data.toList c.toNat.toUInt8)) ∧ w' = w := Any.strings_IndexByte Hl137 s c w
end Go.Hl

namespace Go.Hl
open Go Go.RowKit Go.Proofs
theorem Chg.belowW {n : Nat} {w0 w : World} {X : Nat → Prop} (h : Chg ⟨n, w0, X, none⟩ w) : Below w0.heap.size w0 w :=
  ⟨h.os, h.tape, h.output, h.size, fun k hk => h.old k hk (fun _ _ e => by cases e)⟩
theorem builder_keep {T e : TypeId} {B b : Nat} {bs : List Value} {w w' : World} (h : Lib.IsBuilder T e B b bs w) (hb : Below w.heap.size w w') : Lib.IsBuilder T e B b bs w' := by
  have key : ∀ p, Lib.BuilderAt T e B b p bs w → Lib.BuilderAt T e B b p bs w' := by
    intro p h1
    have hlt := h1.lt
    obtain ⟨hB, v, hbk, hown, hne⟩ := h1
    refine ⟨hB, v, by rw [hb.block b hlt]; exact hbk, hown.kept (row := none) ⟨hb.os, hb.tape, hb.output, hb.size, fun k hk _ => hb.block k hk⟩ ?_, hne⟩
    cases v.ownBlock with
    | none => exact .inl rfl
    | some k => exact .inr (by simp)
  rcases h with h | h
  · exact .inl (key _ h)
  · exact .inr (key _ h)
section
variable {P : Program} {T : Tab} {S : FuncId → Option Sp} {κ : Ctx} {β : Nat → Option (Nat × Nat)} {a : Act} {w : World} {ops : Array Oper}
theorem wp_of_er' {o : Oper} {σ : St} {K : Act → World → Prop} {Q : Exit → Act → World → Prop} (h : ER P κ σ a o.dst ((execOp a.eval o).run P w))
    (hK : ∀ β' x w', Conc κ β' σ.get σ.blk (a.put o.dst x) w' → K (a.put o.dst x) w') : o.wp P a w K Q := by
  unfold Oper.wp
  generalize (execOp a.eval o).run P w = r at *
  cases r with
  | halt _ _ => exact False.elim h
  | ok n w' =>
    cases n <;> try (exact False.elim h)
    case value x => obtain ⟨β', hc⟩ := h; exact hK _ _ _ hc
    case skip => obtain ⟨β', hc⟩ := h; exact hK _ _ _ hc
    case enter f vs =>
      refine Calls.mono h (fun e w'' ⟨v, he, β', hc⟩ => ?_)
      subst he
      exact hK _ _ _ hc
theorem opsA_tailR (R : Act → Prop) (hT : TabOK P T) (hS : SOK P S) (hmu : T.mu = false → κ.mu = none) {Q : Exit → Act → World → Prop} {K : St → Prop}
    {tail : List Oper} (hQ : ∀ σ β' a' w', R a' → K σ → Conc κ β' σ.get σ.blk a' w' → wpList P ops Q tail a' w') :
    ∀ (l : List Oper) (σ : St) (β : Nat → Option (Nat × Nat)) (a : Act) (w : World), (∀ o ∈ l, ∀ t, o.dst = some t → t < κ.nt) → (∀ o ∈ l, ∀ a x, R a → R (a.put o.dst x)) → R a → opsA T S ops l K σ → Conc κ β σ.get σ.blk a w → wpList P ops Q (l ++ tail) a w
  | [], σ, β, a, w, _, _, hr, h, hC => hQ σ β a w hr h hC
  | o :: l, σ, β, a, w, hd, hR, hr, h, hC => by
    rw [List.cons_append]
    unfold wpList
    simp only [opsA] at h
    rcases guard_sound hC h with ⟨hw, σ', e1, e2, h1, h2⟩ | ⟨hw, σ', e1, e2, h2⟩
    · rw [hw, if_pos rfl]
      rw [← e1, ← e2] at hC
      exact .inl (wp_of_er' (st1_sound hT hS hmu hC o (hd o (.head _)) h1) (fun β' x w' hc => opsA_tailR R hT hS hmu hQ l _ β' _ w' (fun o' ho' => hd o' (.tail _ ho')) (fun o' ho' => hR o' (.tail _ ho')) (hR o (.head _) a x hr) h2 hc))
    · rw [hw, if_neg (by simp)]
      refine opsA_tailR R hT hS hmu hQ l _ β (a.put o.dst undef) w (fun o' ho' => hd o' (.tail _ ho')) (fun o' ho' => hR o' (.tail _ ho')) (hR o (.head _) a undef hr) h2 ?_
      rw [St.get_put, St.blk_put, e1, e2]
      exact hC.put (hd o (.head _)) (RI.raw _)
end
def ro (l : List (Nat × AV)) : List (Nat × AV) := l.map fun p => (p.1, match p.2 with | .raw v => .raw v | _ => .any)
theorem lk_ro (l : List (Nat × AV)) (t : Nat) : lk (ro l) t = (lk l t).map fun v => match v with | .raw v => .raw v | _ => .any := by
  induction l with
  | nil => rfl
  | cons p l ih =>
    obtain ⟨k, v⟩ := p
    simp only [ro, List.map_cons, lk] at ih ⊢
    split
    · rfl
    · exact ih
structure BI (n : Nat) (X : Nat → Prop) (w0 : World) (bo : Option (Nat × List UInt8)) (xs : List Int) (v0 : Value) (fr : List (Nat × AV)) (a : Act) (w : World) : Prop where
  sz : a.tmps.size = n
  dfr : a.defers = []
  hx : ∀ b, X b → b < w0.heap.size
  rel : ∀ t v, lk fr t = some (.raw v) → t ≠ 0 → a.tmps.getD t undef = v
  e0 : a.tmps.getD 0 undef = v0
  ri : RI w0 X (.ns .u64 xs) v0
  bel : Below w0.heap.size w0 w
  bld : ∀ b bs, bo = some (b, bs) → Lib.IsBuilder 95 5 w0.heap.size b (Lib.byteCells bs) w
variable {T : Tab} {S : FuncId → Option Sp} {n : Nat} {X : Nat → Prop} {w0 w : World} {b : Nat} {bs : List UInt8} {bo : Option (Nat × List UInt8)} {xs : List Int} {v0 : Value} {fr : List (Nat × AV)} {a : Act}
theorem BI.conc (h : BI n X w0 bo xs v0 fr a w) : Conc ⟨n, w, X, none⟩ (fun _ => none) (St.get ⟨(0, .ns .u64 xs) :: ro fr, []⟩) (St.blk ⟨(0, .ns .u64 xs) :: ro fr, []⟩) a w := by
  refine ⟨h.sz, fun t => ?_, h.dfr, fun id blk hi => (by cases hi), fun i j b c x y _ hx => (by cases hx), ⟨rfl, rfl, rfl, Nat.le_refl _, fun _ _ _ => rfl, fun _ _ _ hm => (by cases hm)⟩,
    fun b hb => Nat.lt_of_lt_of_le (h.hx b hb) h.bel.size⟩
  simp only [St.get, lk]
  split
  · rename_i e; subst e
    rw [h.e0]
    simp only [Option.getD_some]
    refine RI.keep (X := X) ⟨h.bel.size, fun b hb _ => h.bel.block b hb⟩ (fun b _ hb => ?_) h.ri
    rcases hb with hb | ⟨id, c, base, hb, _⟩
    · exact hb
    · cases hb
  · rename_i e
    rw [lk_ro]
    cases hl : lk fr t with
    | none => exact RI.any _
    | some v =>
      cases v with
      | raw v =>
        rw [h.rel t v hl (fun e' => e e'.symm)]
        exact RI.raw v
      | _ => exact RI.any _
theorem putN {d t : Nat} (h : d ≠ t) (a : Act) (x : Value) : (a.put (some d) x).tmps.getD t undef = a.tmps.getD t undef := by
  simp only [Act.put]
  rw [Array.getD_eq_getD_getElem?, Array.getD_eq_getD_getElem?, Array.setIfInBounds]
  split
  · rw [Array.getElem?_set_ne _ h]
  · rfl
theorem put0 {d : Option Nat} (hd : (d != some 0) = true) (a : Act) (x : Value) : (a.put d x).tmps.getD 0 undef = a.tmps.getD 0 undef := by
  cases d with
  | none => rfl
  | some t =>
    have : t ≠ 0 := by rintro rfl; simp at hd
    simp only [Act.put]
    rw [Array.getD_eq_getD_getElem?, Array.getD_eq_getD_getElem?, Array.setIfInBounds, ]
    split
    · rw [Array.getElem?_set_ne _ (by omega)]
    · rfl
theorem BI.of (h : BI n X w0 bo xs v0 fr a w) {β : Nat → Option (Nat × Nat)} {σ : St} {a' : Act} {w' : World} (h0 : a'.tmps.getD 0 undef = v0) (hC : Conc ⟨n, w, X, none⟩ β σ.get σ.blk a' w') : BI n X w0 bo xs v0 σ.fr a' w' := by
  have hb := hC.chg.belowW
  refine ⟨hC.sz, hC.dfr, h.hx, fun t v ht _ => ?_, h0, h.ri, h.bel.trans (hb.mono h.bel.size), fun b bs e => builder_keep (h.bld b bs e) hb⟩
  have := hC.rel t
  simp only [St.get, ht, Option.getD_some] at this
  exact RI.raw_inv this
def keeps0 (l : List Oper) : Bool := l.all fun o => o.dst != some 0
theorem BI.list (hT : TabOK Try.prog T) (hS : SOK Try.prog S) {l : List Oper} {ops : Array Oper} {K : St → Prop} {Q : Exit → Act → World → Prop} (h : BI n X w0 bo xs v0 fr a w)
    (hA : opsA T S ops l K ⟨(0, .ns .u64 xs) :: ro fr, []⟩)
    (hQ : ∀ σ a' w', K σ → BI n X w0 bo xs v0 σ.fr a' w' → Q .normal a' w') (hl : dstsB l.toArray n = true := by kernel_rfl) (hk : keeps0 l = true := by kernel_rfl) :
    wpList Try.prog ops Q l a w := by
  have := opsA_tailR (T := T) (S := S) (κ := ⟨n, w, X, none⟩) (K := K) (ops := ops) (Q := Q) (tail := []) (fun a => a.tmps.getD 0 undef = v0) hT hS (fun _ => rfl) (fun σ β a1 w1 hr hk hC => wpList_nil (hQ σ a1 w1 hk (h.of hr hC))) l ⟨(0, .ns .u64 xs) :: ro fr, []⟩ (fun _ => none) a w
    (fun o ho t ht => ?_) (fun o ho a x hr => ?_) h.e0 hA h.conc
  · rwa [List.append_nil] at this
  · have := Array.all_eq_true_iff_forall_mem.1 hl o (by simpa using ho)
    rw [ht] at this
    simpa using this
  · rw [put0 (List.all_eq_true.1 hk o ho)]; exact hr
theorem BI.region (hT : TabOK Try.prog T) (hS : SOK Try.prog S) {id : Nat} {l : List Oper} {K : St → Prop} {Q : Exit → Act → World → Prop} (h : BI n X w0 bo xs v0 fr a w)
    (hA : opsA T S l.toArray l K ⟨(0, .ns .u64 xs) :: ro fr, []⟩)
    (hQ : ∀ σ a' w', K σ → BI n X w0 bo xs v0 σ.fr a' w' → Q .normal a' w') (hl : dstsB l.toArray n = true := by kernel_rfl) (hk : keeps0 l = true := by kernel_rfl) :
    (Code.region id l.toArray false).wp Try.prog Q a w := by
  refine wp_region_list ?_
  have := opsA_tailR (T := T) (S := S) (κ := ⟨n, w, X, none⟩) (K := K) (ops := l.toArray) (Q := Q) (tail := []) (fun a => a.tmps.getD 0 undef = v0) hT hS (fun _ => rfl) (fun σ β a1 w1 hr hk hC => wpList_nil (hQ σ a1 w1 hk (h.of hr hC))) l ⟨(0, .ns .u64 xs) :: ro fr, []⟩ (fun _ => none) a w
    (fun o ho t ht => ?_) (fun o ho a x hr => ?_) h.e0 hA h.conc
  · rwa [List.append_nil] at this
  · have := Array.all_eq_true_iff_forall_mem.1 hl o (by simpa using ho)
    rw [ht] at this
    simpa using this
  · rw [put0 (List.all_eq_true.1 hk o ho)]; exact hr
theorem run_call_fn {a : Act} {o : Oper} {f : FuncId} {xs : Array Operand} {ts : Array TypeId} {w : World} (hop : o.op = .call { callee := .value (.func f), args := xs, argTypes := ts }) :
    (execOp a.eval o).run Try.prog w = (callFunc f (xs.map a.eval)).run Try.prog w := by
  unfold execOp
  rw [hop]
  simp [resolve, Deferred.ofValue, invoke, BigFrame.eval_func]
theorem BI.write' (hT : TabOK Try.prog T) (hS : SOK Try.prog S) {id : Nat} {l : List Oper} {o : Oper} {K : St → Prop} {t u d : Nat} {k : UInt8} {Q : Exit → Act → World → Prop} (h : BI n X w0 (some (b, bs)) xs v0 fr a w)
    (hbs : bs.length + 1 ≤ 140737488355328)
    (hA : opsA T S (l ++ [o]).toArray l K ⟨(0, .ns .u64 xs) :: ro fr, []⟩)
    (hK : ∀ σ, K σ → σ.get t = .raw (.pointer (some ⟨b, 0, none⟩)) ∧ σ.get u = .raw (.int .u8 (k.toNat : Int)))
    (hQ : ∀ σ a' w', K σ → BI n X w0 (some (b, bs ++ [k])) xs v0 ((d, .any) :: σ.fr) a' w' → Q .normal a' w')
    (hop : o.op = .call { callee := .value (.func 132), args := #[.tmp t, .tmp u], argTypes := #[95, 5] } := by rfl) (hg : o.guard = none := by rfl) (hd : o.dst = some d := by rfl) (hdn : d < n := by decide) (hd0 : d ≠ 0 := by decide) (hl : dstsB l.toArray n = true := by kernel_rfl) (hk : keeps0 l = true := by kernel_rfl) :
    (Code.region id (l ++ [o]).toArray false).wp Try.prog Q a w := by
  refine wp_region_list ?_
  refine opsA_tailR (T := T) (S := S) (κ := ⟨n, w, X, none⟩) (K := K) (fun a => a.tmps.getD 0 undef = v0) hT hS (fun _ => rfl) (fun σ β a1 w1 hr hk hC => ?_) l ⟨(0, .ns .u64 xs) :: ro fr, []⟩ (fun _ => none) a w (fun o' ho t' ht => ?_) (fun o' ho a x hr => ?_) h.e0 hA h.conc
  · obtain ⟨e1, e2⟩ := hK σ hk
    have h1 := h.of hr hC
    have v1 := hC.rel t
    have v2 := hC.rel u
    rw [e1] at v1
    rw [e2] at v2
    have v1 := RI.raw_inv v1
    have v2 := RI.raw_inv v2
    refine wpList_plain hg (fun K' hK' => ?_)
    unfold Oper.wp
    have hex : (execOp a1.eval o).run Try.prog w1 = .ok (.enter 132 #[.pointer (some ⟨b, 0, none⟩), .int .u8 (k.toNat : Int)]) w1 := by
      rw [run_call_fn hop, run_callFunc_body Try.func132 rfl (by decide)]
      have : (#[Operand.tmp t, Operand.tmp u].map a1.eval) = #[.pointer (some ⟨b, 0, none⟩), .int .u8 (k.toNat : Int)] := by
        simp only [List.map_toArray, List.map_cons, List.map_nil]
        show #[a1.tmps.getD t undef, a1.tmps.getD u undef] = _
        rw [v1, v2]
      rw [this]
    rw [hex, Oper.upon_enter]
    refine (writeByte_ok w0.heap.size b _ _ w1 (h1.bld b bs rfl) (by simpa [Lib.byteCells] using hbs) h1.bel.size).mono ?_
    rintro e w2 ⟨rfl, hb, hbel⟩
    refine hK' _ _ ?_
    rw [hd]
    refine wpList_nil (hQ σ _ _ hk ⟨?_, ?_, h.hx, fun t' v ht' h0 => ?_, ?_, h.ri, h1.bel.trans hbel, ?_⟩)
    · simpa [Act.put] using h1.sz
    · exact h1.dfr
    · simp only [lk] at ht'
      split at ht'
      · cases ht'
      · rename_i hne
        have := h1.rel t' v ht' h0
        rw [← this]
        exact putN hne _ _
    · rw [put0 (by simpa using hd0)]; exact hr
    · intro b' bs' e
      cases e
      refine .inr ?_
      simpa [Lib.byteCells] using hb
  · have := Array.all_eq_true_iff_forall_mem.1 hl o' (by simpa using ho)
    rw [ht] at this
    simpa using this
  · rw [put0 (List.all_eq_true.1 hk o' ho)]; exact hr
theorem BI.write (kk : Nat) (hT : TabOK Try.prog T) (hS : SOK Try.prog S) {id : Nat} {ops : List Oper} {o : Oper} {K : St → Prop} {t u d : Nat} {k : UInt8} {Q : Exit → Act → World → Prop} (h : BI n X w0 (some (b, bs)) xs v0 fr a w)
    (hbs : bs.length + 1 ≤ 140737488355328)
    (hA : opsA T S ops.toArray (ops.take kk) K ⟨(0, .ns .u64 xs) :: ro fr, []⟩)
    (hK : ∀ σ, K σ → σ.get t = .raw (.pointer (some ⟨b, 0, none⟩)) ∧ σ.get u = .raw (.int .u8 (k.toNat : Int)))
    (hQ : ∀ σ a' w', K σ → BI n X w0 (some (b, bs ++ [k])) xs v0 ((d, .any) :: σ.fr) a' w' → Q .normal a' w')
    (ho : ops[kk]? = some o := by rfl) (hlen : ops.length = kk + 1 := by rfl) (hop : o.op = .call { callee := .value (.func 132), args := #[.tmp t, .tmp u], argTypes := #[95, 5] } := by rfl) (hg : o.guard = none := by rfl) (hd : o.dst = some d := by rfl) (hdn : d < n := by decide) (hd0 : d ≠ 0 := by decide) (hl : dstsB (ops.take kk).toArray n = true := by kernel_rfl) (hk : keeps0 (ops.take kk) = true := by kernel_rfl) :
    (Code.region id ops.toArray false).wp Try.prog Q a w := by
  have e : ops = ops.take kk ++ [o] := by
    have h1 : kk < ops.length := by omega
    rw [List.getElem?_eq_getElem h1] at ho
    cases ho
    rw [← List.take_succ_eq_append_getElem h1, List.take_of_length_le (by omega)]
  generalize ops.take kk = l at *
  subst e
  exact BI.write' hT hS h hbs hA hK hQ hop hg hd hdn hd0 hl hk
theorem owns_mono {B B' : Nat} {e : TypeId} {s m : Nat} {v : Value} {l : List Value} (hB : B' ≤ B) (h : w.ownsRow B e s v m l) : w.ownsRow B' e s v m l := by
  obtain ⟨h1, h2⟩ := h
  refine ⟨h1, ?_⟩
  rcases h2 with h2 | ⟨g, cap, cur, h3, h4, h5⟩
  · exact .inl h2
  · exact .inr ⟨g, cap, cur, h3, Nat.le_trans hB h4, h5⟩
theorem BI.make {id d : Nat} {o : Oper} {Q : Exit → Act → World → Prop} (h : BI n X w0 none xs v0 fr a w) (hQ : ∀ a' w', BI n X w0 (some (w.heap.size, [])) xs v0 ((d, .raw (.pointer (some ⟨w.heap.size, 0, none⟩))) :: fr) a' w' → Q .normal a' w')
    (hop : o.op = .alloc 95 := by rfl) (hg : o.guard = none := by rfl) (hd : o.dst = some d := by rfl) (hdn : d < n := by decide) (hd0 : d ≠ 0 := by decide) :
    (Code.region id [o].toArray false).wp Try.prog Q a w := by
  refine wp_region_list ?_
  refine wpList_plain hg (fun K' hK' => ?_)
  unfold Oper.wp
  have hz : (zeroValue 95).run Try.prog w = .ok (.agg #[.pointer none, .slice none 0 0]) w := by
    exact Try.zeroValue95 w
  have hex : (execOp a.eval o).run Try.prog w = .ok (.value (.pointer (some ⟨w.heap.size, 0, none⟩))) (w.alloc (.cells #[.pointer none, .slice none 0 0] 95)) := by
    unfold execOp
    rw [hop]
    simp [Instr.alloc, hz, newVar, newRow, Value.cells]
  rw [hex, Oper.upon_value]
  refine hK' _ _ (wpList_nil ?_)
  rw [hd]
  have hal : Below w.heap.size w (w.alloc (.cells #[.pointer none, .slice none 0 0] 95)) := (Below.refl _ w).alloc (Nat.le_refl _) _
  refine hQ _ _ ⟨?_, h.dfr, h.hx, fun t v ht h0 => ?_, ?_, h.ri, h.bel.trans (hal.mono h.bel.size), ?_⟩
  · simpa [Act.put] using h.sz
  · simp only [lk] at ht
    have hlt : d < a.tmps.size := by rw [h.sz]; exact hdn
    split at ht
    · rename_i e; subst e
      cases ht
      simp [Act.put, Array.getD, hlt]
    · rename_i hne
      have := h.rel t v ht h0
      rw [← this]
      exact putN hne _ _
  · rw [put0 (by simpa using hd0)]; exact h.e0
  · intro b' bs' e
    cases e
    rcases Lib.fresh_isBuilder 95 5 w with ⟨_, k⟩ | ⟨_, k⟩
    · obtain ⟨v, k1, k2, k3⟩ := k
      exact .inl ⟨h.bel.size, v, k1, owns_mono h.bel.size k2, k3⟩
    · obtain ⟨v, k1, k2, k3⟩ := k
      exact .inr ⟨h.bel.size, v, k1, owns_mono h.bel.size k2, k3⟩
theorem BI.text {id d : Nat} {o : Oper} {os : List Oper} {t : Nat} {Q : Exit → Act → World → Prop} (h : BI n X w0 (some (b, bs)) xs v0 fr a w) (hbs : bs ≠ [])
    (ht : lk fr t = some (.raw (.pointer (some ⟨b, 0, none⟩)))) (ht0 : t ≠ 0)
    (hQ : ∀ a' w', BI n X w0 none xs v0 ((d, .raw (.string ⟨bs.toArray⟩)) :: fr) a' w' → wpList Try.prog (o :: os).toArray Q os a' w')
    (hop : o.op = .call { callee := .value (.func 133), args := #[.tmp t], argTypes := #[95] } := by rfl) (hg : o.guard = none := by rfl) (hd : o.dst = some d := by rfl) (hdn : d < n := by decide) (hd0 : d ≠ 0 := by decide) :
    (Code.region id (o :: os).toArray false).wp Try.prog Q a w := by
  refine wp_region_list ?_
  refine wpList_plain hg (fun K' hK' => ?_)
  unfold Oper.wp
  have hex : (execOp a.eval o).run Try.prog w = .ok (.enter 133 #[.pointer (some ⟨b, 0, none⟩)]) w := by
    rw [run_call_fn hop, run_callFunc_body Try.func133 rfl (by decide)]
    have : (#[Operand.tmp t].map a.eval) = #[.pointer (some ⟨b, 0, none⟩)] := by
      simp only [List.map_toArray, List.map_cons, List.map_nil]
      show #[a.tmps.getD t undef] = _
      rw [h.rel t _ ht ht0]
    rw [this]
  rw [hex, Oper.upon_enter]
  refine (string_ok w0.heap.size b bs w (h.bld b bs rfl) hbs).mono ?_
  rintro e w2 ⟨rfl, hbel⟩
  refine hK' _ _ ?_
  rw [hd]
  refine hQ _ _ ⟨?_, h.dfr, h.hx, fun t' v ht' h0 => ?_, ?_, h.ri, h.bel.trans hbel, fun _ _ e => by cases e⟩
  · simpa [Act.put] using h.sz
  · simp only [lk] at ht'
    have hlt : d < a.tmps.size := by rw [h.sz]; exact hdn
    split at ht'
    · rename_i e; subst e
      cases ht'
      simp [Act.put, Array.getD, hlt]
    · rename_i hne
      have := h.rel t' v ht' h0
      rw [← this]
      exact putN hne _ _
  · rw [put0 (by simpa using hd0)]; exact h.e0
end Go.Hl

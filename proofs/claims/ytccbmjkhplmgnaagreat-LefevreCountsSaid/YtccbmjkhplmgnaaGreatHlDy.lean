/- A struct of a sign and a slice of numbers, opened. A line (three structs of a sign and a slice, and a number), opened. -/
import Derived.Lib.SmallJoins
import Derived.Test.YtccbmjkhplmgnaaGreatHlDo
set_option linter.unusedVariables false
set_option linter.unusedSimpArgs false
namespace Go.Hl
open Go Go.RowKit Go.Proofs Go.ChangeShapes Go.WideShapes Go.ChangeAt Go.Joins
set_option maxRecDepth 100000 in
theorem cells43 : Tryz.prog.cellsOf 24 = 2 := by kernel_rfl
set_option maxRecDepth 100000 in
theorem open_z {H : Type} {enc : TypeId × Value → H} {W : World} {base : Nat} {v : Value} {d : DataW H} {p : List MemPlace} (hv : Value.okWide Tryz.prog W .any base 24 v)
    (h : DataW.Trod enc Tryz.prog W 0 (fun _ => true) true 24 v d p) :
    ∃ (b : Bool) (a : Option Addr) (len cap : Nat) (zs : List Int), v = .agg #[.bool b, .slice a len cap] ∧ Row .u64 W a len cap zs := by
  obtain ⟨c0, c1, y0, y1, m, rfl, _, _, hy0, hy1⟩ := open_agg2 Tryz.underlying24 (by kernel_rfl) cells43 hv h
  obtain ⟨b, e0, _⟩ := DataW.trod_bool Tryz.underlying4 hy0
  simp at e0
  subst e0
  rcases open_ints Tryz.underlying22 Tryz.underlying56 (by kernel_rfl) hy1 with ⟨hcs, _⟩ | ⟨x, l, c, zs, hcs, _, hl, hm, hz, _, hcell, hwz⟩
  · simp at hcs
    exact ⟨b, none, 0, 0, [], by rw [hcs], .inl ⟨rfl, rfl, rfl, rfl⟩⟩
  · simp at hcs
    exact ⟨b, some x, l, c, zs, by rw [hcs], .inr ⟨_, rfl, hl, hm, by simpa using hz, hcell, hwz⟩⟩
theorem ri_agg {w : World} {X : Nat → Prop} {b : Bool} {c : AV} {v : Value} (h : RI w X c v) : RI w X (.agg [.raw (.bool b), c]) (.agg #[.bool b, v]) := by
  refine RI.agg _ _ (fun j => if j = 0 then .bool b else v) rfl (fun j c' hj => ?_) (fun j c' hj => ?_)
  · rcases j with _ | _ | j
    · rfl
    · rfl
    · cases hj
  · rcases j with _ | _ | j
    · cases hj; exact RI.raw _
    · cases hj; exact h
    · cases hj
end Go.Hl

namespace Go.Hl
open Go Go.RowKit Go.Proofs Go.ChangeShapes Go.WideShapes Go.ChangeAt Go.Joins
theorem array7 {α : Type} {cs : Array α} (h : cs.size = 7) : ∃ c0 c1 c2 c3 c4 c5 c6, cs = #[c0, c1, c2, c3, c4, c5, c6] := by
  obtain ⟨l⟩ := cs
  match l, h with
  | [c0, c1, c2, c3, c4, c5, c6], _ => exact ⟨c0, c1, c2, c3, c4, c5, c6, rfl⟩
set_option maxRecDepth 100000 in
theorem cells61 : Tryz.prog.cellsOf 26 = 7 := by kernel_rfl
set_option maxRecDepth 100000 in
theorem cells4 : Tryz.prog.cellsOf 4 = 1 := by kernel_rfl
set_option maxRecDepth 100000 in
theorem cells22 : Tryz.prog.cellsOf 22 = 1 := by kernel_rfl
set_option maxRecDepth 100000 in
theorem cells2 : Tryz.prog.cellsOf 2 = 1 := by kernel_rfl
theorem z_of {H : Type} {enc : TypeId × Value → H} {W : World} {n : Nat} {c0 c1 : Value} {y : DataW H × List MemPlace} (h : DataW.trod enc Tryz.prog W 0 (fun _ => true) true n 24 [c0, c1] = some y) :
    ∃ (b : Bool) (a : Option Addr) (len cap : Nat) (zs : List Int), c0 = .bool b ∧ c1 = .slice a len cap ∧ Row .u64 W a len cap zs := by
  obtain ⟨y0, y1, n, _, _, hy0, hy1⟩ := trod_struct2 Tryz.underlying24 h
  have hy0 : DataW.trod enc Tryz.prog W 0 (fun _ => true) true n 4 ((([c0, c1] : List Value).drop 0).take (Tryz.prog.cellsOf 4)) = some y0 := hy0
  have hy1 : DataW.trod enc Tryz.prog W 0 (fun _ => true) true n 22 ((([c0, c1] : List Value).drop 1).take (Tryz.prog.cellsOf 22)) = some y1 := hy1
  rw [cells4] at hy0
  rw [cells22] at hy1
  obtain ⟨b, e0, _⟩ := DataW.trod_bool Tryz.underlying4 hy0
  simp at e0
  rcases open_ints Tryz.underlying22 Tryz.underlying56 (by kernel_rfl) hy1 with ⟨hcs, _⟩ | ⟨x, l, c, zs, hcs, _, hl, hm, hz, _, hcell, hwz⟩
  · simp at hcs
    exact ⟨b, none, 0, 0, [], e0, hcs, .inl ⟨rfl, rfl, rfl, rfl⟩⟩
  · simp at hcs
    exact ⟨b, some x, l, c, zs, e0, hcs, .inr ⟨_, rfl, hl, hm, by simpa using hz, hcell, hwz⟩⟩
set_option maxRecDepth 100000 in
theorem open_l {H : Type} {enc : TypeId × Value → H} {W : World} {base : Nat} {v : Value} {d : DataW H} {p : List MemPlace} (hv : Value.okWide Tryz.prog W .any base 26 v)
    (h : DataW.Trod enc Tryz.prog W 0 (fun _ => true) true 26 v d p) :
    ∃ (b0 : Bool) (a0 : Option Addr) (l0 c0 : Nat) (z0 : List Int) (b1 : Bool) (a1 : Option Addr) (l1 c1 : Nat) (z1 : List Int) (b2 : Bool) (a2 : Option Addr) (l2 c2 : Nat) (z2 : List Int) (n : Int),
      v = .agg #[.bool b0, .slice a0 l0 c0, .bool b1, .slice a1 l1 c1, .bool b2, .slice a2 l2 c2, .int .i64 n] ∧ Row .u64 W a0 l0 c0 z0 ∧ Row .u64 W a1 l1 c1 z1 ∧ Row .u64 W a2 l2 c2 z2 ∧ (Lit.int .i64 n).wf = true := by
  obtain ⟨cs, rfl, hsz⟩ := okWide_struct Tryz.underlying26 hv
  obtain ⟨c0, c1, c2, c3, c4, c5, c6, rfl⟩ := array7 (hsz.trans cells61)
  obtain ⟨fuel, hf⟩ := h
  obtain ⟨y0, y1, y2, y3, n, _, _, h0, h1, h2, h3⟩ := trod_struct4 Tryz.underlying26 hf
  have h0 : DataW.trod enc Tryz.prog W 0 (fun _ => true) true n 24 ((([c0, c1, c2, c3, c4, c5, c6] : List Value).drop 0).take (Tryz.prog.cellsOf 24)) = some y0 := h0
  have h1 : DataW.trod enc Tryz.prog W 0 (fun _ => true) true n 24 ((([c0, c1, c2, c3, c4, c5, c6] : List Value).drop 2).take (Tryz.prog.cellsOf 24)) = some y1 := h1
  have h2 : DataW.trod enc Tryz.prog W 0 (fun _ => true) true n 24 ((([c0, c1, c2, c3, c4, c5, c6] : List Value).drop 4).take (Tryz.prog.cellsOf 24)) = some y2 := h2
  have h3 : DataW.trod enc Tryz.prog W 0 (fun _ => true) true n 2 ((([c0, c1, c2, c3, c4, c5, c6] : List Value).drop 6).take (Tryz.prog.cellsOf 2)) = some y3 := h3
  rw [cells43] at h0 h1 h2
  rw [cells2] at h3
  obtain ⟨b0, a0, l0, p0, z0, e0, e1, r0⟩ := z_of h0
  obtain ⟨b1, a1, l1, p1, z1, e2, e3, r1⟩ := z_of h1
  obtain ⟨b2, a2, l2, p2, z2, e4, e5, r2⟩ := z_of h2
  obtain ⟨k, e6, _, hk⟩ := DataW.trod_int Tryz.underlying2 h3
  simp at e6
  exact ⟨b0, a0, l0, p0, z0, b1, a1, l1, p1, z1, b2, a2, l2, p2, z2, k, by rw [e0, e1, e2, e3, e4, e5, e6], r0, r1, r2, hk⟩
theorem ri_line {w : World} {X : Nat → Prop} {b0 b1 b2 : Bool} {n : Int} {c0 c1 c2 : AV} {v0 v1 v2 : Value} (h0 : RI w X c0 v0) (h1 : RI w X c1 v1) (h2 : RI w X c2 v2) :
    RI w X (.agg [.raw (.bool b0), c0, .raw (.bool b1), c1, .raw (.bool b2), c2, .raw (.int .i64 n)]) (.agg #[.bool b0, v0, .bool b1, v1, .bool b2, v2, .int .i64 n]) := by
  refine RI.agg _ _ (fun j => (#[.bool b0, v0, .bool b1, v1, .bool b2, v2, .int .i64 n] : Array Value).getD j undef) rfl (fun j c' hj => ?_) (fun j c' hj => ?_)
  · rcases j with _ | _ | _ | _ | _ | _ | _ | j <;> first | rfl | cases hj
  · rcases j with _ | _ | _ | _ | _ | _ | _ | j
    · cases hj; exact RI.raw _
    · cases hj; exact h0
    · cases hj; exact RI.raw _
    · cases hj; exact h1
    · cases hj; exact RI.raw _
    · cases hj; exact h2
    · cases hj; exact RI.raw _
    · cases hj
end Go.Hl

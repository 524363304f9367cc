/- A struct of a sign and a slice of numbers, opened. -/
import Derived.Lib.SmallJoins
import Derived.Test.YtccbmjkhplmgnaaDoorHlDo
set_option linter.unusedVariables false
set_option linter.unusedSimpArgs false
namespace Go.Hl
open Go Go.RowKit Go.Proofs Go.ChangeShapes Go.WideShapes Go.ChangeAt Go.Joins

set_option maxRecDepth 100000 in
theorem cells43 : Tryd.prog.cellsOf 24 = 2 := by kernel_rfl
set_option maxRecDepth 100000 in
theorem open_z {H : Type} {enc : TypeId × Value → H} {W : World} {base : Nat} {v : Value} {d : DataW H} {p : List MemPlace} (hv : Value.okWide Tryd.prog W .any base 24 v)
    (h : DataW.Trod enc Tryd.prog W 0 (fun _ => true) true 24 v d p) :
    ∃ (b : Bool) (a : Option Addr) (len cap : Nat) (zs : List Int), v = .agg #[.bool b, .slice a len cap] ∧ Row .u64 W a len cap zs := by
  obtain ⟨c0, c1, y0, y1, m, rfl, _, _, hy0, hy1⟩ := open_agg2 Tryd.underlying24 (by kernel_rfl) cells43 hv h
  obtain ⟨b, e0, _⟩ := DataW.trod_bool Tryd.underlying4 hy0
  simp at e0
  subst e0
  rcases open_ints Tryd.underlying22 Tryd.underlying41 (by kernel_rfl) hy1 with ⟨hcs, _⟩ | ⟨x, l, c, zs, hcs, _, hl, hm, hz, _, hcell, hwz⟩
  · simp at hcs
    exact ⟨b, none, 0, 0, [], by rw [hcs], .inl ⟨rfl, rfl, rfl, rfl⟩⟩
  · simp at hcs
    exact ⟨b, some x, l, c, zs, by rw [hcs], .inr ⟨_, rfl, hl, hm, by simpa using hz, hcell, hwz⟩⟩

theorem ri_agg {w : World} {X : Nat → Prop} {b : Bool} {c : AV} {v : Value} (h : RI w X c v) : RI w X (.agg [.raw (.bool b), c]) (.agg #[.bool b, v]) := by
  refine RI.agg _ _ (fun j => if j = 0 then .bool b else v) rfl (fun j c' hj => ?_) (fun j c' hj => ?_)
  · rcases j with _ | _ | j
    · rfl
    · rfl
    · cases hj
  · rcases j with _ | _ | j
    · cases hj; exact RI.raw _
    · cases hj; exact h
    · cases hj
end Go.Hl

/- Contracts' shapes, of more parameters. -/
import Derived.Test.YtccbmjkhplmgnaaGreatHlF
set_option linter.unusedVariables false
set_option linter.unusedSimpArgs false
namespace Go.Hl
open Go Go.RowKit
@[push_cast] def spZZZZ (k : Nat) (pre : Bool → List Int → Bool → List Int → Bool → List Int → Bool → List Int → Prop) (res : Bool → List Int → Bool → List Int → Bool → List Int → Bool → List Int → AV) : Sp where
  kind := k
  pre | [.agg [.raw (.bool b0), .ns .u64 x0], .agg [.raw (.bool b1), .ns .u64 x1], .agg [.raw (.bool b2), .ns .u64 x2], .agg [.raw (.bool b3), .ns .u64 x3]] => pre b0 x0 b1 x1 b2 x2 b3 x3
      | _ => False
  res | [.agg [.raw (.bool b0), .ns .u64 x0], .agg [.raw (.bool b1), .ns .u64 x1], .agg [.raw (.bool b2), .ns .u64 x2], .agg [.raw (.bool b3), .ns .u64 x3]] => res b0 x0 b1 x1 b2 x2 b3 x3
      | _ => .any
theorem SpOK.ZZZZ {P : Program} {f : FuncId} {pre : Bool → List Int → Bool → List Int → Bool → List Int → Bool → List Int → Prop} {res : Bool → List Int → Bool → List Int → Bool → List Int → Bool → List Int → AV} (h : ∀ b0 x0 b1 x1 b2 x2 b3 x3, pre b0 x0 b1 x1 b2 x2 b3 x3 → ACall P f [.agg [.raw (.bool b0), .ns .u64 x0], .agg [.raw (.bool b1), .ns .u64 x1], .agg [.raw (.bool b2), .ns .u64 x2], .agg [.raw (.bool b3), .ns .u64 x3]] (res b0 x0 b1 x1 b2 x2 b3 x3)) : SpOK P f (spZZZZ 0 pre res) := by
  refine SpOK.zero rfl fun args hp => ?_
  simp only [spZZZZ] at hp ⊢
  split at hp
  · exact h _ _ _ _ _ _ _ _ hp
  · exact hp.elim
theorem SpOK.ZZZZf {P : Program} {f : FuncId} {pre : Bool → List Int → Bool → List Int → Bool → List Int → Bool → List Int → Prop} {res : Bool → List Int → Bool → List Int → Bool → List Int → Bool → List Int → AV} (h : ∀ b0 x0 b1 x1 b2 x2 b3 x3, pre b0 x0 b1 x1 b2 x2 b3 x3 → FCall P f [.agg [.raw (.bool b0), .ns .u64 x0], .agg [.raw (.bool b1), .ns .u64 x1], .agg [.raw (.bool b2), .ns .u64 x2], .agg [.raw (.bool b3), .ns .u64 x3]] (res b0 x0 b1 x1 b2 x2 b3 x3)) : SpOK P f (spZZZZ 1 pre res) := by
  refine SpOK.one rfl fun args hp => ?_
  simp only [spZZZZ] at hp ⊢
  split at hp
  · exact h _ _ _ _ _ _ _ _ hp
  · exact hp.elim
theorem SpOK.ZZZZm {P : Program} {f : FuncId} {pre : Bool → List Int → Bool → List Int → Bool → List Int → Bool → List Int → Prop} {res : Bool → List Int → Bool → List Int → Bool → List Int → Bool → List Int → AV} (h : ∀ b0 x0 b1 x1 b2 x2 b3 x3, pre b0 x0 b1 x1 b2 x2 b3 x3 → MCall P f [.agg [.raw (.bool b0), .ns .u64 x0], .agg [.raw (.bool b1), .ns .u64 x1], .agg [.raw (.bool b2), .ns .u64 x2], .agg [.raw (.bool b3), .ns .u64 x3]] (res b0 x0 b1 x1 b2 x2 b3 x3)) : SpOK P f (spZZZZ 2 pre res) := by
  refine SpOK.two rfl fun args hp => ?_
  simp only [spZZZZ] at hp ⊢
  split at hp
  · exact h _ _ _ _ _ _ _ _ hp
  · exact hp.elim
@[push_cast] def spZZZZZI (k : Nat) (pre : Bool → List Int → Bool → List Int → Bool → List Int → Bool → List Int → Bool → List Int → Int → Prop) (res : Bool → List Int → Bool → List Int → Bool → List Int → Bool → List Int → Bool → List Int → Int → AV) : Sp where
  kind := k
  pre | [.agg [.raw (.bool b0), .ns .u64 x0], .agg [.raw (.bool b1), .ns .u64 x1], .agg [.raw (.bool b2), .ns .u64 x2], .agg [.raw (.bool b3), .ns .u64 x3], .agg [.raw (.bool b4), .ns .u64 x4], .raw (.int .i64 n5)] => pre b0 x0 b1 x1 b2 x2 b3 x3 b4 x4 n5
      | _ => False
  res | [.agg [.raw (.bool b0), .ns .u64 x0], .agg [.raw (.bool b1), .ns .u64 x1], .agg [.raw (.bool b2), .ns .u64 x2], .agg [.raw (.bool b3), .ns .u64 x3], .agg [.raw (.bool b4), .ns .u64 x4], .raw (.int .i64 n5)] => res b0 x0 b1 x1 b2 x2 b3 x3 b4 x4 n5
      | _ => .any
theorem SpOK.ZZZZZI {P : Program} {f : FuncId} {pre : Bool → List Int → Bool → List Int → Bool → List Int → Bool → List Int → Bool → List Int → Int → Prop} {res : Bool → List Int → Bool → List Int → Bool → List Int → Bool → List Int → Bool → List Int → Int → AV} (h : ∀ b0 x0 b1 x1 b2 x2 b3 x3 b4 x4 n5, pre b0 x0 b1 x1 b2 x2 b3 x3 b4 x4 n5 → ACall P f [.agg [.raw (.bool b0), .ns .u64 x0], .agg [.raw (.bool b1), .ns .u64 x1], .agg [.raw (.bool b2), .ns .u64 x2], .agg [.raw (.bool b3), .ns .u64 x3], .agg [.raw (.bool b4), .ns .u64 x4], .raw (.int .i64 n5)] (res b0 x0 b1 x1 b2 x2 b3 x3 b4 x4 n5)) : SpOK P f (spZZZZZI 0 pre res) := by
  refine SpOK.zero rfl fun args hp => ?_
  simp only [spZZZZZI] at hp ⊢
  split at hp
  · exact h _ _ _ _ _ _ _ _ _ _ _ hp
  · exact hp.elim
theorem SpOK.ZZZZZIf {P : Program} {f : FuncId} {pre : Bool → List Int → Bool → List Int → Bool → List Int → Bool → List Int → Bool → List Int → Int → Prop} {res : Bool → List Int → Bool → List Int → Bool → List Int → Bool → List Int → Bool → List Int → Int → AV} (h : ∀ b0 x0 b1 x1 b2 x2 b3 x3 b4 x4 n5, pre b0 x0 b1 x1 b2 x2 b3 x3 b4 x4 n5 → FCall P f [.agg [.raw (.bool b0), .ns .u64 x0], .agg [.raw (.bool b1), .ns .u64 x1], .agg [.raw (.bool b2), .ns .u64 x2], .agg [.raw (.bool b3), .ns .u64 x3], .agg [.raw (.bool b4), .ns .u64 x4], .raw (.int .i64 n5)] (res b0 x0 b1 x1 b2 x2 b3 x3 b4 x4 n5)) : SpOK P f (spZZZZZI 1 pre res) := by
  refine SpOK.one rfl fun args hp => ?_
  simp only [spZZZZZI] at hp ⊢
  split at hp
  · exact h _ _ _ _ _ _ _ _ _ _ _ hp
  · exact hp.elim
theorem SpOK.ZZZZZIm {P : Program} {f : FuncId} {pre : Bool → List Int → Bool → List Int → Bool → List Int → Bool → List Int → Bool → List Int → Int → Prop} {res : Bool → List Int → Bool → List Int → Bool → List Int → Bool → List Int → Bool → List Int → Int → AV} (h : ∀ b0 x0 b1 x1 b2 x2 b3 x3 b4 x4 n5, pre b0 x0 b1 x1 b2 x2 b3 x3 b4 x4 n5 → MCall P f [.agg [.raw (.bool b0), .ns .u64 x0], .agg [.raw (.bool b1), .ns .u64 x1], .agg [.raw (.bool b2), .ns .u64 x2], .agg [.raw (.bool b3), .ns .u64 x3], .agg [.raw (.bool b4), .ns .u64 x4], .raw (.int .i64 n5)] (res b0 x0 b1 x1 b2 x2 b3 x3 b4 x4 n5)) : SpOK P f (spZZZZZI 2 pre res) := by
  refine SpOK.two rfl fun args hp => ?_
  simp only [spZZZZZI] at hp ⊢
  split at hp
  · exact h _ _ _ _ _ _ _ _ _ _ _ hp
  · exact hp.elim
@[push_cast] def spZZZI (k : Nat) (pre : Bool → List Int → Bool → List Int → Bool → List Int → Int → Prop) (res : Bool → List Int → Bool → List Int → Bool → List Int → Int → AV) : Sp where
  kind := k
  pre | [.agg [.raw (.bool b0), .ns .u64 x0], .agg [.raw (.bool b1), .ns .u64 x1], .agg [.raw (.bool b2), .ns .u64 x2], .raw (.int .i64 n3)] => pre b0 x0 b1 x1 b2 x2 n3
      | _ => False
  res | [.agg [.raw (.bool b0), .ns .u64 x0], .agg [.raw (.bool b1), .ns .u64 x1], .agg [.raw (.bool b2), .ns .u64 x2], .raw (.int .i64 n3)] => res b0 x0 b1 x1 b2 x2 n3
      | _ => .any
theorem SpOK.ZZZI {P : Program} {f : FuncId} {pre : Bool → List Int → Bool → List Int → Bool → List Int → Int → Prop} {res : Bool → List Int → Bool → List Int → Bool → List Int → Int → AV} (h : ∀ b0 x0 b1 x1 b2 x2 n3, pre b0 x0 b1 x1 b2 x2 n3 → ACall P f [.agg [.raw (.bool b0), .ns .u64 x0], .agg [.raw (.bool b1), .ns .u64 x1], .agg [.raw (.bool b2), .ns .u64 x2], .raw (.int .i64 n3)] (res b0 x0 b1 x1 b2 x2 n3)) : SpOK P f (spZZZI 0 pre res) := by
  refine SpOK.zero rfl fun args hp => ?_
  simp only [spZZZI] at hp ⊢
  split at hp
  · exact h _ _ _ _ _ _ _ hp
  · exact hp.elim
theorem SpOK.ZZZIf {P : Program} {f : FuncId} {pre : Bool → List Int → Bool → List Int → Bool → List Int → Int → Prop} {res : Bool → List Int → Bool → List Int → Bool → List Int → Int → AV} (h : ∀ b0 x0 b1 x1 b2 x2 n3, pre b0 x0 b1 x1 b2 x2 n3 → FCall P f [.agg [.raw (.bool b0), .ns .u64 x0], .agg [.raw (.bool b1), .ns .u64 x1], .agg [.raw (.bool b2), .ns .u64 x2], .raw (.int .i64 n3)] (res b0 x0 b1 x1 b2 x2 n3)) : SpOK P f (spZZZI 1 pre res) := by
  refine SpOK.one rfl fun args hp => ?_
  simp only [spZZZI] at hp ⊢
  split at hp
  · exact h _ _ _ _ _ _ _ hp
  · exact hp.elim
theorem SpOK.ZZZIm {P : Program} {f : FuncId} {pre : Bool → List Int → Bool → List Int → Bool → List Int → Int → Prop} {res : Bool → List Int → Bool → List Int → Bool → List Int → Int → AV} (h : ∀ b0 x0 b1 x1 b2 x2 n3, pre b0 x0 b1 x1 b2 x2 n3 → MCall P f [.agg [.raw (.bool b0), .ns .u64 x0], .agg [.raw (.bool b1), .ns .u64 x1], .agg [.raw (.bool b2), .ns .u64 x2], .raw (.int .i64 n3)] (res b0 x0 b1 x1 b2 x2 n3)) : SpOK P f (spZZZI 2 pre res) := by
  refine SpOK.two rfl fun args hp => ?_
  simp only [spZZZI] at hp ⊢
  split at hp
  · exact h _ _ _ _ _ _ _ hp
  · exact hp.elim
@[push_cast] def spZZZZI (k : Nat) (pre : Bool → List Int → Bool → List Int → Bool → List Int → Bool → List Int → Int → Prop) (res : Bool → List Int → Bool → List Int → Bool → List Int → Bool → List Int → Int → AV) : Sp where
  kind := k
  pre | [.agg [.raw (.bool b0), .ns .u64 x0], .agg [.raw (.bool b1), .ns .u64 x1], .agg [.raw (.bool b2), .ns .u64 x2], .agg [.raw (.bool b3), .ns .u64 x3], .raw (.int .i64 n4)] => pre b0 x0 b1 x1 b2 x2 b3 x3 n4
      | _ => False
  res | [.agg [.raw (.bool b0), .ns .u64 x0], .agg [.raw (.bool b1), .ns .u64 x1], .agg [.raw (.bool b2), .ns .u64 x2], .agg [.raw (.bool b3), .ns .u64 x3], .raw (.int .i64 n4)] => res b0 x0 b1 x1 b2 x2 b3 x3 n4
      | _ => .any
theorem SpOK.ZZZZI {P : Program} {f : FuncId} {pre : Bool → List Int → Bool → List Int → Bool → List Int → Bool → List Int → Int → Prop} {res : Bool → List Int → Bool → List Int → Bool → List Int → Bool → List Int → Int → AV} (h : ∀ b0 x0 b1 x1 b2 x2 b3 x3 n4, pre b0 x0 b1 x1 b2 x2 b3 x3 n4 → ACall P f [.agg [.raw (.bool b0), .ns .u64 x0], .agg [.raw (.bool b1), .ns .u64 x1], .agg [.raw (.bool b2), .ns .u64 x2], .agg [.raw (.bool b3), .ns .u64 x3], .raw (.int .i64 n4)] (res b0 x0 b1 x1 b2 x2 b3 x3 n4)) : SpOK P f (spZZZZI 0 pre res) := by
  refine SpOK.zero rfl fun args hp => ?_
  simp only [spZZZZI] at hp ⊢
  split at hp
  · exact h _ _ _ _ _ _ _ _ _ hp
  · exact hp.elim
theorem SpOK.ZZZZIf {P : Program} {f : FuncId} {pre : Bool → List Int → Bool → List Int → Bool → List Int → Bool → List Int → Int → Prop} {res : Bool → List Int → Bool → List Int → Bool → List Int → Bool → List Int → Int → AV} (h : ∀ b0 x0 b1 x1 b2 x2 b3 x3 n4, pre b0 x0 b1 x1 b2 x2 b3 x3 n4 → FCall P f [.agg [.raw (.bool b0), .ns .u64 x0], .agg [.raw (.bool b1), .ns .u64 x1], .agg [.raw (.bool b2), .ns .u64 x2], .agg [.raw (.bool b3), .ns .u64 x3], .raw (.int .i64 n4)] (res b0 x0 b1 x1 b2 x2 b3 x3 n4)) : SpOK P f (spZZZZI 1 pre res) := by
  refine SpOK.one rfl fun args hp => ?_
  simp only [spZZZZI] at hp ⊢
  split at hp
  · exact h _ _ _ _ _ _ _ _ _ hp
  · exact hp.elim
theorem SpOK.ZZZZIm {P : Program} {f : FuncId} {pre : Bool → List Int → Bool → List Int → Bool → List Int → Bool → List Int → Int → Prop} {res : Bool → List Int → Bool → List Int → Bool → List Int → Bool → List Int → Int → AV} (h : ∀ b0 x0 b1 x1 b2 x2 b3 x3 n4, pre b0 x0 b1 x1 b2 x2 b3 x3 n4 → MCall P f [.agg [.raw (.bool b0), .ns .u64 x0], .agg [.raw (.bool b1), .ns .u64 x1], .agg [.raw (.bool b2), .ns .u64 x2], .agg [.raw (.bool b3), .ns .u64 x3], .raw (.int .i64 n4)] (res b0 x0 b1 x1 b2 x2 b3 x3 n4)) : SpOK P f (spZZZZI 2 pre res) := by
  refine SpOK.two rfl fun args hp => ?_
  simp only [spZZZZI] at hp ⊢
  split at hp
  · exact h _ _ _ _ _ _ _ _ _ hp
  · exact hp.elim
@[push_cast] def spZZZZII (k : Nat) (pre : Bool → List Int → Bool → List Int → Bool → List Int → Bool → List Int → Int → Int → Prop) (res : Bool → List Int → Bool → List Int → Bool → List Int → Bool → List Int → Int → Int → AV) : Sp where
  kind := k
  pre | [.agg [.raw (.bool b0), .ns .u64 x0], .agg [.raw (.bool b1), .ns .u64 x1], .agg [.raw (.bool b2), .ns .u64 x2], .agg [.raw (.bool b3), .ns .u64 x3], .raw (.int .i64 n4), .raw (.int .i64 n5)] => pre b0 x0 b1 x1 b2 x2 b3 x3 n4 n5
      | _ => False
  res | [.agg [.raw (.bool b0), .ns .u64 x0], .agg [.raw (.bool b1), .ns .u64 x1], .agg [.raw (.bool b2), .ns .u64 x2], .agg [.raw (.bool b3), .ns .u64 x3], .raw (.int .i64 n4), .raw (.int .i64 n5)] => res b0 x0 b1 x1 b2 x2 b3 x3 n4 n5
      | _ => .any
theorem SpOK.ZZZZII {P : Program} {f : FuncId} {pre : Bool → List Int → Bool → List Int → Bool → List Int → Bool → List Int → Int → Int → Prop} {res : Bool → List Int → Bool → List Int → Bool → List Int → Bool → List Int → Int → Int → AV} (h : ∀ b0 x0 b1 x1 b2 x2 b3 x3 n4 n5, pre b0 x0 b1 x1 b2 x2 b3 x3 n4 n5 → ACall P f [.agg [.raw (.bool b0), .ns .u64 x0], .agg [.raw (.bool b1), .ns .u64 x1], .agg [.raw (.bool b2), .ns .u64 x2], .agg [.raw (.bool b3), .ns .u64 x3], .raw (.int .i64 n4), .raw (.int .i64 n5)] (res b0 x0 b1 x1 b2 x2 b3 x3 n4 n5)) : SpOK P f (spZZZZII 0 pre res) := by
  refine SpOK.zero rfl fun args hp => ?_
  simp only [spZZZZII] at hp ⊢
  split at hp
  · exact h _ _ _ _ _ _ _ _ _ _ hp
  · exact hp.elim
theorem SpOK.ZZZZIIf {P : Program} {f : FuncId} {pre : Bool → List Int → Bool → List Int → Bool → List Int → Bool → List Int → Int → Int → Prop} {res : Bool → List Int → Bool → List Int → Bool → List Int → Bool → List Int → Int → Int → AV} (h : ∀ b0 x0 b1 x1 b2 x2 b3 x3 n4 n5, pre b0 x0 b1 x1 b2 x2 b3 x3 n4 n5 → FCall P f [.agg [.raw (.bool b0), .ns .u64 x0], .agg [.raw (.bool b1), .ns .u64 x1], .agg [.raw (.bool b2), .ns .u64 x2], .agg [.raw (.bool b3), .ns .u64 x3], .raw (.int .i64 n4), .raw (.int .i64 n5)] (res b0 x0 b1 x1 b2 x2 b3 x3 n4 n5)) : SpOK P f (spZZZZII 1 pre res) := by
  refine SpOK.one rfl fun args hp => ?_
  simp only [spZZZZII] at hp ⊢
  split at hp
  · exact h _ _ _ _ _ _ _ _ _ _ hp
  · exact hp.elim
theorem SpOK.ZZZZIIm {P : Program} {f : FuncId} {pre : Bool → List Int → Bool → List Int → Bool → List Int → Bool → List Int → Int → Int → Prop} {res : Bool → List Int → Bool → List Int → Bool → List Int → Bool → List Int → Int → Int → AV} (h : ∀ b0 x0 b1 x1 b2 x2 b3 x3 n4 n5, pre b0 x0 b1 x1 b2 x2 b3 x3 n4 n5 → MCall P f [.agg [.raw (.bool b0), .ns .u64 x0], .agg [.raw (.bool b1), .ns .u64 x1], .agg [.raw (.bool b2), .ns .u64 x2], .agg [.raw (.bool b3), .ns .u64 x3], .raw (.int .i64 n4), .raw (.int .i64 n5)] (res b0 x0 b1 x1 b2 x2 b3 x3 n4 n5)) : SpOK P f (spZZZZII 2 pre res) := by
  refine SpOK.two rfl fun args hp => ?_
  simp only [spZZZZII] at hp ⊢
  split at hp
  · exact h _ _ _ _ _ _ _ _ _ _ hp
  · exact hp.elim
@[push_cast] def spZVVV (k : Nat) (pre : Bool → List Int → Bool → List Int → Bool → List Int → Bool → List Int → Prop) (res : Bool → List Int → Bool → List Int → Bool → List Int → Bool → List Int → AV) : Sp where
  kind := k
  pre | [.agg [.raw (.bool b0), .ns .u64 x0], .vp [.raw (.bool b1), .ns .u64 x1], .vp [.raw (.bool b2), .ns .u64 x2], .vp [.raw (.bool b3), .ns .u64 x3]] => pre b0 x0 b1 x1 b2 x2 b3 x3
      | _ => False
  res | [.agg [.raw (.bool b0), .ns .u64 x0], .vp [.raw (.bool b1), .ns .u64 x1], .vp [.raw (.bool b2), .ns .u64 x2], .vp [.raw (.bool b3), .ns .u64 x3]] => res b0 x0 b1 x1 b2 x2 b3 x3
      | _ => .any
theorem SpOK.ZVVV {P : Program} {f : FuncId} {pre : Bool → List Int → Bool → List Int → Bool → List Int → Bool → List Int → Prop} {res : Bool → List Int → Bool → List Int → Bool → List Int → Bool → List Int → AV} (h : ∀ b0 x0 b1 x1 b2 x2 b3 x3, pre b0 x0 b1 x1 b2 x2 b3 x3 → ACall P f [.agg [.raw (.bool b0), .ns .u64 x0], .vp [.raw (.bool b1), .ns .u64 x1], .vp [.raw (.bool b2), .ns .u64 x2], .vp [.raw (.bool b3), .ns .u64 x3]] (res b0 x0 b1 x1 b2 x2 b3 x3)) : SpOK P f (spZVVV 0 pre res) := by
  refine SpOK.zero rfl fun args hp => ?_
  simp only [spZVVV] at hp ⊢
  split at hp
  · exact h _ _ _ _ _ _ _ _ hp
  · exact hp.elim
theorem SpOK.ZVVVf {P : Program} {f : FuncId} {pre : Bool → List Int → Bool → List Int → Bool → List Int → Bool → List Int → Prop} {res : Bool → List Int → Bool → List Int → Bool → List Int → Bool → List Int → AV} (h : ∀ b0 x0 b1 x1 b2 x2 b3 x3, pre b0 x0 b1 x1 b2 x2 b3 x3 → FCall P f [.agg [.raw (.bool b0), .ns .u64 x0], .vp [.raw (.bool b1), .ns .u64 x1], .vp [.raw (.bool b2), .ns .u64 x2], .vp [.raw (.bool b3), .ns .u64 x3]] (res b0 x0 b1 x1 b2 x2 b3 x3)) : SpOK P f (spZVVV 1 pre res) := by
  refine SpOK.one rfl fun args hp => ?_
  simp only [spZVVV] at hp ⊢
  split at hp
  · exact h _ _ _ _ _ _ _ _ hp
  · exact hp.elim
theorem SpOK.ZVVVm {P : Program} {f : FuncId} {pre : Bool → List Int → Bool → List Int → Bool → List Int → Bool → List Int → Prop} {res : Bool → List Int → Bool → List Int → Bool → List Int → Bool → List Int → AV} (h : ∀ b0 x0 b1 x1 b2 x2 b3 x3, pre b0 x0 b1 x1 b2 x2 b3 x3 → MCall P f [.agg [.raw (.bool b0), .ns .u64 x0], .vp [.raw (.bool b1), .ns .u64 x1], .vp [.raw (.bool b2), .ns .u64 x2], .vp [.raw (.bool b3), .ns .u64 x3]] (res b0 x0 b1 x1 b2 x2 b3 x3)) : SpOK P f (spZVVV 2 pre res) := by
  refine SpOK.two rfl fun args hp => ?_
  simp only [spZVVV] at hp ⊢
  split at hp
  · exact h _ _ _ _ _ _ _ _ hp
  · exact hp.elim
end Go.Hl

/- Contracts' shapes. -/
import Derived.Test.YtccbmjkhplmgnaaGreatHlE
set_option linter.unusedVariables false
set_option linter.unusedSimpArgs false
namespace Go.Hl
open Go Go.RowKit
@[push_cast] def spN (k : Nat) (pre : List Int → Prop) (res : List Int → AV) : Sp where
  kind := k
  pre | [.ns .u64 x0] => pre x0
      | _ => False
  res | [.ns .u64 x0] => res x0
      | _ => .any
theorem SpOK.N {P : Program} {f : FuncId} {pre : List Int → Prop} {res : List Int → AV} (h : ∀ x0, pre x0 → ACall P f [.ns .u64 x0] (res x0)) : SpOK P f (spN 0 pre res) := by
  refine SpOK.zero rfl fun args hp => ?_
  simp only [spN] at hp ⊢
  split at hp
  · exact h _ hp
  · exact hp.elim
theorem SpOK.Nf {P : Program} {f : FuncId} {pre : List Int → Prop} {res : List Int → AV} (h : ∀ x0, pre x0 → FCall P f [.ns .u64 x0] (res x0)) : SpOK P f (spN 1 pre res) := by
  refine SpOK.one rfl fun args hp => ?_
  simp only [spN] at hp ⊢
  split at hp
  · exact h _ hp
  · exact hp.elim
theorem SpOK.Nm {P : Program} {f : FuncId} {pre : List Int → Prop} {res : List Int → AV} (h : ∀ x0, pre x0 → MCall P f [.ns .u64 x0] (res x0)) : SpOK P f (spN 2 pre res) := by
  refine SpOK.two rfl fun args hp => ?_
  simp only [spN] at hp ⊢
  split at hp
  · exact h _ hp
  · exact hp.elim
@[push_cast] def spNN (k : Nat) (pre : List Int → List Int → Prop) (res : List Int → List Int → AV) : Sp where
  kind := k
  pre | [.ns .u64 x0, .ns .u64 x1] => pre x0 x1
      | _ => False
  res | [.ns .u64 x0, .ns .u64 x1] => res x0 x1
      | _ => .any
theorem SpOK.NN {P : Program} {f : FuncId} {pre : List Int → List Int → Prop} {res : List Int → List Int → AV} (h : ∀ x0 x1, pre x0 x1 → ACall P f [.ns .u64 x0, .ns .u64 x1] (res x0 x1)) : SpOK P f (spNN 0 pre res) := by
  refine SpOK.zero rfl fun args hp => ?_
  simp only [spNN] at hp ⊢
  split at hp
  · exact h _ _ hp
  · exact hp.elim
theorem SpOK.NNf {P : Program} {f : FuncId} {pre : List Int → List Int → Prop} {res : List Int → List Int → AV} (h : ∀ x0 x1, pre x0 x1 → FCall P f [.ns .u64 x0, .ns .u64 x1] (res x0 x1)) : SpOK P f (spNN 1 pre res) := by
  refine SpOK.one rfl fun args hp => ?_
  simp only [spNN] at hp ⊢
  split at hp
  · exact h _ _ hp
  · exact hp.elim
theorem SpOK.NNm {P : Program} {f : FuncId} {pre : List Int → List Int → Prop} {res : List Int → List Int → AV} (h : ∀ x0 x1, pre x0 x1 → MCall P f [.ns .u64 x0, .ns .u64 x1] (res x0 x1)) : SpOK P f (spNN 2 pre res) := by
  refine SpOK.two rfl fun args hp => ?_
  simp only [spNN] at hp ⊢
  split at hp
  · exact h _ _ hp
  · exact hp.elim
@[push_cast] def spNI (k : Nat) (pre : List Int → Int → Prop) (res : List Int → Int → AV) : Sp where
  kind := k
  pre | [.ns .u64 x0, .raw (.int .i64 n1)] => pre x0 n1
      | _ => False
  res | [.ns .u64 x0, .raw (.int .i64 n1)] => res x0 n1
      | _ => .any
theorem SpOK.NI {P : Program} {f : FuncId} {pre : List Int → Int → Prop} {res : List Int → Int → AV} (h : ∀ x0 n1, pre x0 n1 → ACall P f [.ns .u64 x0, .raw (.int .i64 n1)] (res x0 n1)) : SpOK P f (spNI 0 pre res) := by
  refine SpOK.zero rfl fun args hp => ?_
  simp only [spNI] at hp ⊢
  split at hp
  · exact h _ _ hp
  · exact hp.elim
theorem SpOK.NIf {P : Program} {f : FuncId} {pre : List Int → Int → Prop} {res : List Int → Int → AV} (h : ∀ x0 n1, pre x0 n1 → FCall P f [.ns .u64 x0, .raw (.int .i64 n1)] (res x0 n1)) : SpOK P f (spNI 1 pre res) := by
  refine SpOK.one rfl fun args hp => ?_
  simp only [spNI] at hp ⊢
  split at hp
  · exact h _ _ hp
  · exact hp.elim
theorem SpOK.NIm {P : Program} {f : FuncId} {pre : List Int → Int → Prop} {res : List Int → Int → AV} (h : ∀ x0 n1, pre x0 n1 → MCall P f [.ns .u64 x0, .raw (.int .i64 n1)] (res x0 n1)) : SpOK P f (spNI 2 pre res) := by
  refine SpOK.two rfl fun args hp => ?_
  simp only [spNI] at hp ⊢
  split at hp
  · exact h _ _ hp
  · exact hp.elim
@[push_cast] def spNNN (k : Nat) (pre : List Int → List Int → List Int → Prop) (res : List Int → List Int → List Int → AV) : Sp where
  kind := k
  pre | [.ns .u64 x0, .ns .u64 x1, .ns .u64 x2] => pre x0 x1 x2
      | _ => False
  res | [.ns .u64 x0, .ns .u64 x1, .ns .u64 x2] => res x0 x1 x2
      | _ => .any
theorem SpOK.NNN {P : Program} {f : FuncId} {pre : List Int → List Int → List Int → Prop} {res : List Int → List Int → List Int → AV} (h : ∀ x0 x1 x2, pre x0 x1 x2 → ACall P f [.ns .u64 x0, .ns .u64 x1, .ns .u64 x2] (res x0 x1 x2)) : SpOK P f (spNNN 0 pre res) := by
  refine SpOK.zero rfl fun args hp => ?_
  simp only [spNNN] at hp ⊢
  split at hp
  · exact h _ _ _ hp
  · exact hp.elim
theorem SpOK.NNNf {P : Program} {f : FuncId} {pre : List Int → List Int → List Int → Prop} {res : List Int → List Int → List Int → AV} (h : ∀ x0 x1 x2, pre x0 x1 x2 → FCall P f [.ns .u64 x0, .ns .u64 x1, .ns .u64 x2] (res x0 x1 x2)) : SpOK P f (spNNN 1 pre res) := by
  refine SpOK.one rfl fun args hp => ?_
  simp only [spNNN] at hp ⊢
  split at hp
  · exact h _ _ _ hp
  · exact hp.elim
theorem SpOK.NNNm {P : Program} {f : FuncId} {pre : List Int → List Int → List Int → Prop} {res : List Int → List Int → List Int → AV} (h : ∀ x0 x1 x2, pre x0 x1 x2 → MCall P f [.ns .u64 x0, .ns .u64 x1, .ns .u64 x2] (res x0 x1 x2)) : SpOK P f (spNNN 2 pre res) := by
  refine SpOK.two rfl fun args hp => ?_
  simp only [spNNN] at hp ⊢
  split at hp
  · exact h _ _ _ hp
  · exact hp.elim
@[push_cast] def spS (k : Nat) (pre : ByteArray → Prop) (res : ByteArray → AV) : Sp where
  kind := k
  pre | [.raw (.string s0)] => pre s0
      | _ => False
  res | [.raw (.string s0)] => res s0
      | _ => .any
theorem SpOK.S {P : Program} {f : FuncId} {pre : ByteArray → Prop} {res : ByteArray → AV} (h : ∀ s0, pre s0 → ACall P f [.raw (.string s0)] (res s0)) : SpOK P f (spS 0 pre res) := by
  refine SpOK.zero rfl fun args hp => ?_
  simp only [spS] at hp ⊢
  split at hp
  · exact h _ hp
  · exact hp.elim
theorem SpOK.Sf {P : Program} {f : FuncId} {pre : ByteArray → Prop} {res : ByteArray → AV} (h : ∀ s0, pre s0 → FCall P f [.raw (.string s0)] (res s0)) : SpOK P f (spS 1 pre res) := by
  refine SpOK.one rfl fun args hp => ?_
  simp only [spS] at hp ⊢
  split at hp
  · exact h _ hp
  · exact hp.elim
theorem SpOK.Sm {P : Program} {f : FuncId} {pre : ByteArray → Prop} {res : ByteArray → AV} (h : ∀ s0, pre s0 → MCall P f [.raw (.string s0)] (res s0)) : SpOK P f (spS 2 pre res) := by
  refine SpOK.two rfl fun args hp => ?_
  simp only [spS] at hp ⊢
  split at hp
  · exact h _ hp
  · exact hp.elim
@[push_cast] def spSN (k : Nat) (pre : ByteArray → List Int → Prop) (res : ByteArray → List Int → AV) : Sp where
  kind := k
  pre | [.raw (.string s0), .ns .u64 x1] => pre s0 x1
      | _ => False
  res | [.raw (.string s0), .ns .u64 x1] => res s0 x1
      | _ => .any
theorem SpOK.SN {P : Program} {f : FuncId} {pre : ByteArray → List Int → Prop} {res : ByteArray → List Int → AV} (h : ∀ s0 x1, pre s0 x1 → ACall P f [.raw (.string s0), .ns .u64 x1] (res s0 x1)) : SpOK P f (spSN 0 pre res) := by
  refine SpOK.zero rfl fun args hp => ?_
  simp only [spSN] at hp ⊢
  split at hp
  · exact h _ _ hp
  · exact hp.elim
theorem SpOK.SNf {P : Program} {f : FuncId} {pre : ByteArray → List Int → Prop} {res : ByteArray → List Int → AV} (h : ∀ s0 x1, pre s0 x1 → FCall P f [.raw (.string s0), .ns .u64 x1] (res s0 x1)) : SpOK P f (spSN 1 pre res) := by
  refine SpOK.one rfl fun args hp => ?_
  simp only [spSN] at hp ⊢
  split at hp
  · exact h _ _ hp
  · exact hp.elim
theorem SpOK.SNm {P : Program} {f : FuncId} {pre : ByteArray → List Int → Prop} {res : ByteArray → List Int → AV} (h : ∀ s0 x1, pre s0 x1 → MCall P f [.raw (.string s0), .ns .u64 x1] (res s0 x1)) : SpOK P f (spSN 2 pre res) := by
  refine SpOK.two rfl fun args hp => ?_
  simp only [spSN] at hp ⊢
  split at hp
  · exact h _ _ hp
  · exact hp.elim
@[push_cast] def spI (k : Nat) (pre : Int → Prop) (res : Int → AV) : Sp where
  kind := k
  pre | [.raw (.int .i64 n0)] => pre n0
      | _ => False
  res | [.raw (.int .i64 n0)] => res n0
      | _ => .any
theorem SpOK.I {P : Program} {f : FuncId} {pre : Int → Prop} {res : Int → AV} (h : ∀ n0, pre n0 → ACall P f [.raw (.int .i64 n0)] (res n0)) : SpOK P f (spI 0 pre res) := by
  refine SpOK.zero rfl fun args hp => ?_
  simp only [spI] at hp ⊢
  split at hp
  · exact h _ hp
  · exact hp.elim
theorem SpOK.If {P : Program} {f : FuncId} {pre : Int → Prop} {res : Int → AV} (h : ∀ n0, pre n0 → FCall P f [.raw (.int .i64 n0)] (res n0)) : SpOK P f (spI 1 pre res) := by
  refine SpOK.one rfl fun args hp => ?_
  simp only [spI] at hp ⊢
  split at hp
  · exact h _ hp
  · exact hp.elim
theorem SpOK.Im {P : Program} {f : FuncId} {pre : Int → Prop} {res : Int → AV} (h : ∀ n0, pre n0 → MCall P f [.raw (.int .i64 n0)] (res n0)) : SpOK P f (spI 2 pre res) := by
  refine SpOK.two rfl fun args hp => ?_
  simp only [spI] at hp ⊢
  split at hp
  · exact h _ hp
  · exact hp.elim
@[push_cast] def spU (k : Nat) (pre : Int → Prop) (res : Int → AV) : Sp where
  kind := k
  pre | [.raw (.int .u64 u0)] => pre u0
      | _ => False
  res | [.raw (.int .u64 u0)] => res u0
      | _ => .any
theorem SpOK.U {P : Program} {f : FuncId} {pre : Int → Prop} {res : Int → AV} (h : ∀ u0, pre u0 → ACall P f [.raw (.int .u64 u0)] (res u0)) : SpOK P f (spU 0 pre res) := by
  refine SpOK.zero rfl fun args hp => ?_
  simp only [spU] at hp ⊢
  split at hp
  · exact h _ hp
  · exact hp.elim
theorem SpOK.Uf {P : Program} {f : FuncId} {pre : Int → Prop} {res : Int → AV} (h : ∀ u0, pre u0 → FCall P f [.raw (.int .u64 u0)] (res u0)) : SpOK P f (spU 1 pre res) := by
  refine SpOK.one rfl fun args hp => ?_
  simp only [spU] at hp ⊢
  split at hp
  · exact h _ hp
  · exact hp.elim
theorem SpOK.Um {P : Program} {f : FuncId} {pre : Int → Prop} {res : Int → AV} (h : ∀ u0, pre u0 → MCall P f [.raw (.int .u64 u0)] (res u0)) : SpOK P f (spU 2 pre res) := by
  refine SpOK.two rfl fun args hp => ?_
  simp only [spU] at hp ⊢
  split at hp
  · exact h _ hp
  · exact hp.elim
@[push_cast] def spUU (k : Nat) (pre : Int → Int → Prop) (res : Int → Int → AV) : Sp where
  kind := k
  pre | [.raw (.int .u64 u0), .raw (.int .u64 u1)] => pre u0 u1
      | _ => False
  res | [.raw (.int .u64 u0), .raw (.int .u64 u1)] => res u0 u1
      | _ => .any
theorem SpOK.UU {P : Program} {f : FuncId} {pre : Int → Int → Prop} {res : Int → Int → AV} (h : ∀ u0 u1, pre u0 u1 → ACall P f [.raw (.int .u64 u0), .raw (.int .u64 u1)] (res u0 u1)) : SpOK P f (spUU 0 pre res) := by
  refine SpOK.zero rfl fun args hp => ?_
  simp only [spUU] at hp ⊢
  split at hp
  · exact h _ _ hp
  · exact hp.elim
theorem SpOK.UUf {P : Program} {f : FuncId} {pre : Int → Int → Prop} {res : Int → Int → AV} (h : ∀ u0 u1, pre u0 u1 → FCall P f [.raw (.int .u64 u0), .raw (.int .u64 u1)] (res u0 u1)) : SpOK P f (spUU 1 pre res) := by
  refine SpOK.one rfl fun args hp => ?_
  simp only [spUU] at hp ⊢
  split at hp
  · exact h _ _ hp
  · exact hp.elim
theorem SpOK.UUm {P : Program} {f : FuncId} {pre : Int → Int → Prop} {res : Int → Int → AV} (h : ∀ u0 u1, pre u0 u1 → MCall P f [.raw (.int .u64 u0), .raw (.int .u64 u1)] (res u0 u1)) : SpOK P f (spUU 2 pre res) := by
  refine SpOK.two rfl fun args hp => ?_
  simp only [spUU] at hp ⊢
  split at hp
  · exact h _ _ hp
  · exact hp.elim
@[push_cast] def spUUU (k : Nat) (pre : Int → Int → Int → Prop) (res : Int → Int → Int → AV) : Sp where
  kind := k
  pre | [.raw (.int .u64 u0), .raw (.int .u64 u1), .raw (.int .u64 u2)] => pre u0 u1 u2
      | _ => False
  res | [.raw (.int .u64 u0), .raw (.int .u64 u1), .raw (.int .u64 u2)] => res u0 u1 u2
      | _ => .any
theorem SpOK.UUU {P : Program} {f : FuncId} {pre : Int → Int → Int → Prop} {res : Int → Int → Int → AV} (h : ∀ u0 u1 u2, pre u0 u1 u2 → ACall P f [.raw (.int .u64 u0), .raw (.int .u64 u1), .raw (.int .u64 u2)] (res u0 u1 u2)) : SpOK P f (spUUU 0 pre res) := by
  refine SpOK.zero rfl fun args hp => ?_
  simp only [spUUU] at hp ⊢
  split at hp
  · exact h _ _ _ hp
  · exact hp.elim
theorem SpOK.UUUf {P : Program} {f : FuncId} {pre : Int → Int → Int → Prop} {res : Int → Int → Int → AV} (h : ∀ u0 u1 u2, pre u0 u1 u2 → FCall P f [.raw (.int .u64 u0), .raw (.int .u64 u1), .raw (.int .u64 u2)] (res u0 u1 u2)) : SpOK P f (spUUU 1 pre res) := by
  refine SpOK.one rfl fun args hp => ?_
  simp only [spUUU] at hp ⊢
  split at hp
  · exact h _ _ _ hp
  · exact hp.elim
theorem SpOK.UUUm {P : Program} {f : FuncId} {pre : Int → Int → Int → Prop} {res : Int → Int → Int → AV} (h : ∀ u0 u1 u2, pre u0 u1 u2 → MCall P f [.raw (.int .u64 u0), .raw (.int .u64 u1), .raw (.int .u64 u2)] (res u0 u1 u2)) : SpOK P f (spUUU 2 pre res) := by
  refine SpOK.two rfl fun args hp => ?_
  simp only [spUUU] at hp ⊢
  split at hp
  · exact h _ _ _ hp
  · exact hp.elim
@[push_cast] def spZ (k : Nat) (pre : Bool → List Int → Prop) (res : Bool → List Int → AV) : Sp where
  kind := k
  pre | [.agg [.raw (.bool b0), .ns .u64 x0]] => pre b0 x0
      | _ => False
  res | [.agg [.raw (.bool b0), .ns .u64 x0]] => res b0 x0
      | _ => .any
theorem SpOK.Z {P : Program} {f : FuncId} {pre : Bool → List Int → Prop} {res : Bool → List Int → AV} (h : ∀ b0 x0, pre b0 x0 → ACall P f [.agg [.raw (.bool b0), .ns .u64 x0]] (res b0 x0)) : SpOK P f (spZ 0 pre res) := by
  refine SpOK.zero rfl fun args hp => ?_
  simp only [spZ] at hp ⊢
  split at hp
  · exact h _ _ hp
  · exact hp.elim
theorem SpOK.Zf {P : Program} {f : FuncId} {pre : Bool → List Int → Prop} {res : Bool → List Int → AV} (h : ∀ b0 x0, pre b0 x0 → FCall P f [.agg [.raw (.bool b0), .ns .u64 x0]] (res b0 x0)) : SpOK P f (spZ 1 pre res) := by
  refine SpOK.one rfl fun args hp => ?_
  simp only [spZ] at hp ⊢
  split at hp
  · exact h _ _ hp
  · exact hp.elim
theorem SpOK.Zm {P : Program} {f : FuncId} {pre : Bool → List Int → Prop} {res : Bool → List Int → AV} (h : ∀ b0 x0, pre b0 x0 → MCall P f [.agg [.raw (.bool b0), .ns .u64 x0]] (res b0 x0)) : SpOK P f (spZ 2 pre res) := by
  refine SpOK.two rfl fun args hp => ?_
  simp only [spZ] at hp ⊢
  split at hp
  · exact h _ _ hp
  · exact hp.elim
@[push_cast] def spZZ (k : Nat) (pre : Bool → List Int → Bool → List Int → Prop) (res : Bool → List Int → Bool → List Int → AV) : Sp where
  kind := k
  pre | [.agg [.raw (.bool b0), .ns .u64 x0], .agg [.raw (.bool b1), .ns .u64 x1]] => pre b0 x0 b1 x1
      | _ => False
  res | [.agg [.raw (.bool b0), .ns .u64 x0], .agg [.raw (.bool b1), .ns .u64 x1]] => res b0 x0 b1 x1
      | _ => .any
theorem SpOK.ZZ {P : Program} {f : FuncId} {pre : Bool → List Int → Bool → List Int → Prop} {res : Bool → List Int → Bool → List Int → AV} (h : ∀ b0 x0 b1 x1, pre b0 x0 b1 x1 → ACall P f [.agg [.raw (.bool b0), .ns .u64 x0], .agg [.raw (.bool b1), .ns .u64 x1]] (res b0 x0 b1 x1)) : SpOK P f (spZZ 0 pre res) := by
  refine SpOK.zero rfl fun args hp => ?_
  simp only [spZZ] at hp ⊢
  split at hp
  · exact h _ _ _ _ hp
  · exact hp.elim
theorem SpOK.ZZf {P : Program} {f : FuncId} {pre : Bool → List Int → Bool → List Int → Prop} {res : Bool → List Int → Bool → List Int → AV} (h : ∀ b0 x0 b1 x1, pre b0 x0 b1 x1 → FCall P f [.agg [.raw (.bool b0), .ns .u64 x0], .agg [.raw (.bool b1), .ns .u64 x1]] (res b0 x0 b1 x1)) : SpOK P f (spZZ 1 pre res) := by
  refine SpOK.one rfl fun args hp => ?_
  simp only [spZZ] at hp ⊢
  split at hp
  · exact h _ _ _ _ hp
  · exact hp.elim
theorem SpOK.ZZm {P : Program} {f : FuncId} {pre : Bool → List Int → Bool → List Int → Prop} {res : Bool → List Int → Bool → List Int → AV} (h : ∀ b0 x0 b1 x1, pre b0 x0 b1 x1 → MCall P f [.agg [.raw (.bool b0), .ns .u64 x0], .agg [.raw (.bool b1), .ns .u64 x1]] (res b0 x0 b1 x1)) : SpOK P f (spZZ 2 pre res) := by
  refine SpOK.two rfl fun args hp => ?_
  simp only [spZZ] at hp ⊢
  split at hp
  · exact h _ _ _ _ hp
  · exact hp.elim
@[push_cast] def spZI (k : Nat) (pre : Bool → List Int → Int → Prop) (res : Bool → List Int → Int → AV) : Sp where
  kind := k
  pre | [.agg [.raw (.bool b0), .ns .u64 x0], .raw (.int .i64 n1)] => pre b0 x0 n1
      | _ => False
  res | [.agg [.raw (.bool b0), .ns .u64 x0], .raw (.int .i64 n1)] => res b0 x0 n1
      | _ => .any
theorem SpOK.ZI {P : Program} {f : FuncId} {pre : Bool → List Int → Int → Prop} {res : Bool → List Int → Int → AV} (h : ∀ b0 x0 n1, pre b0 x0 n1 → ACall P f [.agg [.raw (.bool b0), .ns .u64 x0], .raw (.int .i64 n1)] (res b0 x0 n1)) : SpOK P f (spZI 0 pre res) := by
  refine SpOK.zero rfl fun args hp => ?_
  simp only [spZI] at hp ⊢
  split at hp
  · exact h _ _ _ hp
  · exact hp.elim
theorem SpOK.ZIf {P : Program} {f : FuncId} {pre : Bool → List Int → Int → Prop} {res : Bool → List Int → Int → AV} (h : ∀ b0 x0 n1, pre b0 x0 n1 → FCall P f [.agg [.raw (.bool b0), .ns .u64 x0], .raw (.int .i64 n1)] (res b0 x0 n1)) : SpOK P f (spZI 1 pre res) := by
  refine SpOK.one rfl fun args hp => ?_
  simp only [spZI] at hp ⊢
  split at hp
  · exact h _ _ _ hp
  · exact hp.elim
theorem SpOK.ZIm {P : Program} {f : FuncId} {pre : Bool → List Int → Int → Prop} {res : Bool → List Int → Int → AV} (h : ∀ b0 x0 n1, pre b0 x0 n1 → MCall P f [.agg [.raw (.bool b0), .ns .u64 x0], .raw (.int .i64 n1)] (res b0 x0 n1)) : SpOK P f (spZI 2 pre res) := by
  refine SpOK.two rfl fun args hp => ?_
  simp only [spZI] at hp ⊢
  split at hp
  · exact h _ _ _ hp
  · exact hp.elim
@[push_cast] def spZZZ (k : Nat) (pre : Bool → List Int → Bool → List Int → Bool → List Int → Prop) (res : Bool → List Int → Bool → List Int → Bool → List Int → AV) : Sp where
  kind := k
  pre | [.agg [.raw (.bool b0), .ns .u64 x0], .agg [.raw (.bool b1), .ns .u64 x1], .agg [.raw (.bool b2), .ns .u64 x2]] => pre b0 x0 b1 x1 b2 x2
      | _ => False
  res | [.agg [.raw (.bool b0), .ns .u64 x0], .agg [.raw (.bool b1), .ns .u64 x1], .agg [.raw (.bool b2), .ns .u64 x2]] => res b0 x0 b1 x1 b2 x2
      | _ => .any
theorem SpOK.ZZZ {P : Program} {f : FuncId} {pre : Bool → List Int → Bool → List Int → Bool → List Int → Prop} {res : Bool → List Int → Bool → List Int → Bool → List Int → AV} (h : ∀ b0 x0 b1 x1 b2 x2, pre b0 x0 b1 x1 b2 x2 → ACall P f [.agg [.raw (.bool b0), .ns .u64 x0], .agg [.raw (.bool b1), .ns .u64 x1], .agg [.raw (.bool b2), .ns .u64 x2]] (res b0 x0 b1 x1 b2 x2)) : SpOK P f (spZZZ 0 pre res) := by
  refine SpOK.zero rfl fun args hp => ?_
  simp only [spZZZ] at hp ⊢
  split at hp
  · exact h _ _ _ _ _ _ hp
  · exact hp.elim
theorem SpOK.ZZZf {P : Program} {f : FuncId} {pre : Bool → List Int → Bool → List Int → Bool → List Int → Prop} {res : Bool → List Int → Bool → List Int → Bool → List Int → AV} (h : ∀ b0 x0 b1 x1 b2 x2, pre b0 x0 b1 x1 b2 x2 → FCall P f [.agg [.raw (.bool b0), .ns .u64 x0], .agg [.raw (.bool b1), .ns .u64 x1], .agg [.raw (.bool b2), .ns .u64 x2]] (res b0 x0 b1 x1 b2 x2)) : SpOK P f (spZZZ 1 pre res) := by
  refine SpOK.one rfl fun args hp => ?_
  simp only [spZZZ] at hp ⊢
  split at hp
  · exact h _ _ _ _ _ _ hp
  · exact hp.elim
theorem SpOK.ZZZm {P : Program} {f : FuncId} {pre : Bool → List Int → Bool → List Int → Bool → List Int → Prop} {res : Bool → List Int → Bool → List Int → Bool → List Int → AV} (h : ∀ b0 x0 b1 x1 b2 x2, pre b0 x0 b1 x1 b2 x2 → MCall P f [.agg [.raw (.bool b0), .ns .u64 x0], .agg [.raw (.bool b1), .ns .u64 x1], .agg [.raw (.bool b2), .ns .u64 x2]] (res b0 x0 b1 x1 b2 x2)) : SpOK P f (spZZZ 2 pre res) := by
  refine SpOK.two rfl fun args hp => ?_
  simp only [spZZZ] at hp ⊢
  split at hp
  · exact h _ _ _ _ _ _ hp
  · exact hp.elim
@[push_cast] def spZZI (k : Nat) (pre : Bool → List Int → Bool → List Int → Int → Prop) (res : Bool → List Int → Bool → List Int → Int → AV) : Sp where
  kind := k
  pre | [.agg [.raw (.bool b0), .ns .u64 x0], .agg [.raw (.bool b1), .ns .u64 x1], .raw (.int .i64 n2)] => pre b0 x0 b1 x1 n2
      | _ => False
  res | [.agg [.raw (.bool b0), .ns .u64 x0], .agg [.raw (.bool b1), .ns .u64 x1], .raw (.int .i64 n2)] => res b0 x0 b1 x1 n2
      | _ => .any
theorem SpOK.ZZI {P : Program} {f : FuncId} {pre : Bool → List Int → Bool → List Int → Int → Prop} {res : Bool → List Int → Bool → List Int → Int → AV} (h : ∀ b0 x0 b1 x1 n2, pre b0 x0 b1 x1 n2 → ACall P f [.agg [.raw (.bool b0), .ns .u64 x0], .agg [.raw (.bool b1), .ns .u64 x1], .raw (.int .i64 n2)] (res b0 x0 b1 x1 n2)) : SpOK P f (spZZI 0 pre res) := by
  refine SpOK.zero rfl fun args hp => ?_
  simp only [spZZI] at hp ⊢
  split at hp
  · exact h _ _ _ _ _ hp
  · exact hp.elim
theorem SpOK.ZZIf {P : Program} {f : FuncId} {pre : Bool → List Int → Bool → List Int → Int → Prop} {res : Bool → List Int → Bool → List Int → Int → AV} (h : ∀ b0 x0 b1 x1 n2, pre b0 x0 b1 x1 n2 → FCall P f [.agg [.raw (.bool b0), .ns .u64 x0], .agg [.raw (.bool b1), .ns .u64 x1], .raw (.int .i64 n2)] (res b0 x0 b1 x1 n2)) : SpOK P f (spZZI 1 pre res) := by
  refine SpOK.one rfl fun args hp => ?_
  simp only [spZZI] at hp ⊢
  split at hp
  · exact h _ _ _ _ _ hp
  · exact hp.elim
theorem SpOK.ZZIm {P : Program} {f : FuncId} {pre : Bool → List Int → Bool → List Int → Int → Prop} {res : Bool → List Int → Bool → List Int → Int → AV} (h : ∀ b0 x0 b1 x1 n2, pre b0 x0 b1 x1 n2 → MCall P f [.agg [.raw (.bool b0), .ns .u64 x0], .agg [.raw (.bool b1), .ns .u64 x1], .raw (.int .i64 n2)] (res b0 x0 b1 x1 n2)) : SpOK P f (spZZI 2 pre res) := by
  refine SpOK.two rfl fun args hp => ?_
  simp only [spZZI] at hp ⊢
  split at hp
  · exact h _ _ _ _ _ hp
  · exact hp.elim
@[push_cast] def spNU (k : Nat) (pre : List Int → Int → Prop) (res : List Int → Int → AV) : Sp where
  kind := k
  pre | [.ns .u64 x0, .raw (.int .u64 u1)] => pre x0 u1
      | _ => False
  res | [.ns .u64 x0, .raw (.int .u64 u1)] => res x0 u1
      | _ => .any
theorem SpOK.NU {P : Program} {f : FuncId} {pre : List Int → Int → Prop} {res : List Int → Int → AV} (h : ∀ x0 u1, pre x0 u1 → ACall P f [.ns .u64 x0, .raw (.int .u64 u1)] (res x0 u1)) : SpOK P f (spNU 0 pre res) := by
  refine SpOK.zero rfl fun args hp => ?_
  simp only [spNU] at hp ⊢
  split at hp
  · exact h _ _ hp
  · exact hp.elim
theorem SpOK.NUf {P : Program} {f : FuncId} {pre : List Int → Int → Prop} {res : List Int → Int → AV} (h : ∀ x0 u1, pre x0 u1 → FCall P f [.ns .u64 x0, .raw (.int .u64 u1)] (res x0 u1)) : SpOK P f (spNU 1 pre res) := by
  refine SpOK.one rfl fun args hp => ?_
  simp only [spNU] at hp ⊢
  split at hp
  · exact h _ _ hp
  · exact hp.elim
theorem SpOK.NUm {P : Program} {f : FuncId} {pre : List Int → Int → Prop} {res : List Int → Int → AV} (h : ∀ x0 u1, pre x0 u1 → MCall P f [.ns .u64 x0, .raw (.int .u64 u1)] (res x0 u1)) : SpOK P f (spNU 2 pre res) := by
  refine SpOK.two rfl fun args hp => ?_
  simp only [spNU] at hp ⊢
  split at hp
  · exact h _ _ hp
  · exact hp.elim
@[push_cast] def spNNU (k : Nat) (pre : List Int → List Int → Int → Prop) (res : List Int → List Int → Int → AV) : Sp where
  kind := k
  pre | [.ns .u64 x0, .ns .u64 x1, .raw (.int .u64 u2)] => pre x0 x1 u2
      | _ => False
  res | [.ns .u64 x0, .ns .u64 x1, .raw (.int .u64 u2)] => res x0 x1 u2
      | _ => .any
theorem SpOK.NNU {P : Program} {f : FuncId} {pre : List Int → List Int → Int → Prop} {res : List Int → List Int → Int → AV} (h : ∀ x0 x1 u2, pre x0 x1 u2 → ACall P f [.ns .u64 x0, .ns .u64 x1, .raw (.int .u64 u2)] (res x0 x1 u2)) : SpOK P f (spNNU 0 pre res) := by
  refine SpOK.zero rfl fun args hp => ?_
  simp only [spNNU] at hp ⊢
  split at hp
  · exact h _ _ _ hp
  · exact hp.elim
theorem SpOK.NNUf {P : Program} {f : FuncId} {pre : List Int → List Int → Int → Prop} {res : List Int → List Int → Int → AV} (h : ∀ x0 x1 u2, pre x0 x1 u2 → FCall P f [.ns .u64 x0, .ns .u64 x1, .raw (.int .u64 u2)] (res x0 x1 u2)) : SpOK P f (spNNU 1 pre res) := by
  refine SpOK.one rfl fun args hp => ?_
  simp only [spNNU] at hp ⊢
  split at hp
  · exact h _ _ _ hp
  · exact hp.elim
theorem SpOK.NNUm {P : Program} {f : FuncId} {pre : List Int → List Int → Int → Prop} {res : List Int → List Int → Int → AV} (h : ∀ x0 x1 u2, pre x0 x1 u2 → MCall P f [.ns .u64 x0, .ns .u64 x1, .raw (.int .u64 u2)] (res x0 x1 u2)) : SpOK P f (spNNU 2 pre res) := by
  refine SpOK.two rfl fun args hp => ?_
  simp only [spNNU] at hp ⊢
  split at hp
  · exact h _ _ _ hp
  · exact hp.elim
@[push_cast] def spBN (k : Nat) (pre : Bool → List Int → Prop) (res : Bool → List Int → AV) : Sp where
  kind := k
  pre | [.raw (.bool b0), .ns .u64 x1] => pre b0 x1
      | _ => False
  res | [.raw (.bool b0), .ns .u64 x1] => res b0 x1
      | _ => .any
theorem SpOK.BN {P : Program} {f : FuncId} {pre : Bool → List Int → Prop} {res : Bool → List Int → AV} (h : ∀ b0 x1, pre b0 x1 → ACall P f [.raw (.bool b0), .ns .u64 x1] (res b0 x1)) : SpOK P f (spBN 0 pre res) := by
  refine SpOK.zero rfl fun args hp => ?_
  simp only [spBN] at hp ⊢
  split at hp
  · exact h _ _ hp
  · exact hp.elim
theorem SpOK.BNf {P : Program} {f : FuncId} {pre : Bool → List Int → Prop} {res : Bool → List Int → AV} (h : ∀ b0 x1, pre b0 x1 → FCall P f [.raw (.bool b0), .ns .u64 x1] (res b0 x1)) : SpOK P f (spBN 1 pre res) := by
  refine SpOK.one rfl fun args hp => ?_
  simp only [spBN] at hp ⊢
  split at hp
  · exact h _ _ hp
  · exact hp.elim
theorem SpOK.BNm {P : Program} {f : FuncId} {pre : Bool → List Int → Prop} {res : Bool → List Int → AV} (h : ∀ b0 x1, pre b0 x1 → MCall P f [.raw (.bool b0), .ns .u64 x1] (res b0 x1)) : SpOK P f (spBN 2 pre res) := by
  refine SpOK.two rfl fun args hp => ?_
  simp only [spBN] at hp ⊢
  split at hp
  · exact h _ _ hp
  · exact hp.elim
@[push_cast] def spZNI (k : Nat) (pre : Bool → List Int → List Int → Int → Prop) (res : Bool → List Int → List Int → Int → AV) : Sp where
  kind := k
  pre | [.agg [.raw (.bool b0), .ns .u64 x0], .ns .u64 x1, .raw (.int .i64 n2)] => pre b0 x0 x1 n2
      | _ => False
  res | [.agg [.raw (.bool b0), .ns .u64 x0], .ns .u64 x1, .raw (.int .i64 n2)] => res b0 x0 x1 n2
      | _ => .any
theorem SpOK.ZNI {P : Program} {f : FuncId} {pre : Bool → List Int → List Int → Int → Prop} {res : Bool → List Int → List Int → Int → AV} (h : ∀ b0 x0 x1 n2, pre b0 x0 x1 n2 → ACall P f [.agg [.raw (.bool b0), .ns .u64 x0], .ns .u64 x1, .raw (.int .i64 n2)] (res b0 x0 x1 n2)) : SpOK P f (spZNI 0 pre res) := by
  refine SpOK.zero rfl fun args hp => ?_
  simp only [spZNI] at hp ⊢
  split at hp
  · exact h _ _ _ _ hp
  · exact hp.elim
theorem SpOK.ZNIf {P : Program} {f : FuncId} {pre : Bool → List Int → List Int → Int → Prop} {res : Bool → List Int → List Int → Int → AV} (h : ∀ b0 x0 x1 n2, pre b0 x0 x1 n2 → FCall P f [.agg [.raw (.bool b0), .ns .u64 x0], .ns .u64 x1, .raw (.int .i64 n2)] (res b0 x0 x1 n2)) : SpOK P f (spZNI 1 pre res) := by
  refine SpOK.one rfl fun args hp => ?_
  simp only [spZNI] at hp ⊢
  split at hp
  · exact h _ _ _ _ hp
  · exact hp.elim
theorem SpOK.ZNIm {P : Program} {f : FuncId} {pre : Bool → List Int → List Int → Int → Prop} {res : Bool → List Int → List Int → Int → AV} (h : ∀ b0 x0 x1 n2, pre b0 x0 x1 n2 → MCall P f [.agg [.raw (.bool b0), .ns .u64 x0], .ns .u64 x1, .raw (.int .i64 n2)] (res b0 x0 x1 n2)) : SpOK P f (spZNI 2 pre res) := by
  refine SpOK.two rfl fun args hp => ?_
  simp only [spZNI] at hp ⊢
  split at hp
  · exact h _ _ _ _ hp
  · exact hp.elim
@[push_cast] def spNNB (k : Nat) (pre : List Int → List Int → Bool → Prop) (res : List Int → List Int → Bool → AV) : Sp where
  kind := k
  pre | [.ns .u64 x0, .ns .u64 x1, .raw (.bool b2)] => pre x0 x1 b2
      | _ => False
  res | [.ns .u64 x0, .ns .u64 x1, .raw (.bool b2)] => res x0 x1 b2
      | _ => .any
theorem SpOK.NNB {P : Program} {f : FuncId} {pre : List Int → List Int → Bool → Prop} {res : List Int → List Int → Bool → AV} (h : ∀ x0 x1 b2, pre x0 x1 b2 → ACall P f [.ns .u64 x0, .ns .u64 x1, .raw (.bool b2)] (res x0 x1 b2)) : SpOK P f (spNNB 0 pre res) := by
  refine SpOK.zero rfl fun args hp => ?_
  simp only [spNNB] at hp ⊢
  split at hp
  · exact h _ _ _ hp
  · exact hp.elim
theorem SpOK.NNBf {P : Program} {f : FuncId} {pre : List Int → List Int → Bool → Prop} {res : List Int → List Int → Bool → AV} (h : ∀ x0 x1 b2, pre x0 x1 b2 → FCall P f [.ns .u64 x0, .ns .u64 x1, .raw (.bool b2)] (res x0 x1 b2)) : SpOK P f (spNNB 1 pre res) := by
  refine SpOK.one rfl fun args hp => ?_
  simp only [spNNB] at hp ⊢
  split at hp
  · exact h _ _ _ hp
  · exact hp.elim
theorem SpOK.NNBm {P : Program} {f : FuncId} {pre : List Int → List Int → Bool → Prop} {res : List Int → List Int → Bool → AV} (h : ∀ x0 x1 b2, pre x0 x1 b2 → MCall P f [.ns .u64 x0, .ns .u64 x1, .raw (.bool b2)] (res x0 x1 b2)) : SpOK P f (spNNB 2 pre res) := by
  refine SpOK.two rfl fun args hp => ?_
  simp only [spNNB] at hp ⊢
  split at hp
  · exact h _ _ _ hp
  · exact hp.elim
end Go.Hl

/- The law LefevreTurns answers true for every input, and each argument reads afterwards as it read before. No condition is set. -/
import Derived.Test.YtccbmjkhplmgnaaRows
import Derived.Test.YtccbmjkhplmgnaaHlV9
import Derived.Test.YtccbmjkhplmgnaaHlDo
import Derived.Test.YtccbmjkhplmgnaaHlDh
import Derived.Test.YtccbmjkhplmgnaaHlDy
import Derived.Test.YtccbmjkhplmgnaaHlDy
import Derived.WalkKit
import Derived.ProofKit
import Derived.OpenShut
import Derived.ShutString
import Derived.ChangeOld
import Derived.Below
namespace Go.Proofs.Ytccbmjkhplmgnaa.lefevreTurns
open Go.ChangeShapes Go.WideShapes Go.ChangeAt Go.RowKit
set_option linter.unusedVariables false

theorem own : ownKnob Try.prog.godebug = none := by kernel_rfl
theorem laidOut : laidOutB Try.prog = true := by kernel_rfl

theorem walk (b0x : Bool) (a0x : Option Addr) (len0x cap0x : Nat) (z0x : List Int) (b0y : Bool) (a0y : Option Addr) (len0y cap0y : Nat) (z0y : List Int) (b0z : Bool) (a0z : Option Addr) (len0z cap0z : Nat) (z0z : List Int) (n0 : Int) (b1 : Bool) (a1 : Option Addr) (len1 cap1 : Nat) (z1 : List Int) (b2 : Bool) (a2 : Option Addr) (len2 cap2 : Nat) (z2 : List Int) (b3 : Bool) (a3 : Option Addr) (len3 cap3 : Nat) (z3 : List Int) (b4 : Bool) (a4 : Option Addr) (len4 cap4 : Nat) (z4 : List Int) (w : World) (w0x : Hl.Row .u64 w a0x len0x cap0x z0x) (w0y : Hl.Row .u64 w a0y len0y cap0y z0y) (w0z : Hl.Row .u64 w a0z len0z cap0z z0z) (w0n : (Lit.int .i64 n0).wf = true) (w1 : Hl.Row .u64 w a1 len1 cap1 z1) (w2 : Hl.Row .u64 w a2 len2 cap2 z2) (w3 : Hl.Row .u64 w a3 len3 cap3 z3) (w4 : Hl.Row .u64 w a4 len4 cap4 z4) :
    Calls Try.prog 26 #[.agg #[.bool b0x, .slice a0x len0x cap0x, .bool b0y, .slice a0y len0y cap0y, .bool b0z, .slice a0z len0z cap0z, .int .i64 n0], .agg #[.bool b1, .slice a1 len1 cap1], .agg #[.bool b2, .slice a2 len2 cap2], .agg #[.bool b3, .slice a3 len3 cap3], .agg #[.bool b4, .slice a4 len4 cap4]] w fun e w' => e = .returned (.bool true) ∧ Below w.heap.size w w' := by
  exact Hl.calls_of_acall Try.func26 rfl (by decide) (Hl.lefevreTurns_ok (Hl.Row.lim w0x) (Hl.Row.lim w0y) (Hl.Row.lim w0z) w0n (Hl.Row.lim w1) (Hl.Row.lim w2) (Hl.Row.lim w3) (Hl.Row.lim w4)) rfl (Hl.cells_ofA _ (Hl.All2.cons (Hl.ri_line (Hl.Row.ri w0x) (Hl.Row.ri w0y) (Hl.Row.ri w0z)) (Hl.All2.cons (Hl.ri_agg (Hl.Row.ri w1)) (Hl.All2.cons (Hl.ri_agg (Hl.Row.ri w2)) (Hl.All2.cons (Hl.ri_agg (Hl.Row.ri w3)) (Hl.All2.cons (Hl.ri_agg (Hl.Row.ri w4)) Hl.All2.nil))))))

set_option maxRecDepth 100000 in
theorem lifted (os : Os) (started : os.Started) (H : Type) (enc : TypeId × Value → H) :
    ReturnsInHanded {} Try.checked os 26 .any (Rows.lefevreTurnsSpec.pre6 enc Try.prog Try.f26 Rows.lefevreTurnsRow.domain false) (Rows.lefevreTurnsSpec.post enc Try.prog Try.f26 false true false false) := by
  refine returnsInHanded_of_change (C := Try.checked) own started (by kernel_rfl) Try.func26
    (ChangeSpec.witness6 (enc := enc) (C := Try.checked) false ⟨#[], #[.agg #[.bool false, .slice none 0 0, .bool false, .slice none 0 0, .bool false, .slice none 0 0, .int .i64 0], .agg #[.bool false, .slice none 0 0], .agg #[.bool false, .slice none 0 0], .agg #[.bool false, .slice none 0 0], .agg #[.bool false, .slice none 0 0]], []⟩ 8 (by kernel_rfl) (by kernel_rfl) (by kernel_rfl) (by kernel_rfl)) ?_
  intro W base args ds gs before hval0 hW hcnd _
  have hval : ∀ (j : Nat) t v, Try.f26.params[j]? = some t → args[j]? = some v → Value.okWide Try.prog W .any base t v := hval0
  have hW' := hW
  obtain ⟨p, q, hA0, hV, rfl, hfz, hnd⟩ := hW
  have hA : DataW.TrodAll enc Try.prog W 0 (fun _ => true) true Try.f26.params.toList args.toList ds p := hA0
  rw [Try.params26] at hA hval
  obtain ⟨v0, vs0, d0, ds0, p0, q0, hargs, rfl, rfl, h0, r0⟩ := trodAll_cons hA
  obtain ⟨v1, vs1, d1, ds1, p1, q1, rfl, rfl, rfl, h1, r1⟩ := trodAll_cons r0
  obtain ⟨v2, vs2, d2, ds2, p2, q2, rfl, rfl, rfl, h2, r2⟩ := trodAll_cons r1
  obtain ⟨v3, vs3, d3, ds3, p3, q3, rfl, rfl, rfl, h3, r3⟩ := trodAll_cons r2
  obtain ⟨v4, vs4, d4, ds4, p4, q4, rfl, rfl, rfl, h4, r4⟩ := trodAll_cons r3
  obtain ⟨rfl, rfl, rfl⟩ := trodAll_nil r4
  obtain rfl : args = #[v0, v1, v2, v3, v4] := by cases args; simp_all
  obtain ⟨rfl, rfl⟩ := trodVars_none hV
  have k0 := h0
  have lt0 : ∀ x ∈ p0, x.block < W.heap.size := by obtain ⟨m, hm⟩ := k0; exact DataW.trod_lt m _ _ _ hm
  obtain ⟨b0x, a0x, len0x, cap0x, z0x, b0y, a0y, len0y, cap0y, z0y, b0z, a0z, len0z, cap0z, z0z, n0, rfl, w0x, w0y, w0z, w0n⟩ := Hl.open_l (hval 0 61 v0 rfl rfl) h0
  have k1 := h1
  have lt1 : ∀ x ∈ p1, x.block < W.heap.size := by obtain ⟨m, hm⟩ := k1; exact DataW.trod_lt m _ _ _ hm
  obtain ⟨b1, a1, len1, cap1, z1, rfl, w1⟩ := Hl.open_z (hval 1 43 v1 rfl rfl) h1
  have k2 := h2
  have lt2 : ∀ x ∈ p2, x.block < W.heap.size := by obtain ⟨m, hm⟩ := k2; exact DataW.trod_lt m _ _ _ hm
  obtain ⟨b2, a2, len2, cap2, z2, rfl, w2⟩ := Hl.open_z (hval 2 43 v2 rfl rfl) h2
  have k3 := h3
  have lt3 : ∀ x ∈ p3, x.block < W.heap.size := by obtain ⟨m, hm⟩ := k3; exact DataW.trod_lt m _ _ _ hm
  obtain ⟨b3, a3, len3, cap3, z3, rfl, w3⟩ := Hl.open_z (hval 3 43 v3 rfl rfl) h3
  have k4 := h4
  have lt4 : ∀ x ∈ p4, x.block < W.heap.size := by obtain ⟨m, hm⟩ := k4; exact DataW.trod_lt m _ _ _ hm
  obtain ⟨b4, a4, len4, cap4, z4, rfl, w4⟩ := Hl.open_z (hval 4 43 v4 rfl rfl) h4
  clear hA0 hval0
  refine (walk b0x a0x len0x cap0x z0x b0y a0y len0y cap0y z0y b0z a0z len0z cap0z z0z n0 b1 a1 len1 cap1 z1 b2 a2 len2 cap2 z2 b3 a3 len3 cap3 z3 b4 a4 len4 cap4 z4 W w0x w0y w0z w0n w1 w2 w3 w4).mono fun e W' ⟨he, bel⟩ => ?_
  subst he
  exact ⟨_, rfl, _, _, _, [], _, [], hW', trodAll_mk1 (shut_bool Try.underlying4 _), (trodAll_cons_mk (Below.trod laidOut (by kernel_rfl) (of_decide_eq_true (by kernel_rfl)) k0 bel lt0) (trodAll_cons_mk (Below.trod laidOut (by kernel_rfl) (of_decide_eq_true (by kernel_rfl)) k1 bel lt1) (trodAll_cons_mk (Below.trod laidOut (by kernel_rfl) (of_decide_eq_true (by kernel_rfl)) k2 bel lt2) (trodAll_cons_mk (Below.trod laidOut (by kernel_rfl) (of_decide_eq_true (by kernel_rfl)) k3 bel lt3) (trodAll_cons_mk (Below.trod laidOut (by kernel_rfl) (of_decide_eq_true (by kernel_rfl)) k4 bel lt4) trodAll_mk0))))), rfl, bel.frame _, fun h => by cases h⟩

set_option maxHeartbeats 8000000 in
theorem facts : joinedFacts Try.checked.prog 26 Try.f26 Rows.lefevreTurnsSpec Rows.lefevreTurnsRow = true :=
  Hl.joined_of (by as_aux_lemma => kernel_rfl) (by as_aux_lemma => kernel_rfl) (by as_aux_lemma => kernel_rfl) (by as_aux_lemma => kernel_rfl) (by as_aux_lemma => kernel_rfl) (by as_aux_lemma => kernel_rfl) (by as_aux_lemma => kernel_rfl) (by as_aux_lemma => kernel_rfl) (by as_aux_lemma => kernel_rfl) (by as_aux_lemma => kernel_rfl) (by as_aux_lemma => kernel_rfl) (by as_aux_lemma => kernel_rfl) (by as_aux_lemma => kernel_rfl) (by as_aux_lemma => kernel_rfl) (by as_aux_lemma => kernel_rfl) (by as_aux_lemma => kernel_rfl) (by as_aux_lemma => kernel_rfl) (by as_aux_lemma => kernel_rfl) (by as_aux_lemma => kernel_rfl) (by as_aux_lemma => kernel_rfl) (by as_aux_lemma => kernel_rfl) (by as_aux_lemma => kernel_rfl) (by as_aux_lemma => kernel_rfl) (by as_aux_lemma => kernel_rfl) (by as_aux_lemma => kernel_rfl) Hl.enter (show (Rows.lefevreTurnsRow.lifted == Try.prog.liftsFinal) = true by rw [Hl.lifts_eq]; rfl) (show (Try.prog.make == some Rows.lefevreTurnsRow.make) = true by rw [Hl.make_eq]; rfl) (by as_aux_lemma => kernel_rfl) (by as_aux_lemma => kernel_rfl) (by as_aux_lemma => kernel_rfl) (by as_aux_lemma => kernel_rfl)

theorem over : Rows.lefevreTurnsRow.holds Try.pinned (OpenSpec.ofChange Rows.lefevreTurnsSpec) :=
  OpenClaim.holds_of_wide 26 Try.f26 rfl rfl rfl rfl rfl rfl rfl ⟨rfl, rfl, rfl, rfl, rfl⟩ rfl rfl rfl rfl rfl (by as_aux_lemma => kernel_rfl) Try.func26 facts
    (of_decide_eq_true (by kernel_rfl)) (by unfold Func.isWrapper; first | (rw [if_pos (by decide +kernel)]; kernel_rfl) | (rw [if_neg (by decide +kernel)]; exact ⟨rfl, rfl⟩))
    (fun os started H enc _ => lifted os started H enc)

/-- The statement. -/
theorem proved : Rows.LefevreTurnsSaid := over
#print axioms proved
end Go.Proofs.Ytccbmjkhplmgnaa.lefevreTurns

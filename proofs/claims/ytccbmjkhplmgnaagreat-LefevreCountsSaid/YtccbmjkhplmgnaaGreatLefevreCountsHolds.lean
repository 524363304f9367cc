/- The law LefevreCounts answers true for every input, and each argument reads afterwards as it read before. No condition is set. -/
import Derived.Test.YtccbmjkhplmgnaaGreatRows
import Derived.Test.YtccbmjkhplmgnaaGreatHlJ4
import Derived.Test.YtccbmjkhplmgnaaGreatHlDo
import Derived.Test.YtccbmjkhplmgnaaGreatHlDh
import Derived.Test.YtccbmjkhplmgnaaGreatHlDy
import Derived.Test.YtccbmjkhplmgnaaGreatHlDy
import Derived.WalkKit
import Derived.ProofKit
import Derived.OpenShut
import Derived.ShutString
import Derived.ChangeOld
import Derived.Below
namespace Go.Proofs.YtccbmjkhplmgnaaGreat.lefevreCounts
open Go.ChangeShapes Go.WideShapes Go.ChangeAt Go.RowKit
set_option linter.unusedVariables false

theorem own : ownKnob Tryz.prog.godebug = none := by kernel_rfl
theorem laidOut : laidOutB Tryz.prog = true := by kernel_rfl

theorem walk (b0x : Bool) (a0x : Option Addr) (len0x cap0x : Nat) (z0x : List Int) (b0y : Bool) (a0y : Option Addr) (len0y cap0y : Nat) (z0y : List Int) (b0z : Bool) (a0z : Option Addr) (len0z cap0z : Nat) (z0z : List Int) (n0 : Int) (b1 : Bool) (a1 : Option Addr) (len1 cap1 : Nat) (z1 : List Int) (a2 : Int) (w : World) (w0x : Hl.Row .u64 w a0x len0x cap0x z0x) (w0y : Hl.Row .u64 w a0y len0y cap0y z0y) (w0z : Hl.Row .u64 w a0z len0z cap0z z0z) (w0n : (Lit.int .i64 n0).wf = true) (w1 : Hl.Row .u64 w a1 len1 cap1 z1) (w2 : (Lit.int .i8 a2).wf = true) :
    Calls Tryz.prog 4 #[.agg #[.bool b0x, .slice a0x len0x cap0x, .bool b0y, .slice a0y len0y cap0y, .bool b0z, .slice a0z len0z cap0z, .int .i64 n0], .agg #[.bool b1, .slice a1 len1 cap1], .int .i8 a2] w fun e w' => e = .returned (.bool true) ∧ Below w.heap.size w w' := by
  exact Hl.calls_of_acall Tryz.func4 rfl (by decide) (Hl.lefevreCounts_ok (Hl.Row.lim w0x) (Hl.Row.lim w0y) (Hl.Row.lim w0z) w0n (Hl.Row.lim w1) w2) rfl (Hl.cells_ofA _ (Hl.All2.cons (Hl.ri_line (Hl.Row.ri w0x) (Hl.Row.ri w0y) (Hl.Row.ri w0z)) (Hl.All2.cons (Hl.ri_agg (Hl.Row.ri w1)) (Hl.All2.cons (Hl.RI.raw _) Hl.All2.nil))))

set_option maxRecDepth 100000 in
theorem lifted (os : Os) (started : os.Started) (H : Type) (enc : TypeId × Value → H) :
    ReturnsInHanded {} Tryz.checked os 4 .any (Rows.lefevreCountsSpec.pre6 enc Tryz.prog Tryz.f4 Rows.lefevreCountsRow.domain false) (Rows.lefevreCountsSpec.post enc Tryz.prog Tryz.f4 false true false false) := by
  refine returnsInHanded_of_change (C := Tryz.checked) own started (by kernel_rfl) Tryz.func4
    (ChangeSpec.witness6 (enc := enc) (C := Tryz.checked) false ⟨#[], #[.agg #[.bool false, .slice none 0 0, .bool false, .slice none 0 0, .bool false, .slice none 0 0, .int .i64 0], .agg #[.bool false, .slice none 0 0], .int .i8 0], []⟩ 8 (by kernel_rfl) (by kernel_rfl) (by kernel_rfl) (by kernel_rfl)) ?_
  intro W base args ds gs before hval0 hW hcnd _
  have hval : ∀ (j : Nat) t v, Tryz.f4.params[j]? = some t → args[j]? = some v → Value.okWide Tryz.prog W .any base t v := hval0
  have hW' := hW
  obtain ⟨p, q, hA0, hV, rfl, hfz, hnd⟩ := hW
  have hA : DataW.TrodAll enc Tryz.prog W 0 (fun _ => true) true Tryz.f4.params.toList args.toList ds p := hA0
  rw [Tryz.params4] at hA hval
  obtain ⟨v0, vs0, d0, ds0, p0, q0, hargs, rfl, rfl, h0, r0⟩ := trodAll_cons hA
  obtain ⟨v1, vs1, d1, ds1, p1, q1, rfl, rfl, rfl, h1, r1⟩ := trodAll_cons r0
  obtain ⟨v2, vs2, d2, ds2, p2, q2, rfl, rfl, rfl, h2, r2⟩ := trodAll_cons r1
  obtain ⟨rfl, rfl, rfl⟩ := trodAll_nil r2
  obtain rfl : args = #[v0, v1, v2] := by cases args; simp_all
  obtain ⟨rfl, rfl⟩ := trodVars_none hV
  have k0 := h0
  have lt0 : ∀ x ∈ p0, x.block < W.heap.size := by obtain ⟨m, hm⟩ := k0; exact DataW.trod_lt m _ _ _ hm
  obtain ⟨b0x, a0x, len0x, cap0x, z0x, b0y, a0y, len0y, cap0y, z0y, b0z, a0z, len0z, cap0z, z0z, n0, rfl, w0x, w0y, w0z, w0n⟩ := Hl.open_l (hval 0 26 v0 rfl rfl) h0
  have k1 := h1
  have lt1 : ∀ x ∈ p1, x.block < W.heap.size := by obtain ⟨m, hm⟩ := k1; exact DataW.trod_lt m _ _ _ hm
  obtain ⟨b1, a1, len1, cap1, z1, rfl, w1⟩ := Hl.open_z (hval 1 24 v1 rfl rfl) h1
  obtain ⟨a2, rfl, rfl, rfl, w2⟩ := open_int Tryz.underlying36 (hval 2 36 v2 rfl rfl) h2
  clear hA0 hval0
  refine (walk b0x a0x len0x cap0x z0x b0y a0y len0y cap0y z0y b0z a0z len0z cap0z z0z n0 b1 a1 len1 cap1 z1 a2 W w0x w0y w0z w0n w1 w2).mono fun e W' ⟨he, bel⟩ => ?_
  subst he
  exact ⟨_, rfl, _, _, _, [], _, [], hW', trodAll_mk1 (shut_bool Tryz.underlying4 _), (trodAll_cons_mk (Below.trod laidOut (by kernel_rfl) (of_decide_eq_true (by kernel_rfl)) k0 bel lt0) (trodAll_cons_mk (Below.trod laidOut (by kernel_rfl) (of_decide_eq_true (by kernel_rfl)) k1 bel lt1) (trodAll_cons_mk (shut_int Tryz.underlying36 w2) trodAll_mk0))), rfl, bel.frame _, fun h => by cases h⟩

set_option maxHeartbeats 8000000 in
theorem facts : joinedFacts Tryz.checked.prog 4 Tryz.f4 Rows.lefevreCountsSpec Rows.lefevreCountsRow = true :=
  Hl.joined_of (by as_aux_lemma => kernel_rfl) (by as_aux_lemma => kernel_rfl) (by as_aux_lemma => kernel_rfl) (by as_aux_lemma => kernel_rfl) (by as_aux_lemma => kernel_rfl) (by as_aux_lemma => kernel_rfl) (by as_aux_lemma => kernel_rfl) (by as_aux_lemma => kernel_rfl) (by as_aux_lemma => kernel_rfl) (by as_aux_lemma => kernel_rfl) (by as_aux_lemma => kernel_rfl) (by as_aux_lemma => kernel_rfl) (by as_aux_lemma => kernel_rfl) (by as_aux_lemma => kernel_rfl) (by as_aux_lemma => kernel_rfl) (by as_aux_lemma => kernel_rfl) (by as_aux_lemma => kernel_rfl) (by as_aux_lemma => kernel_rfl) (by as_aux_lemma => kernel_rfl) (by as_aux_lemma => kernel_rfl) (by as_aux_lemma => kernel_rfl) (by as_aux_lemma => kernel_rfl) (by as_aux_lemma => kernel_rfl) (by as_aux_lemma => kernel_rfl) (by as_aux_lemma => kernel_rfl) Hl.enter (show (Rows.lefevreCountsRow.lifted == Tryz.prog.liftsFinal) = true by rw [Hl.lifts_eq]; rfl) (show (Tryz.prog.make == some Rows.lefevreCountsRow.make) = true by rw [Hl.make_eq]; rfl) (by as_aux_lemma => kernel_rfl) (by as_aux_lemma => kernel_rfl) (by as_aux_lemma => kernel_rfl) (by as_aux_lemma => kernel_rfl)

theorem over : Rows.lefevreCountsRow.holds Tryz.pinned (OpenSpec.ofChange Rows.lefevreCountsSpec) :=
  OpenClaim.holds_of_wide 4 Tryz.f4 rfl rfl rfl rfl rfl rfl rfl ⟨rfl, rfl, rfl, rfl, rfl⟩ rfl rfl rfl rfl rfl (by as_aux_lemma => kernel_rfl) Tryz.func4 facts
    (of_decide_eq_true (by kernel_rfl)) (by unfold Func.isWrapper; first | (rw [if_pos (by decide +kernel)]; kernel_rfl) | (rw [if_neg (by decide +kernel)]; exact ⟨rfl, rfl⟩))
    (fun os started H enc _ => lifted os started H enc)

/-- The statement. -/
theorem proved : Rows.LefevreCountsSaid := over
#print axioms proved
end Go.Proofs.YtccbmjkhplmgnaaGreat.lefevreCounts

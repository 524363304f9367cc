/- strings.CutPrefix and strings.Trim, by the kit's contracts (laid at this program by the kit's own laying program). -/
import Derived.Shelf.Strings.SlTrimAscii
import Derived.Shelf.Small.Wraps
import Derived.Test.YtccbmjkhplmgnaaDoorHlF
import Derived.Test.YtccbmjkhplmgnaaDoorHlT
set_option linter.unusedVariables false
set_option linter.unusedSimpArgs false
namespace Go.Proofs
open Go.Shelf
def HlLay160_ren : Go.Shelf.Ren := ⟨fun | 160 => 22 | 232 => 47 | 231 => 46 | 227 => 48 | 234 => 50 | 233 => 49 | 236 => 52 | 235 => 51 | 228 => 71 | 271 => 74 | 151 => 73 | 197 => 72 | 120 => 81 | 152 => 80 | 260 => 79 | 137 => 84 | 119 => 85 | 224 => 86 | 225 => 87 | 217 => 88 | 266 => 89 | n => n, fun | 9 => 9 | 4 => 4 | 3 => 3 | 5 => 5 | 117 => 62 | 116 => 61 | 0 => 0 | 124 => 65 | 21 => 21 | 105 => 76 | 46 => 73 | 119 => 85 | 139 => 88 | 138 => 87 | n => n, fun | 3 => 2 | 4 => 3 | n => n⟩
theorem HlLay160 : Go.Proofs.Lays.n160 Tryd.prog HlLay160_ren := {
  mixed := by kernel_rfl
  f119 := Tryd.func85.trans (congrArg some (by kernel_rfl))
  f120 := Tryd.func81.trans (congrArg some (by kernel_rfl))
  f137 := Tryd.func84.trans (congrArg some (by kernel_rfl))
  f151 := Tryd.func73.trans (congrArg some (by kernel_rfl))
  f152 := Tryd.func80.trans (congrArg some (by kernel_rfl))
  f160 := Tryd.func22.trans (congrArg some (by kernel_rfl))
  f197 := Tryd.func72.trans (congrArg some (by kernel_rfl))
  f217 := Tryd.func88.trans (congrArg some (by kernel_rfl))
  f224 := Tryd.func86.trans (congrArg some (by kernel_rfl))
  f225 := Tryd.func87.trans (congrArg some (by kernel_rfl))
  f227 := Tryd.func48.trans (congrArg some (by kernel_rfl))
  f228 := Tryd.func71.trans (congrArg some (by kernel_rfl))
  f231 := Tryd.func46.trans (congrArg some (by kernel_rfl))
  f232 := Tryd.func47.trans (congrArg some (by kernel_rfl))
  f233 := Tryd.func49.trans (congrArg some (by kernel_rfl))
  f234 := Tryd.func50.trans (congrArg some (by kernel_rfl))
  f235 := Tryd.func51.trans (congrArg some (by kernel_rfl))
  f236 := Tryd.func52.trans (congrArg some (by kernel_rfl))
  f260 := Tryd.func79.trans (congrArg some (by kernel_rfl))
  f266 := Tryd.func89.trans (congrArg some (by kernel_rfl))
  f271 := Tryd.func74.trans (congrArg some (by kernel_rfl))
  t0 := Tryd.underlying0
  a0 := Tryd.isAgg0
  z0 := Tryd.sizeOf0
  v0 := Tryd.zeroValue0
  t3 := Tryd.underlying3
  a3 := Tryd.isAgg3
  z3 := Tryd.sizeOf3
  v3 := Tryd.zeroValue3
  t4 := Tryd.underlying4
  a4 := Tryd.isAgg4
  z4 := Tryd.sizeOf4
  v4 := Tryd.zeroValue4
  t5 := Tryd.underlying5
  a5 := Tryd.isAgg5
  z5 := Tryd.sizeOf5
  v5 := Tryd.zeroValue5
  t9 := Tryd.underlying9
  a9 := Tryd.isAgg9
  z9 := Tryd.sizeOf9
  v9 := Tryd.zeroValue9
  t21 := Tryd.underlying21
  a21 := Tryd.isAgg21
  z21 := Tryd.sizeOf21
  v21 := Tryd.zeroValue21
  t46 := Tryd.underlying73
  a46 := Tryd.isAgg73
  z46 := Tryd.sizeOf73
  v46 := Tryd.zeroValue73
  t105 := Tryd.underlying76
  a105 := Tryd.isAgg76
  z105 := Tryd.sizeOf76
  v105 := Tryd.zeroValue76
  t116 := Tryd.underlying61
  a116 := Tryd.isAgg61
  z116 := Tryd.sizeOf61
  t117 := Tryd.underlying62
  a117 := Tryd.isAgg62
  z117 := Tryd.sizeOf62
  v117 := Tryd.zeroValue62
  t119 := Tryd.underlying85
  a119 := Tryd.isAgg85
  z119 := Tryd.sizeOf85
  t124 := Tryd.underlying65
  a124 := Tryd.isAgg65
  z124 := Tryd.sizeOf65
  v124 := Tryd.zeroValue65
  t138 := Tryd.underlying87
  a138 := Tryd.isAgg87
  z138 := Tryd.sizeOf87
  v138 := Tryd.zeroValue87
  t139 := Tryd.underlying88
  a139 := Tryd.isAgg88
  z139 := Tryd.sizeOf88
  v139 := Tryd.zeroValue88
  g3 := by kernel_rfl
  g4 := by kernel_rfl }
def HlLay103_ren : Go.Shelf.Ren := ⟨fun | 103 => 21 | 210 => 45 | 206 => 70 | n => n, fun | 9 => 9 | 4 => 4 | 24 => 42 | 3 => 3 | n => n, fun | n => n⟩
theorem HlLay103 : Go.Proofs.Lays.n103 Tryd.prog HlLay103_ren := {
  mixed := by kernel_rfl
  f103 := Tryd.func21.trans (congrArg some (by kernel_rfl))
  f206 := Tryd.func70.trans (congrArg some (by kernel_rfl))
  f210 := Tryd.func45.trans (congrArg some (by kernel_rfl))
  t3 := Tryd.underlying3
  a3 := Tryd.isAgg3
  z3 := Tryd.sizeOf3
  v3 := Tryd.zeroValue3
  t4 := Tryd.underlying4
  a4 := Tryd.isAgg4
  z4 := Tryd.sizeOf4
  v4 := Tryd.zeroValue4
  t9 := Tryd.underlying9
  a9 := Tryd.isAgg9
  z9 := Tryd.sizeOf9
  v9 := Tryd.zeroValue9
  t24 := Tryd.underlying42
  a24 := Tryd.isAgg42
  z24 := Tryd.sizeOf42
  v24 := Tryd.zeroValue42 }
end Go.Proofs
namespace Go.Hl
open Go Go.RowKit Go.Proofs
set_option maxHeartbeats 4000000

/-- The ten digits. -/
def tenL : List UInt8 := [48, 49, 50, 51, 52, 53, 54, 55, 56, 57]
theorem trim_calls (s : ByteArray) (w : World) (hs : s.size ≤ 9223372036854775807) :
    Calls Tryd.prog 22 #[.string s, .string ⟨#[48, 49, 50, 51, 52, 53, 54, 55, 56, 57]⟩] w fun e w' => e = .returned (.string ⟨(Lib.trimS s.data.toList tenL).toArray⟩) ∧ Below w.heap.size w w' :=
  Any.strings_Trim_laid HlLay160 (by kernel_rfl) s ⟨#[48, 49, 50, 51, 52, 53, 54, 55, 56, 57]⟩ w hs (by decide) (ascii_of_all (by decide))
theorem cut_calls (s p : ByteArray) (w : World) :
    Calls Tryd.prog 21 #[.string s, .string p] w fun e w' => e = .returned (.tuple #[.string ⟨(Lib.trimPrefix s.data.toList p.data.toList).toArray⟩, .bool (Lib.hasPrefix s.data.toList p.data.toList)]) ∧ w' = w := Any.strings_CutPrefix HlLay103 s p w

theorem args2 {vs : Array Value} {w : World} {X : Nat → Prop} {a b : Value} (hl : vs.size = 2) (hr : ∀ (j : Nat) (c : AV), [AV.raw a, AV.raw b][j]? = some c → ∃ v : Value, vs[j]? = some v ∧ RI w X c v) : vs = #[a, b] := by
  obtain ⟨v0, h0, r0⟩ := hr 0 _ rfl
  obtain ⟨v1, h1, r1⟩ := hr 1 _ rfl
  have e0 := RI.raw_inv r0
  have e1 := RI.raw_inv r1
  subst e0 e1
  apply Array.ext_getElem?
  intro i
  match i with
  | 0 => exact h0
  | 1 => exact h1
  | i + 2 => rw [Array.getElem?_eq_none (by omega), Array.getElem?_eq_none (by simp)]

@[push_cast] def spTrimS : Sp where
  kind := 0
  pre | [.raw (.string s), .raw (.string p)] => s.size ≤ 1000000 ∧ p = ⟨#[48, 49, 50, 51, 52, 53, 54, 55, 56, 57]⟩
      | _ => False
  res | [.raw (.string s), .raw (.string _)] => .raw (.string ⟨(Lib.trimS s.data.toList tenL).toArray⟩)
      | _ => .any
theorem strim_ok : SpOK Tryd.prog 22 spTrimS := by
  refine SpOK.zero rfl fun args hp => ?_
  simp only [spTrimS] at hp ⊢
  split at hp
  · rename_i s p
    obtain ⟨hs, rfl⟩ := hp
    intro w X vs hX hl hr
    obtain rfl := args2 hl hr
    refine .inr ⟨run_callFunc_body Tryd.func22 rfl (by decide) _ w, (trim_calls s w (by omega)).mono fun e w' ⟨h1, h2⟩ => ?_⟩
    exact ⟨_, h1, RI.raw _, h2⟩
  · exact hp.elim
@[push_cast] def spCutP : Sp where
  kind := 0
  pre | [.raw (.string _), .raw (.string _)] => True
      | _ => False
  res | [.raw (.string s), .raw (.string p)] => .tup [.raw (.string ⟨(Lib.trimPrefix s.data.toList p.data.toList).toArray⟩), .raw (.bool (Lib.hasPrefix s.data.toList p.data.toList))]
      | _ => .any
theorem RI.tup2 {w : World} {X : Nat → Prop} {c d : AV} {u v : Value} (h1 : RI w X c u) (h2 : RI w X d v) : RI w X (.tup [c, d]) (.tuple #[u, v]) := by
  refine RI.tup _ _ (fun j => if j = 0 then u else v) rfl (fun j c' hj => ?_) (fun j c' hj => ?_)
  · rcases j with _ | _ | j
    · rfl
    · rfl
    · cases hj
  · rcases j with _ | _ | j
    · cases hj; exact h1
    · cases hj; exact h2
    · cases hj
theorem cutp_ok : SpOK Tryd.prog 21 spCutP := by
  refine SpOK.zero rfl fun args hp => ?_
  simp only [spCutP] at hp ⊢
  split at hp
  · rename_i s p
    intro w X vs hX hl hr
    obtain rfl := args2 hl hr
    refine .inr ⟨run_callFunc_body Tryd.func21 rfl (by decide) _ w, (cut_calls s p w).mono fun e w' ⟨h1, h2⟩ => ?_⟩
    subst h2
    exact ⟨_, h1, RI.tup2 (RI.raw _) (RI.raw _), Below.refl _ _⟩
  · exact hp.elim
end Go.Hl

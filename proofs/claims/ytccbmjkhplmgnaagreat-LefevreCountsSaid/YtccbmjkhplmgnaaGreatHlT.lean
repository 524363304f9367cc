/- Arithmetic of the machine, as the walks meet it. The seat's types, as the abstract interpreter asks for them. The table's look-ups. More one-line steps. -/
import Derived.Laws.Bits64b
import Derived.Test.YtccbmjkhplmgnaaGreatProg
import Derived.KernelRfl
import Derived.Test.YtccbmjkhplmgnaaGreatHlF
import Derived.Test.YtccbmjkhplmgnaaGreatHlN
set_option linter.unusedVariables false
set_option linter.unusedSimpArgs false
namespace Go.Hl
open Go Go.RowKit
theorem wu8 {n : Int} (h1 : 0 ≤ n) (h2 : n < 256) : IntKind.u8.wrap n = n := by
  simp [IntKind.wrap, IntKind.bits, IntKind.signed]; omega
theorem wi8 {n : Int} (h1 : -128 ≤ n) (h2 : n < 128) : IntKind.i8.wrap n = n := by
  simp [IntKind.wrap, IntKind.bits, IntKind.signed]; split <;> omega
theorem bits_u64 : IntKind.u64.bits = 64 := rfl
theorem bits_i64 : IntKind.i64.bits = 64 := rfl
theorem bits_u8 : IntKind.u8.bits = 8 := rfl
theorem wraps_u64 (n : Int) (h₀ : 0 ≤ n) (h₁ : n < 2 ^ 64) : IntKind.u64.wrap n = n := wu64 h₀ (by simpa using h₁)
theorem wraps_i64 (n : Int) (h₀ : 0 ≤ n) (h₁ : n < 2 ^ 63) : IntKind.i64.wrap n = n := w64 (by omega) (by simpa using h₁)
theorem and_mask (i : Nat) (hi : i ≤ 64) (x : Int) (h0 : 0 ≤ x) (h1 : x < 18446744073709551616) : bits .and .u64 x (2 ^ i - 1) = x % 2 ^ i :=
  bits_mask .u64 64 (by decide) wraps_u64 i hi x h0 (by simpa using h1)
theorem and63 {x : Int} (h0 : 0 ≤ x) (h1 : x < 18446744073709551616) : bits .and .u64 x 63 = x % 64 := and_mask 6 (by decide) x h0 h1
theorem and1 {x : Int} (h0 : 0 ≤ x) (h1 : x < 18446744073709551616) : bits .and .u64 x 1 = x % 2 := and_mask 1 (by decide) x h0 h1
theorem and15 {x : Int} (h0 : 0 ≤ x) (h1 : x < 18446744073709551616) : bits .and .u64 x 15 = x % 16 := and_mask 4 (by decide) x h0 h1
theorem and32 {x : Int} (h0 : 0 ≤ x) (h1 : x < 18446744073709551616) : bits .and .u64 x 4294967295 = x % 4294967296 := and_mask 32 (by decide) x h0 h1
theorem or_join (i : Nat) (x y : Int) (hx0 : 0 ≤ x) (hx : x % 2 ^ i = 0) (hx1 : x < 18446744073709551616) (hy0 : 0 ≤ y) (hy : y < 2 ^ i) (hy1 : y < 18446744073709551616) : bits .or .u64 x y = x + y :=
  bits_join .u64 64 (by decide) wraps_u64 i x y hx0 hx (by simpa using hx1) hy0 hy (by simpa using hy1)
theorem or_comm64 (x y : Int) (hx0 : 0 ≤ x) (hx1 : x < 18446744073709551616) (hy0 : 0 ≤ y) (hy1 : y < 18446744073709551616) : bits .or .u64 x y = bits .or .u64 y x := by
  obtain ⟨a, rfl⟩ := Int.eq_ofNat_of_zero_le hx0
  obtain ⟨b, rfl⟩ := Int.eq_ofNat_of_zero_le hy0
  rw [bits_or_u64_nat a b (by omega) (by omega), bits_or_u64_nat b a (by omega) (by omega), Nat.or_comm]
theorem or_join' (i : Nat) (x y : Int) (hx0 : 0 ≤ x) (hx : x % 2 ^ i = 0) (hx1 : x < 18446744073709551616) (hy0 : 0 ≤ y) (hy : y < 2 ^ i) (hy1 : y < 18446744073709551616) : bits .or .u64 y x = y + x := by
  rw [or_comm64 y x hy0 hy1 hx0 hx1, or_join i x y hx0 hx hx1 hy0 hy hy1, Int.add_comm]
theorem fdiv_ediv {a b : Int} (h : 0 ≤ b) : a.fdiv b = a / b := Int.fdiv_eq_ediv_of_nonneg a h
theorem tdiv_ediv {a b : Int} (h : 0 ≤ a) : a.tdiv b = a / b := Int.tdiv_eq_ediv_of_nonneg h
theorem tmod_emod {a b : Int} (h : 0 ≤ a) : a.tmod b = a % b := Int.tmod_eq_emod_of_nonneg h
attribute [push_cast] Int.add_sub_cancel List.drop_of_length_le List.take_of_length_le fixd_length nb_dg Nat.min_eq_left Nat.min_eq_right wu8 wi8 bits_u64 bits_i64 bits_u8 and63 and1 and15 and32 fdiv_ediv tdiv_ediv tmod_emod IntKind.signed IntKind.max
end Go.Hl

namespace Go.Hl
open Go Go.RowKit Go.Proofs
def tab (mu : Bool) : Tab where
  sl t := if t = 22 then some (56, 1, 8) else if t = 46 then some (24, 2, 32) else if t = 39 then some (2, 1, 8) else none
  nk t := if t = 22 then some .u64 else if t = 39 then some .i64 else none
  vr t := if t = 22 ∨ t = 56 ∨ t = 3 ∨ t = 4 ∨ t = 9 ∨ t = 5 ∨ t = 2 ∨ t = 30 ∨ t = 46 ∨ t = 39 ∨ t = 90 then some none else if t = 24 then some (some 2) else if t = 26 then some (some 7) else none
  zr t := if t = 24 then some [.raw (.bool false), .ns .u64 []] else if t = 26 then some [.raw (.bool false), .ns .u64 [], .raw (.bool false), .ns .u64 [], .raw (.bool false), .ns .u64 [], .raw (.int .i64 0)]
    else if t = 56 then some [.raw (.int .u64 0)] else if t = 3 ∨ t = 2 ∨ t = 30 then some [.raw (.int .i64 0)] else if t = 4 then some [.raw (.bool false)] else if t = 22 ∨ t = 46 ∨ t = 39 then some [.nul] else if t = 5 then some [.raw (.int .u8 0)] else none
  fo t f := if t = 24 then (if f = 0 then some 0 else if f = 1 then some 1 else none) else if t = 26 then (if f = 0 then some 0 else if f = 1 then some 2 else if f = 2 then some 4 else if f = 3 then some 6 else none) else none
  st t := if t = 24 then some [(0, 1), (1, 1)] else if t = 26 then some [(0, 2), (2, 2), (4, 2), (6, 1)] else none
  ik t := if t = 56 ∨ t = 90 then some .u64 else if t = 3 ∨ t = 2 ∨ t = 30 then some .i64 else if t = 5 then some .u8 else if t = 36 then some .i8 else none
  str t := t == 9
  bl t := t == 4
  mu := mu
theorem info_of {P : Program} {t : TypeId} {ti : TypeInfo} (h : P.types[t]? = some ti) : P.info? t = some ti := by
  have hlt : t < P.types.size := (Array.getElem?_eq_some_iff.1 h).1
  simp only [Tables.info?]
  rw [if_pos hlt]; exact h
inductive All2 (R : AV → Value → Prop) : List AV → List Value → Prop
  | nil : All2 R [] []
  | cons {c v cs vs} : R c v → All2 R cs vs → All2 R (c :: cs) (v :: vs)
theorem cells_of {w : World} {X : Nat → Prop} {z : List AV} {vs : List Value} (h : All2 (RI w X) z vs) : ∀ (j : Nat) (c : AV), z[j]? = some c → ∃ u : Value, vs[j]? = some u ∧ RI w X c u := by
  induction h with
  | nil => intro j c hc; simp at hc
  | cons h _ ih =>
    intro j c hc
    cases j with
    | zero => simp only [List.getElem?_cons_zero, Option.some.injEq] at hc; subst hc; exact ⟨_, rfl, h⟩
    | succ j => simpa using ih j c (by simpa using hc)
theorem cells_ofA {w : World} {X : Nat → Prop} {z : List AV} (vs : Array Value) (h : All2 (RI w X) z vs.toList) (j : Nat) (c : AV) (hc : z[j]? = some c) : ∃ u : Value, vs[j]? = some u ∧ RI w X c u := by
  obtain ⟨u, h1, h2⟩ := cells_of h j c hc
  exact ⟨u, by rwa [Array.getElem?_toList] at h1, h2⟩
theorem ri_ns0 {w : World} {X : Nat → Prop} (k : IntKind) : RI w X (.ns k []) (.slice none 0 0) := RI.ns k [] none 0 0 0 (by simp) (by simp) (by simp)
theorem tabOK (mu : Bool) : TabOK Tryz.prog (tab mu) where
  sl t e s by_ h := by
    simp only [tab] at h
    split at h
    · rename_i q; subst q; cases h; exact ⟨Tryz.underlying22, Tryz.t56, (info_of Tryz.type56), rfl, rfl, _, rfl, rfl⟩
    split at h
    · rename_i q; subst q; cases h; exact ⟨Tryz.underlying46, Tryz.t24, (info_of Tryz.type24), rfl, rfl, _, rfl, rfl⟩
    split at h
    · rename_i q; subst q; cases h; exact ⟨Tryz.underlying39, Tryz.t2, (info_of Tryz.type2), rfl, rfl, _, rfl, rfl⟩
    · cases h
  vr1 t h := by
    simp only [tab] at h
    split at h
    · rename_i q
      rcases q with rfl | rfl | rfl | rfl | rfl | rfl | rfl | rfl | rfl | rfl | rfl
      · exact ⟨⟨_, Tryz.underlying22, rfl⟩, _, (info_of Tryz.type22), rfl⟩
      · exact ⟨⟨_, Tryz.underlying56, rfl⟩, _, (info_of Tryz.type56), rfl⟩
      · exact ⟨⟨_, Tryz.underlying3, rfl⟩, _, (info_of Tryz.type3), rfl⟩
      · exact ⟨⟨_, Tryz.underlying4, rfl⟩, _, (info_of Tryz.type4), rfl⟩
      · exact ⟨⟨_, Tryz.underlying9, rfl⟩, _, (info_of Tryz.type9), rfl⟩
      · exact ⟨⟨_, Tryz.underlying5, rfl⟩, _, (info_of Tryz.type5), rfl⟩
      · exact ⟨⟨_, Tryz.underlying2, rfl⟩, _, (info_of Tryz.type2), rfl⟩
      · exact ⟨⟨_, Tryz.underlying30, rfl⟩, _, (info_of Tryz.type30), rfl⟩
      · exact ⟨⟨_, Tryz.underlying46, rfl⟩, _, (info_of Tryz.type46), rfl⟩
      · exact ⟨⟨_, Tryz.underlying39, rfl⟩, _, (info_of Tryz.type39), rfl⟩
      · exact ⟨⟨_, Tryz.underlying90, rfl⟩, _, (info_of Tryz.type90), rfl⟩
    split at h
    · cases h
    split at h <;> cases h
  vrn t n h := by
    simp only [tab] at h
    split at h
    · cases h
    split at h
    · rename_i q; subst q; cases h; exact ⟨⟨_, Tryz.underlying24, rfl⟩, _, (info_of Tryz.type24), rfl⟩
    split at h
    · rename_i q; subst q; cases h; exact ⟨⟨_, Tryz.underlying26, rfl⟩, _, (info_of Tryz.type26), rfl⟩
    · cases h
  zr t z h := by
    have one : ∀ {c : AV} {v : Value}, (∀ (w : World) (X : Nat → Prop), RI w X c v) → ∀ (w : World) (X : Nat → Prop) (j : Nat) (c' : AV), [c][j]? = some c' → ∃ u : Value, (#[v] : Array Value)[j]? = some u ∧ RI w X c' u := by
      intro c v hv w X j c' hj
      have := cells_of (w := w) (X := X) (z := [c]) (vs := [v]) (.cons (hv w X) .nil) j c' hj
      simpa using this
    simp only [tab] at h
    split at h
    · rename_i q; subst q; cases h
      refine ⟨_, _, (info_of Tryz.type24), rfl, rfl, fun w X j c hj => ?_⟩
      exact cells_ofA #[.bool false, .slice none 0 0] (.cons (RI.raw _) (.cons (ri_ns0 _) .nil)) j c hj
    split at h
    · rename_i q; subst q; cases h
      refine ⟨_, _, (info_of Tryz.type26), rfl, rfl, fun w X j c hj => ?_⟩
      exact cells_ofA #[.bool false, .slice none 0 0, .bool false, .slice none 0 0, .bool false, .slice none 0 0, .int .i64 0]
        (.cons (RI.raw _) (.cons (ri_ns0 _) (.cons (RI.raw _) (.cons (ri_ns0 _) (.cons (RI.raw _) (.cons (ri_ns0 _) (.cons (RI.raw _) .nil))))))) j c hj
    split at h
    · rename_i q; subst q; cases h; exact ⟨_, _, (info_of Tryz.type56), rfl, rfl, one fun w X => RI.raw _⟩
    split at h
    · rename_i q; rcases q with rfl | rfl | rfl <;> cases h
      · exact ⟨_, _, (info_of Tryz.type3), rfl, rfl, one fun w X => RI.raw _⟩
      · exact ⟨_, _, (info_of Tryz.type2), rfl, rfl, one fun w X => RI.raw _⟩
      · exact ⟨_, _, (info_of Tryz.type30), rfl, rfl, one fun w X => RI.raw _⟩
    split at h
    · rename_i q; subst q; cases h; exact ⟨_, _, (info_of Tryz.type4), rfl, rfl, one fun w X => RI.raw _⟩
    split at h
    · rename_i q; rcases q with rfl | rfl | rfl <;> cases h
      · exact ⟨_, _, (info_of Tryz.type22), rfl, rfl, one fun w X => RI.nul _⟩
      · exact ⟨_, _, (info_of Tryz.type46), rfl, rfl, one fun w X => RI.nul _⟩
      · exact ⟨_, _, (info_of Tryz.type39), rfl, rfl, one fun w X => RI.nul _⟩
    split at h
    · rename_i q; subst q; cases h; exact ⟨_, _, (info_of Tryz.type5), rfl, rfl, one fun w X => RI.raw _⟩
    · cases h
  fo t f d h := by
    simp only [tab] at h
    split at h
    · rename_i q; subst q
      split at h
      · rename_i q; subst q; cases h; exact ⟨_, _, _, Tryz.underlying24, rfl, rfl, (info_of Tryz.type4), by decide⟩
      split at h
      · rename_i q; subst q; cases h; exact ⟨_, _, _, Tryz.underlying24, rfl, rfl, (info_of Tryz.type22), by decide⟩
      · cases h
    split at h
    · rename_i q; subst q
      split at h
      · rename_i q; subst q; cases h; exact ⟨_, _, _, Tryz.underlying26, rfl, rfl, (info_of Tryz.type24), by decide⟩
      split at h
      · rename_i q; subst q; cases h; exact ⟨_, _, _, Tryz.underlying26, rfl, rfl, (info_of Tryz.type24), by decide⟩
      split at h
      · rename_i q; subst q; cases h; exact ⟨_, _, _, Tryz.underlying26, rfl, rfl, (info_of Tryz.type24), by decide⟩
      split at h
      · rename_i q; subst q; cases h; exact ⟨_, _, _, Tryz.underlying26, rfl, rfl, (info_of Tryz.type2), by decide⟩
      · cases h
    · cases h
  st t l h := by
    simp only [tab] at h
    split at h
    · rename_i q; subst q; cases h
      refine ⟨_, Tryz.underlying24, rfl, fun j o s hj => ?_⟩
      match j with
      | 0 => cases hj; exact ⟨_, _, rfl, rfl, (info_of Tryz.type4), rfl⟩
      | 1 => cases hj; exact ⟨_, _, rfl, rfl, (info_of Tryz.type22), rfl⟩
      | j + 2 => simp at hj
    split at h
    · rename_i q; subst q; cases h
      refine ⟨_, Tryz.underlying26, rfl, fun j o s hj => ?_⟩
      match j with
      | 0 => cases hj; exact ⟨_, _, rfl, rfl, (info_of Tryz.type24), rfl⟩
      | 1 => cases hj; exact ⟨_, _, rfl, rfl, (info_of Tryz.type24), rfl⟩
      | 2 => cases hj; exact ⟨_, _, rfl, rfl, (info_of Tryz.type24), rfl⟩
      | 3 => cases hj; exact ⟨_, _, rfl, rfl, (info_of Tryz.type2), rfl⟩
      | j + 4 => simp at hj
    · cases h
  ik t k h := by
    simp only [tab] at h
    split at h
    · rename_i q; rcases q with rfl | rfl <;> cases h
      · exact Tryz.underlying56
      · exact Tryz.underlying90
    split at h
    · rename_i q; rcases q with rfl | rfl | rfl <;> cases h
      · exact Tryz.underlying3
      · exact Tryz.underlying2
      · exact Tryz.underlying30
    split at h
    · rename_i q; subst q; cases h; exact Tryz.underlying5
    split at h
    · rename_i q; subst q; cases h; exact Tryz.underlying36
    · cases h
  nk t k h := by
    simp only [tab] at h ⊢
    split at h
    · rename_i q; subst q; cases h; exact ⟨_, _, _, rfl, (info_of Tryz.type56), rfl⟩
    split at h
    · rename_i q; subst q; cases h; exact ⟨_, _, _, rfl, (info_of Tryz.type2), rfl⟩
    · cases h
  str t h := by
    simp only [tab, beq_iff_eq] at h; subst h; exact Tryz.underlying9
  bl t h := by
    simp only [tab, beq_iff_eq] at h; subst h; exact Tryz.underlying4
end Go.Hl

namespace Go.Hl
open Go Go.RowKit Go.Proofs
theorem tab_sl22 (mu : Bool) : (tab mu).sl 22 = some (56, 1, 8) := rfl
theorem tab_sl46 (mu : Bool) : (tab mu).sl 46 = some (24, 2, 32) := rfl
theorem tab_sl39 (mu : Bool) : (tab mu).sl 39 = some (2, 1, 8) := rfl
theorem tab_sl9 (mu : Bool) : (tab mu).sl 9 = none := rfl
theorem tab_nk22 (mu : Bool) : (tab mu).nk 22 = some .u64 := rfl
theorem tab_nk39 (mu : Bool) : (tab mu).nk 39 = some .i64 := rfl
theorem tab_nk46 (mu : Bool) : (tab mu).nk 46 = none := rfl
theorem tab_nk24 (mu : Bool) : (tab mu).nk 24 = none := rfl
theorem tab_nk26 (mu : Bool) : (tab mu).nk 26 = none := rfl
theorem tab_nk56 (mu : Bool) : (tab mu).nk 56 = none := rfl
theorem tab_nk3 (mu : Bool) : (tab mu).nk 3 = none := rfl
theorem tab_nk4 (mu : Bool) : (tab mu).nk 4 = none := rfl
theorem tab_nk9 (mu : Bool) : (tab mu).nk 9 = none := rfl
theorem tab_nk5 (mu : Bool) : (tab mu).nk 5 = none := rfl
theorem tab_nk2 (mu : Bool) : (tab mu).nk 2 = none := rfl
theorem tab_nk30 (mu : Bool) : (tab mu).nk 30 = none := rfl
theorem tab_nk90 (mu : Bool) : (tab mu).nk 90 = none := rfl
theorem tab_vr22 (mu : Bool) : (tab mu).vr 22 = some none := rfl
theorem tab_vr56 (mu : Bool) : (tab mu).vr 56 = some none := rfl
theorem tab_vr3 (mu : Bool) : (tab mu).vr 3 = some none := rfl
theorem tab_vr4 (mu : Bool) : (tab mu).vr 4 = some none := rfl
theorem tab_vr9 (mu : Bool) : (tab mu).vr 9 = some none := rfl
theorem tab_vr5 (mu : Bool) : (tab mu).vr 5 = some none := rfl
theorem tab_vr2 (mu : Bool) : (tab mu).vr 2 = some none := rfl
theorem tab_vr30 (mu : Bool) : (tab mu).vr 30 = some none := rfl
theorem tab_vr46 (mu : Bool) : (tab mu).vr 46 = some none := rfl
theorem tab_vr39 (mu : Bool) : (tab mu).vr 39 = some none := rfl
theorem tab_vr90 (mu : Bool) : (tab mu).vr 90 = some none := rfl
theorem tab_vr24 (mu : Bool) : (tab mu).vr 24 = some (some 2) := rfl
theorem tab_vr26 (mu : Bool) : (tab mu).vr 26 = some (some 7) := rfl
theorem tab_zr24 (mu : Bool) : (tab mu).zr 24 = some [.raw (.bool false), .ns .u64 []] := rfl
theorem tab_zr26 (mu : Bool) : (tab mu).zr 26 = some [.raw (.bool false), .ns .u64 [], .raw (.bool false), .ns .u64 [], .raw (.bool false), .ns .u64 [], .raw (.int .i64 0)] := rfl
theorem tab_zr56 (mu : Bool) : (tab mu).zr 56 = some [.raw (.int .u64 0)] := rfl
theorem tab_zr3 (mu : Bool) : (tab mu).zr 3 = some [.raw (.int .i64 0)] := rfl
theorem tab_zr2 (mu : Bool) : (tab mu).zr 2 = some [.raw (.int .i64 0)] := rfl
theorem tab_zr30 (mu : Bool) : (tab mu).zr 30 = some [.raw (.int .i64 0)] := rfl
theorem tab_zr4 (mu : Bool) : (tab mu).zr 4 = some [.raw (.bool false)] := rfl
theorem tab_zr22 (mu : Bool) : (tab mu).zr 22 = some [.nul] := rfl
theorem tab_zr46 (mu : Bool) : (tab mu).zr 46 = some [.nul] := rfl
theorem tab_zr39 (mu : Bool) : (tab mu).zr 39 = some [.nul] := rfl
theorem tab_zr5 (mu : Bool) : (tab mu).zr 5 = some [.raw (.int .u8 0)] := rfl
theorem tab_fo24_0 (mu : Bool) : (tab mu).fo 24 0 = some 0 := rfl
theorem tab_fo24_1 (mu : Bool) : (tab mu).fo 24 1 = some 1 := rfl
theorem tab_fo26_0 (mu : Bool) : (tab mu).fo 26 0 = some 0 := rfl
theorem tab_fo26_1 (mu : Bool) : (tab mu).fo 26 1 = some 2 := rfl
theorem tab_fo26_2 (mu : Bool) : (tab mu).fo 26 2 = some 4 := rfl
theorem tab_fo26_3 (mu : Bool) : (tab mu).fo 26 3 = some 6 := rfl
theorem tab_st24 (mu : Bool) : (tab mu).st 24 = some [(0, 1), (1, 1)] := rfl
theorem tab_st26 (mu : Bool) : (tab mu).st 26 = some [(0, 2), (2, 2), (4, 2), (6, 1)] := rfl
theorem tab_ik56 (mu : Bool) : (tab mu).ik 56 = some .u64 := rfl
theorem tab_ik90 (mu : Bool) : (tab mu).ik 90 = some .u64 := rfl
theorem tab_ik3 (mu : Bool) : (tab mu).ik 3 = some .i64 := rfl
theorem tab_ik2 (mu : Bool) : (tab mu).ik 2 = some .i64 := rfl
theorem tab_ik30 (mu : Bool) : (tab mu).ik 30 = some .i64 := rfl
theorem tab_ik36 (mu : Bool) : (tab mu).ik 36 = some .i8 := rfl
theorem tab_ik5 (mu : Bool) : (tab mu).ik 5 = some .u8 := rfl
theorem tab_str9 (mu : Bool) : (tab mu).str 9 = true := rfl
theorem tab_bl4 (mu : Bool) : (tab mu).bl 4 = true := rfl
theorem tab_mu (mu : Bool) : (tab mu).mu = mu := rfl
attribute [push_cast] tab_sl22 tab_sl46 tab_sl39 tab_sl9 tab_nk22 tab_nk39 tab_nk46 tab_nk24 tab_nk26 tab_nk56 tab_nk3 tab_nk4 tab_nk9 tab_nk5 tab_nk2 tab_nk30 tab_nk90 tab_vr22 tab_vr56 tab_vr3 tab_vr4 tab_vr9 tab_vr5 tab_vr2 tab_vr30 tab_vr46 tab_vr39 tab_vr90 tab_vr24 tab_vr26 tab_zr24 tab_zr26 tab_zr56 tab_zr3 tab_zr2 tab_zr30 tab_zr4 tab_zr22 tab_zr46 tab_zr39 tab_zr5 tab_fo24_0 tab_fo24_1 tab_fo26_0 tab_fo26_1 tab_fo26_2 tab_fo26_3 tab_st24 tab_st26 tab_ik56 tab_ik90 tab_ik3 tab_ik2 tab_ik30 tab_ik36 tab_ik5 tab_str9 tab_bl4 tab_mu
theorem mixed : Tryz.prog.follows .mixedOrders = true := by kernel_rfl
theorem env {S : FuncId → Option Sp} (hS : SOK Tryz.prog S) : Env Tryz.prog (tab false) S := ⟨tabOK false, hS, mixed⟩
theorem envM {S : FuncId → Option Sp} (hS : SOK Tryz.prog S) : Env Tryz.prog (tab true) S := ⟨tabOK true, hS, mixed⟩
end Go.Hl

namespace Go.Hl
open Go Go.RowKit
section
variable {P : Program} {T : Tab} {S : FuncId → Option Sp}
theorem AWp.bare {F : Prop} {n : Nat} {c : Code} {Q : Exit → St → Prop} {σ σ1 : St} (id : Nat) (con : Con) (E : F) (k : AWp P T n c Q σ1) (h : F → (σ.kill id).setB id ⟨true, con⟩ = σ1 := by
  (intro E; (simp (disch := omega) only [push_cast, ↓Int.cast_ofNat_Int, Int.natCast_add, Int.cast_ofNat_Int, ↓reduceIte, Nat.reduceEqDiff, Nat.reduceBEq, Nat.reduceAdd, Nat.reduceMul, Nat.reduceSub, Nat.reduceLT, Nat.reduceLeDiff, Int.reduceToNat, Int.reduceLT, Int.reduceLE, Int.reduceAdd, Int.reduceSub, Int.reduceNeg, Int.reduceMul, reduceCtorEq, Nat.reducePow, Int.reducePow, Nat.reduceDiv, Nat.reduceMod, List.length_cons, Int.reduceEq, Int.reduceBEq, Int.reduceBNe, E] <;> rfl))) (hl : con.len = 0 := by rfl) : AWp P T n c Q σ := by
  have h1 := h E
  subst h1
  exact AWp.weak (Le.bare hl) k
end
theorem toNat_sub_lit (n k : Nat) : ((n : Int) - (no_index (OfNat.ofNat k) : Int)).toNat = n - OfNat.ofNat k := by
  show ((n : Int) - ((OfNat.ofNat k : Nat) : Int)).toNat = _
  omega
theorem toNat_mul_lit (n k : Nat) : ((no_index (OfNat.ofNat k) : Int) * (n : Int)).toNat = OfNat.ofNat k * n := by
  show (((OfNat.ofNat k : Nat) : Int) * (n : Int)).toNat = _
  rw [← Int.natCast_mul, Int.toNat_natCast]
attribute [push_cast] toNat_sub_lit toNat_mul_lit
end Go.Hl

/- The least x with a x mod m in a range, by Euclid's steps: the plain law. lefevre: mod, up, num Function values with what they captured; a table with their types. lefevre: the way back of a step (reach's closure) reach: what the stack of steps says; the answer as a function lefevre: the first one in a range, the plain law Sums of quotients: the plain law -/
import Derived.Test.YtccbmjkhplmgnaaGreatHlN
import Derived.Test.YtccbmjkhplmgnaaGreatHlY
import Derived.Test.YtccbmjkhplmgnaaGreatHlSg2
import Derived.Test.YtccbmjkhplmgnaaGreatHlZa
import Derived.Test.YtccbmjkhplmgnaaGreatHlAv30
set_option linter.unusedVariables false
set_option linter.unusedSimpArgs false
namespace Go.Hl
def inR (a m l r x : Int) : Prop := l ≤ (a * x) % m ∧ (a * x) % m ≤ r
def LeastR (a m l r x : Int) : Prop := 0 ≤ x ∧ inR a m l r x ∧ ∀ y, 0 ≤ y → y < x → ¬ inR a m l r y
def NoneR (a m l r : Int) : Prop := ∀ y, 0 ≤ y → ¬ inR a m l r y
def cl (u a : Int) : Int := if u % a = 0 then u / a else u / a + 1
theorem cl_spec {u a : Int} (ha : 0 < a) : a * (cl u a - 1) < u ∧ u ≤ a * cl u a := by
  have h1 := Int.mul_ediv_add_emod u a
  have h2 := Int.emod_nonneg u (by omega : a ≠ 0)
  have h3 := Int.emod_lt_of_pos u ha
  unfold cl
  split
  · rename_i h
    have : a * (u / a - 1) = a * (u / a) - a := by grind
    rw [this]; omega
  · rename_i h
    have e1 : a * (u / a + 1 - 1) = a * (u / a) := by grind
    have e2 : a * (u / a + 1) = a * (u / a) + a := by grind
    rw [e1, e2]; omega
theorem cl_eq {u a x : Int} (ha : 0 < a) (h1 : a * (x - 1) < u) (h2 : u ≤ a * x) : cl u a = x := by
  obtain ⟨h3, h4⟩ := cl_spec (u := u) ha
  have k1 : cl u a - 1 < x := Int.lt_of_mul_lt_mul_left (Int.lt_of_lt_of_le h3 h2) (by omega)
  have k2 : x - 1 < cl u a := Int.lt_of_mul_lt_mul_left (Int.lt_of_lt_of_le h1 h4) (by omega)
  omega
theorem cl_le {u a x : Int} (ha : 0 < a) (h : u ≤ a * x) : cl u a ≤ x := by
  obtain ⟨h3, h4⟩ := cl_spec (u := u) ha
  have k1 : cl u a - 1 < x := Int.lt_of_mul_lt_mul_left (Int.lt_of_lt_of_le h3 h) (by omega)
  omega
theorem cl_mono {u v a : Int} (ha : 0 < a) (h : u ≤ v) : cl u a ≤ cl v a := cl_le ha (Int.le_trans h (cl_spec ha).2)
theorem cl_nonneg {u a : Int} (ha : 0 < a) (h : 0 ≤ u) : 0 ≤ cl u a := by
  obtain ⟨h3, h4⟩ := cl_spec (u := u) ha
  have : 0 ≤ a * cl u a := Int.le_trans h h4
  have := Int.nonneg_of_mul_nonneg_right this ha
  exact this
theorem inR_zero {a m r : Int} (hm : 0 < m) (hr : 0 ≤ r) : LeastR a m 0 r 0 := by
  refine ⟨Int.le_refl _, ?_, fun y h1 h2 => by omega⟩
  unfold inR; rw [Int.mul_zero, Int.zero_emod]; exact ⟨Int.le_refl _, hr⟩
theorem none_zero {m l r : Int} (hl : 0 < l) : NoneR 0 m l r := by
  intro y _ h
  unfold inR at h; rw [Int.zero_mul, Int.zero_emod] at h; omega
theorem inR_flip {a m l r x : Int} (hm : 0 < m) (hl : 0 < l) (hr : r < m) : inR (m - a) m (m - r) (m - l) x ↔ inR a m l r x := by
  unfold inR
  have h1 : ((m - a) * x) % m = (-(a * x)) % m := by
    have : (m - a) * x = -(a * x) + m * x := by grind
    rw [this, Int.add_mul_emod_self_left]
  rw [h1]
  have h2 := Int.emod_nonneg (a * x) (by omega : m ≠ 0)
  have h3 := Int.emod_lt_of_pos (a * x) hm
  by_cases h0 : (a * x) % m = 0
  · have : (-(a * x)) % m = 0 := Int.emod_eq_zero_of_dvd (Int.dvd_neg.2 (Int.dvd_of_emod_eq_zero h0))
    rw [this, h0]; omega
  · have : (-(a * x)) % m = m - (a * x) % m := by
      have e : -(a * x) = (m - (a * x) % m) + m * (-(a * x / m) - 1) := by
        have := Int.mul_ediv_add_emod (a * x) m
        grind
      rw [e, Int.add_mul_emod_self_left]
      exact Int.emod_eq_of_lt (by omega) (by omega)
    rw [this]; omega
theorem leastR_flip {a m l r x : Int} (hm : 0 < m) (hl : 0 < l) (hr : r < m) : LeastR (m - a) m (m - r) (m - l) x ↔ LeastR a m l r x := by
  unfold LeastR
  simp only [inR_flip hm hl hr]
theorem noneR_flip {a m l r : Int} (hm : 0 < m) (hl : 0 < l) (hr : r < m) : NoneR (m - a) m (m - r) (m - l) ↔ NoneR a m l r := by
  unfold NoneR
  simp only [inR_flip hm hl hr]
theorem least_direct {a m l r : Int} (ha : 0 < a) (hl : 0 < l) (hr : r < m) (ht : cl l a * a ≤ r) : LeastR a m l r (cl l a) := by
  obtain ⟨h1, h2⟩ := cl_spec (u := l) ha
  have h0 := cl_nonneg ha (Int.le_of_lt hl)
  refine ⟨h0, ?_, fun y hy hlt h => ?_⟩
  · unfold inR
    have e : a * cl l a = cl l a * a := Int.mul_comm _ _
    rw [Int.emod_eq_of_lt (by omega) (by omega)]; omega
  · unfold inR at h
    have k : a * y ≤ a * (cl l a - 1) := Int.mul_le_mul_of_nonneg_left (by omega) (by omega)
    have k0 : 0 ≤ a * y := Int.mul_nonneg (by omega) hy
    have hlr : l ≤ r := Int.le_trans h.1 h.2
    rw [Int.emod_eq_of_lt k0 (by omega)] at h
    omega
structure Step (a m l r a1 l1 r1 : Int) : Prop where
  ha : 0 ≤ a1 ∧ a1 < a
  hl : 0 < l1 ∧ l1 ≤ r1 ∧ r1 < a
  least : ∀ y, LeastR a1 a l1 r1 y → LeastR a m l r (cl (l + m * y) a)
  none : NoneR a1 a l1 r1 → NoneR a m l r
theorem emod_of {u a q v : Int} (h : u = v + a * q) (h0 : 0 ≤ v) (h1 : v < a) : u % a = v := by
  rw [h, Int.add_mul_emod_self_left]
  exact Int.emod_eq_of_lt h0 h1
theorem euclid_step {a m l r : Int} (ha : 0 < a) (hl : 0 < l) (hlr : l ≤ r) (hr : r < m) (ht : r < cl l a * a) : Step a m l r ((-m) % a) (l % a) (r % a) := by
  have hm : 0 < m := by omega
  have ha0 : a ≠ 0 := by omega
  have dl := Int.mul_ediv_add_emod l a
  have dl0 := Int.emod_nonneg l ha0
  have dl1 := Int.emod_lt_of_pos l ha
  have hla : l % a ≠ 0 := fun h => by
    have : cl l a = l / a := by unfold cl; rw [if_pos h]
    rw [this, Int.mul_comm] at ht; omega
  have hc : cl l a = l / a + 1 := by unfold cl; rw [if_neg hla]
  obtain ⟨q, hq⟩ : ∃ q, l / a = q := ⟨_, rfl⟩
  rw [hc, hq] at ht
  rw [hq] at dl
  have ht' : r < a * q + a := by
    have : (q + 1) * a = a * q + a := by grind
    omega
  obtain ⟨l1, hl1⟩ : ∃ l1, l - a * q = l1 := ⟨_, rfl⟩
  obtain ⟨r1, hr1⟩ : ∃ r1, r - a * q = r1 := ⟨_, rfl⟩
  have el : l % a = l1 := by omega
  have er : r % a = r1 := emod_of (q := q) (by omega) (by omega) (by omega)
  rw [el, er]
  rw [el] at hla
  have hq0 : 0 ≤ q := by rw [← hq]; exact Int.ediv_nonneg (by omega) (by omega)
  have haq : 0 ≤ a * q := Int.mul_nonneg (by omega) hq0
  have hv : ∀ y, ∃ d, m * y + ((-m) % a * y) % a = a * d := fun y => by
    have e1 := Int.mul_ediv_add_emod (-m) a
    have e2 := Int.mul_ediv_add_emod ((-m) % a * y) a
    refine ⟨-((-m) / a * y) - ((-m) % a * y) / a, ?_⟩
    grind
  have to : ∀ y, 0 ≤ y → inR ((-m) % a) a l1 r1 y → inR a m l r (cl (l + m * y) a) := fun y hy ⟨h1, h2⟩ => by
    obtain ⟨d, hd⟩ := hv y
    obtain ⟨v, hvv⟩ : ∃ v, ((-m) % a * y) % a = v := ⟨_, rfl⟩
    rw [hvv] at h1 h2 hd
    have hx : cl (l + m * y) a = d + q := by
      refine cl_eq ha ?_ ?_
      · have : a * (d + q - 1) = a * d + a * q - a := by grind
        rw [this, ← hd]; omega
      · have : a * (d + q) = a * d + a * q := by grind
        rw [this, ← hd]; omega
    rw [hx]
    unfold inR
    have : (a * (d + q)) % m = v + a * q := by
      refine emod_of (q := y) ?_ (by omega) (by omega)
      have : a * (d + q) = a * d + a * q := by grind
      rw [this, ← hd]; omega
    rw [this]; omega
  have back : ∀ x, 0 ≤ x → inR a m l r x → ∃ y, 0 ≤ y ∧ inR ((-m) % a) a l1 r1 y ∧ cl (l + m * y) a ≤ x := fun x hx ⟨h1, h2⟩ => by
    have e := Int.mul_ediv_add_emod (a * x) m
    obtain ⟨c, hc⟩ : ∃ c, (a * x) % m = c := ⟨_, rfl⟩
    obtain ⟨y, hy⟩ : ∃ y, a * x / m = y := ⟨_, rfl⟩
    rw [hc] at h1 h2 e
    rw [hy] at e
    have hy0 : 0 ≤ y := by rw [← hy]; exact Int.ediv_nonneg (Int.mul_nonneg (by omega) hx) (by omega)
    refine ⟨y, hy0, ?_, cl_le ha (by omega)⟩
    obtain ⟨d, hd⟩ := hv y
    obtain ⟨v, hvv⟩ : ∃ v, ((-m) % a * y) % a = v := ⟨_, rfl⟩
    have v0 := Int.emod_nonneg ((-m) % a * y) ha0
    have v1 := Int.emod_lt_of_pos ((-m) % a * y) ha
    rw [hvv] at hd v0 v1
    unfold inR
    rw [hvv]
    have hcv : c - a * q = v := by
      have g1 : (c - a * q) % a = v := by
        have : c - a * q = v + a * (x - q - d) := by grind
        exact emod_of this v0 v1
      rw [Int.emod_eq_of_lt (by omega) (by omega)] at g1
      exact g1
    omega
  refine ⟨⟨Int.emod_nonneg _ ha0, Int.emod_lt_of_pos _ ha⟩, ⟨by omega, by omega, by omega⟩, fun y ⟨hy0, hy, hleast⟩ => ⟨?_, to y hy0 hy, fun x hx hlt h => ?_⟩, fun hn x hx h => ?_⟩
  · exact cl_nonneg ha (by have := Int.mul_nonneg (Int.le_of_lt hm) hy0; omega)
  · obtain ⟨y', hy0', hy', hle⟩ := back x hx h
    have hyy : y ≤ y' := by
      rcases Int.lt_or_le y' y with h' | h'
      · exact absurd hy' (hleast y' hy0' h')
      · exact h'
    have : m * y ≤ m * y' := Int.mul_le_mul_of_nonneg_left hyy (by omega)
    have := cl_mono (u := l + m * y) (v := l + m * y') ha (by omega)
    omega
  · obtain ⟨y', hy0', hy', _⟩ := back x hx h
    exact hn y' hy0' hy'
end Go.Hl

namespace Go.Hl
open Go Go.RowKit Go.Proofs
set_option maxHeartbeats 8000000
theorem mod_abs_lt {x y : Int} {l : Nat} (hy : 0 < y) (h : y.natAbs < B64 ^ l) : (x % y).natAbs < B64 ^ l := by
  have h1 := Int.emod_nonneg x (by omega : y ≠ 0)
  have h2 := Int.emod_lt_of_pos x hy
  omega
theorem pw_add {z j : Nat} (d : Nat) (h : z < B64 ^ j) : z < B64 ^ (j + d) := Nat.lt_of_lt_of_le h (Nat.pow_le_pow_right (by decide) (by omega))
theorem rz_pos {x y : Int} (hy : 0 < y) : rz x y = x % y := by
  unfold rz
  rw [if_neg (by omega)]
@[push_cast] def spLMod : Sp := spZZ 0 (fun _ x c y => Lm x ∧ x.length < 1000000 ∧ Lm y ∧ y.length < 1000000 ∧ 0 < zv c y) (fun b x c y => zi (zv b x % zv c y))
theorem lmod_ok : SpOK Tryz.prog 33 spLMod := by
  refine SpOK.ZZ fun b x c y ⟨hx, hxl, hy, hyl, hpos⟩ => ?_
  have hE := env (SOK.cons zdivmod_ok (SOK.nil (P := Tryz.prog)))
  refine ACall.body hE Tryz.func33 Tryz.ntmps33 Tryz.results33 ?_
  obtain ⟨X, eX⟩ : ∃ X, zv b x = X := ⟨_, rfl⟩
  obtain ⟨Y, eY⟩ : ∃ Y, zv c y = Y := ⟨_, rfl⟩
  rw [eX, eY]
  rw [eY] at hpos
  have hr := rz_pos (x := X) hpos
  refine wk hE (And.intro eX (And.intro eY hr)) ?_
  exact PostL.mk trivial rfl
@[push_cast] def spLUp : Sp := spZZ 0 (fun _ x c y => Lm x ∧ x.length < 1000000 ∧ Lm y ∧ y.length < 1000000 ∧ 0 < zv c y) (fun b x c y => zi (cl (zv b x) (zv c y)))
theorem lup_ok : SpOK Tryz.prog 86 spLUp := by
  refine SpOK.ZZ fun b x c y ⟨hx, hxl, hy, hyl, hpos⟩ => ?_
  have hE := env (SOK.cons zdivmod_ok (SOK.cons sign_ok (SOK.cons of_ok (SOK.cons zadd_ok (SOK.nil (P := Tryz.prog))))))
  refine ACall.body hE Tryz.func86 Tryz.ntmps86 Tryz.results86 ?_
  have bX := zv_abs_lt (b := b) hx (l := 1000000) (by omega)
  have bY := zv_abs_lt (b := c) hy (l := 1000000) (by omega)
  obtain ⟨X, eX⟩ : ∃ X, zv b x = X := ⟨_, rfl⟩
  obtain ⟨Y, eY⟩ : ∃ Y, zv c y = Y := ⟨_, rfl⟩
  rw [eX] at bX ⊢
  rw [eY] at bY hpos ⊢
  have hr := rz_pos (x := X) hpos
  have bq : (X / Y).natAbs < B64 ^ 1000000 := Nat.lt_of_le_of_lt (Int.natAbs_ediv_le_natAbs X Y) bX
  obtain ⟨f1, f1'⟩ := nat_abs_lt (mod_abs_lt (x := X) hpos bY) (by omega)
  obtain ⟨f2, f2'⟩ := nat_abs_lt bq (by omega)
  obtain ⟨Q, eQ⟩ : ∃ Q, X / Y = Q := ⟨_, rfl⟩
  obtain ⟨R, eR⟩ : ∃ R, X % Y = R := ⟨_, rfl⟩
  rw [eQ] at f2 f2'
  rw [eR] at f1 f1' hr
  clear bX bY bq
  obtain ⟨c1, c1'⟩ := nat_abs_lt (z := 1) (l := 1) (by decide) (by omega)
  by_cases h0 : R = 0
  · have hs : (R.sign != 0) = false := by rw [h0]; rfl
    refine wk hE (And.intro eX (And.intro eY (And.intro hr (And.intro eQ hs)))) ?_
    refine PostL.mk trivial ?_
    unfold cl; rw [eR, if_pos h0, eQ]; rfl
  · have hs : (R.sign != 0) = true := by rw [bne_iff_ne]; exact fun h => h0 (Int.sign_eq_zero_iff_zero.1 h)
    have h1 : zv false (dg (Int.natAbs 1)) = 1 := zv_zi 1
    refine wk hE (And.intro eX (And.intro eY (And.intro hr (And.intro eQ (And.intro h1 hs))))) ?_
    refine PostL.mk trivial ?_
    unfold cl; rw [eR, if_neg h0, eQ]; rfl
@[push_cast] def spNum : Sp := spI 0 (fun n => -9223372036854775808 ≤ n ∧ n < 9223372036854775808) (fun n => zi n)
end Go.Hl

namespace Go.Hl
open Go Go.RowKit Go.Proofs
def tabL : Tab := { tab false with sl := fun t => if t = 87 then some (54, 1, 8) else (tab false).sl t, vr := fun t => if t = 54 then some none else (tab false).vr t }
theorem tabL_sl22 : tabL.sl 22 = some (56, 1, 8) := rfl
theorem tabL_sl46 : tabL.sl 46 = some (24, 2, 32) := rfl
theorem tabL_sl39 : tabL.sl 39 = some (2, 1, 8) := rfl
theorem tabL_sl87 : tabL.sl 87 = some (54, 1, 8) := rfl
theorem tabL_nk (t : TypeId) : tabL.nk t = (tab false).nk t := rfl
theorem tabL_nk87 : (tab false).nk 87 = none := rfl
theorem tabL_zr (t : TypeId) : tabL.zr t = (tab false).zr t := rfl
theorem tabL_fo (t : TypeId) (f : Nat) : tabL.fo t f = (tab false).fo t f := rfl
theorem tabL_st (t : TypeId) : tabL.st t = (tab false).st t := rfl
theorem tabL_ik (t : TypeId) : tabL.ik t = (tab false).ik t := rfl
theorem tabL_str (t : TypeId) : tabL.str t = (tab false).str t := rfl
theorem tabL_bl (t : TypeId) : tabL.bl t = (tab false).bl t := rfl
theorem tabL_mu : tabL.mu = false := rfl
theorem tabL_vr2 : tabL.vr 2 = some none := rfl
theorem tabL_vr3 : tabL.vr 3 = some none := rfl
theorem tabL_vr4 : tabL.vr 4 = some none := rfl
theorem tabL_vr22 : tabL.vr 22 = some none := rfl
theorem tabL_vr56 : tabL.vr 56 = some none := rfl
theorem tabL_vr24 : tabL.vr 24 = some (some 2) := rfl
theorem tabL_vr54 : tabL.vr 54 = some none := rfl
theorem tabL_vr30 : tabL.vr 30 = some none := rfl
theorem tabL_vr46 : tabL.vr 46 = some none := rfl
theorem tabL_vr39 : tabL.vr 39 = some none := rfl
attribute [push_cast] tabL_sl22 tabL_sl46 tabL_sl39 tabL_sl87 tabL_nk tabL_nk87 tabL_zr tabL_fo tabL_st tabL_ik tabL_str tabL_bl tabL_mu tabL_vr2 tabL_vr3 tabL_vr4 tabL_vr22 tabL_vr56 tabL_vr24 tabL_vr54 tabL_vr30 tabL_vr46 tabL_vr39
theorem tabLOK : TabOK Tryz.prog tabL where
  sl t e s by_ h := by
    simp only [tabL] at h
    split at h
    · rename_i q; subst q; cases h; exact ⟨Tryz.underlying87, Tryz.t54, (info_of Tryz.type54), rfl, rfl, _, rfl, rfl⟩
    · exact (tabOK false).sl t e s by_ h
  vr1 t h := by
    simp only [tabL] at h
    split at h
    · rename_i q; subst q; exact ⟨⟨_, Tryz.underlying54, rfl⟩, _, (info_of Tryz.type54), rfl⟩
    · exact (tabOK false).vr1 t h
  vrn t n h := by
    simp only [tabL] at h
    split at h
    · cases h
    · exact (tabOK false).vrn t n h
  zr := (tabOK false).zr
  fo := (tabOK false).fo
  st := (tabOK false).st
  ik := (tabOK false).ik
  nk t k h := by
    obtain ⟨e, by_, i, h1, h2, h3⟩ := (tabOK false).nk t k h
    refine ⟨e, by_, i, ?_, h2, h3⟩
    simp only [tabL]
    split
    · rename_i q; subst q; cases h
    · exact h1
  str := (tabOK false).str
  bl := (tabOK false).bl
theorem envL {S : FuncId → Option Sp} (hS : SOK Tryz.prog S) : Env Tryz.prog tabL S := ⟨tabLOK, hS, mixed⟩
section
variable {P : Program} {T : Tab} {S : FuncId → Option Sp} {κ : Ctx} {β : Nat → Option (Nat × Nat)} {a : Act} {w : World}
theorem RI.fn_of {X : Nat → Prop} {g : FuncId} {cs : List AV} {vs : Array Value} (hl : vs.size = cs.length) (h : ∀ (j : Nat) (c : AV), cs[j]? = some c → ∃ v : Value, vs[j]? = some v ∧ RI w X c v) : RI w X (.fn g cs) (.func (.func g) #[] vs) := by
  refine RI.fn g cs vs (fun j => vs.getD j undef) hl (fun j c hj => ?_) (fun j c hj => ?_)
  · obtain ⟨v, h1, _⟩ := h j c hj
    rw [Array.getD_eq_getD_getElem?, h1]; rfl
  · obtain ⟨v, h1, h2⟩ := h j c hj
    rw [Array.getD_eq_getD_getElem?, h1]; exact h2
def settleL : List Nat → St → St
  | [], σ => σ
  | i :: l, σ => settleL l (σ.settle i)
theorem settleL_conc : ∀ (l : List Nat) {σ : St}, Conc κ β σ.get σ.blk a w → Conc κ β (settleL l σ).get (settleL l σ).blk a w
  | [], _, h => h
  | i :: l, σ, h => settleL_conc l (by rw [get_settle, blk_settle]; exact h.settle i)
theorem AWp.mkfn (hT : TabOK P T) (hS : SOK P S) {n id : Nat} {ops : List Oper} {o : Oper} {Q : Exit → St → Prop} {σ : St} {K1 : St → Prop} {d f : Nat} {xs : List Operand} (kk : Nat)
    (hA : opsA T S ops.toArray (ops.take kk) K1 σ)
    (hK : ∀ σ1, K1 σ1 → ∃ σ2 σ3 cs ids, (expoL T σ1 xs).2 = σ2 ∧ (expoL T σ1 xs).1 ∧ xs.map (ev σ2.get) = cs ∧ (cs.all AV.im = true) ∧ settleL ids σ1 = σ3 ∧ σ3.hp = σ2.hp ∧ opsA T S ops.toArray (ops.drop (kk + 1)) (Q .normal) (σ3.put (some d) (.fn f cs)))
    (ho : ops[kk]? = some o := by rfl) (hop : o.op = .makeFunc (.func f) #[] xs.toArray := by rfl) (hg : o.guard = none := by rfl) (hd : o.dst = some d := by rfl) (hds : dstsB ops.toArray n = true := by kernel_rfl) :
    AWp P T n (.region id ops.toArray false) Q σ := by
  intro κ β a w hn hm hC
  refine wp_region_list ?_
  have hsp : ops = ops.take kk ++ o :: ops.drop (kk + 1) := by
    have h1 : kk < ops.length := (List.getElem?_eq_some_iff.1 ho).1
    rw [List.getElem?_eq_getElem h1] at ho
    cases ho
    rw [← List.drop_eq_getElem_cons h1, List.take_append_drop]
  have hdst : ∀ o' ∈ ops, ∀ t, o'.dst = some t → t < κ.nt := fun o' ho' t ht => by
    have := Array.all_eq_true_iff_forall_mem.1 hds o' (by simpa using ho')
    rw [ht] at this
    rw [hn]
    simpa using this
  have hmem : o ∈ ops := List.mem_of_getElem? ho
  have key := opsA_tail (P := P) (T := T) (S := S) (κ := κ) (ops := ops.toArray) (K := K1) (tail := o :: ops.drop (kk + 1)) (Q := fun e a' w' => ∃ σ' β', Q e σ' ∧ Conc κ β' σ'.get σ'.blk a' w') hT hS hm
    (fun σ1 β1 a1 w1 hk hC1 => ?_) (ops.take kk) σ β a w (fun o' ho' => hdst o' (List.mem_of_mem_take ho')) hA hC
  · have e2 : (ops.toArray).toList = ops.take kk ++ o :: ops.drop (kk + 1) := by rw [List.toList_toArray]; exact hsp
    rw [e2]
    exact key
  · obtain ⟨σ2, σ3, cs, ids, h1, h2, h3, h4, h5, h6, hA2⟩ := hK σ1 hk
    have hC2 := expoL_sound hm xs hC1 h2
    rw [h1] at hC2
    have hC2 : Conc κ β1 σ2.get σ2.blk a1 w1 := hC2
    have hC3 := settleL_conc ids hC1
    rw [h5] at hC3
    have hbl : σ3.blk = σ2.blk := by funext i; unfold St.blk; rw [h6]
    refine wpList_plain hg (fun K' hK' => ?_)
    unfold Oper.wp
    have hex : (execOp a1.eval o).run P w1 = .ok (.value (.func (.func f) #[] (xs.map a1.eval).toArray)) w1 := by
      unfold execOp
      rw [hop]
      simp [Instr.makeFunc]
    rw [hex, Oper.upon_value]
    refine hK' _ _ ?_
    have hri : RI w1 (XG κ β1 σ2.blk) (.fn f cs) (.func (.func f) #[] (xs.map a1.eval).toArray) := by
      refine RI.fn_of (by rw [← h3]; simp) (fun j c hj => ?_)
      rw [← h3, List.getElem?_map] at hj
      cases hx : xs[j]? with
      | none => rw [hx] at hj; cases hj
      | some x =>
        rw [hx] at hj
        cases hj
        refine ⟨a1.eval x, by simp [hx], (hC2.ev x).ri ?_⟩
        refine List.all_eq_true.1 h4 _ ?_
        rw [← h3]
        exact List.mem_map.2 ⟨x, List.mem_of_getElem? hx, rfl⟩
    rw [← hbl] at hri
    have hC3 : Conc κ β1 (σ3.put (some d) (.fn f cs)).get (σ3.put (some d) (.fn f cs)).blk (a1.put o.dst (.func (.func f) #[] (xs.map a1.eval).toArray)) w1 := by
      rw [hd, St.get_put, St.blk_put]
      exact hC3.put (fun t' ht' => by cases ht'; exact hdst o hmem d hd) hri
    have := opsA_tail (P := P) (T := T) (S := S) (κ := κ) (ops := ops.toArray) (K := Q .normal) (tail := []) (Q := fun e a' w' => ∃ σ' β', Q e σ' ∧ Conc κ β' σ'.get σ'.blk a' w') hT hS hm
      (fun σ2 β2 a2 w2 h2 hC3 => wpList_nil ⟨σ2, β2, h2, hC3⟩) (ops.drop (kk + 1)) _ β1 _ w1 (fun o' ho' => hdst o' (List.mem_of_mem_drop ho')) hA2 hC3
    rwa [List.append_nil] at this
end
end Go.Hl

namespace Go.Hl
open Go Go.RowKit Go.Proofs
set_option maxHeartbeats 8000000
theorem SpOK.imp {P : Program} {f : FuncId} {sp sp' : Sp} (h : SpOK P f sp) (hk : sp'.kind = sp.kind) (hp : ∀ args, sp'.pre args → sp.pre args ∧ sp.res args = sp'.res args) : SpOK P f sp' := by
  intro args ha
  obtain ⟨h1, h2⟩ := hp args ha
  have := h args h1
  rw [hk, ← h2]; exact this
theorem back_ok : SpOK Tryz.prog 87 (spZVVV 0 (fun _ y _ l _ m ba a => Lm y ∧ y.length < 100000 ∧ Lm l ∧ l.length < 100000 ∧ Lm m ∧ m.length < 100000 ∧ Lm a ∧ a.length < 100000 ∧ 0 < zv ba a) (fun by_ y bl l bm m ba a => zi (cl (zv bl l + zv bm m * zv by_ y) (zv ba a)))) := by
  refine SpOK.ZVVV fun b0 y b1 l b2 m b3 a ⟨hy, hyl, hl, hll, hm, hml, ha, hal, hpos⟩ => ?_
  have hE := env (SOK.cons zmul_ok (SOK.cons zadd_ok (SOK.cons lup_ok (SOK.nil (P := Tryz.prog)))))
  refine ACall.body hE Tryz.func87 Tryz.ntmps87 Tryz.results87 ?_
  have bY := zv_abs_lt (b := b0) hy (l := 100000) (by omega)
  have bL := zv_abs_lt (b := b1) hl (l := 100000) (by omega)
  have bM := zv_abs_lt (b := b2) hm (l := 100000) (by omega)
  obtain ⟨Y, eY⟩ : ∃ Y, zv b0 y = Y := ⟨_, rfl⟩
  obtain ⟨L, eL⟩ : ∃ L, zv b1 l = L := ⟨_, rfl⟩
  obtain ⟨M, eM⟩ : ∃ M, zv b2 m = M := ⟨_, rfl⟩
  obtain ⟨A, eA⟩ : ∃ A, zv b3 a = A := ⟨_, rfl⟩
  rw [eY] at bY
  rw [eL] at bL
  rw [eM] at bM
  rw [eA] at hpos
  rw [eY, eL, eM, eA]
  have bMY := abs_mul_lt bM bY
  obtain ⟨f1, f1'⟩ := nat_abs_lt bMY (by omega)
  have bL2 := pw_add 100000 bL
  have bS := abs_add_lt bL2 bMY
  obtain ⟨f2, f2'⟩ := dgl bS (by omega)
  obtain ⟨P1, eP1⟩ : ∃ P1, M * Y = P1 := ⟨_, rfl⟩
  rw [eP1] at f1 f1' f2 f2' bS
  obtain ⟨S1, eS1⟩ : ∃ S1, L + P1 = S1 := ⟨_, rfl⟩
  rw [eS1] at f2 f2'
  rw [eP1, eS1]
  have f2'' : (dg S1.natAbs).length < 1000000 := by omega
  clear bY bL bM bMY bL2 bS
  refine wk hE (And.intro eY (And.intro eL (And.intro eM (And.intro eA (And.intro eP1 eS1))))) ?_
  exact PostL.mk trivial rfl
end Go.Hl

namespace Go.Hl
theorem least_lt {a m l r x : Int} (hm : 0 < m) (h : LeastR a m l r x) : x < m := by
  obtain ⟨h0, h1, h2⟩ := h
  rcases Int.lt_or_le x m with h' | h'
  · exact h'
  · refine absurd ?_ (h2 (x - m) (by omega) (by omega))
    unfold inR at *
    have : a * (x - m) = a * x + m * (-a) := by grind
    rw [this, Int.add_mul_emod_self_left]; exact h1
theorem least_unique {a m l r x y : Int} (h : LeastR a m l r x) (k : LeastR a m l r y) : x = y := by
  rcases Int.lt_trichotomy x y with h' | h' | h'
  · exact absurd h.2.1 (k.2.2 x h.1 h')
  · exact h'
  · exact absurd k.2.1 (h.2.2 y k.1 h')
def Bk (fin : Int → Prop) (M : Int) : List (Int × Int × Int) → Int → Prop
  | [], x => (0 ≤ x ∧ x ≤ M) ∧ fin x
  | s :: st, x => (0 ≤ x ∧ x ≤ M) ∧ Bk fin M st (cl (s.1 + s.2.1 * x) s.2.2)
theorem Bk.rng {fin : Int → Prop} {M : Int} {st : List (Int × Int × Int)} {x : Int} (h : Bk fin M st x) : 0 ≤ x ∧ x ≤ M := by
  cases st with
  | nil => exact h.1
  | cons s st => exact h.1
structure RInv (A M L R a m l r : Int) (st : List (Int × Int × Int)) : Prop where
  ha : 0 ≤ a ∧ a < m
  hl : 0 ≤ l ∧ l ≤ r ∧ r < m
  hm : 2 ^ st.length * m ≤ M
  fit : ∀ s ∈ st, (0 ≤ s.1 ∧ s.1 ≤ M) ∧ (0 ≤ s.2.1 ∧ s.2.1 ≤ M) ∧ (0 < s.2.2 ∧ s.2.2 ≤ M)
  least : ∀ x, LeastR a m l r x → Bk (LeastR A M L R) M st x
  none : NoneR a m l r → NoneR A M L R
theorem pow_pos2 (n : Nat) : (1 : Int) ≤ 2 ^ n := by
  have : 0 < (2 : Int) ^ n := Int.pow_pos (by decide)
  omega
theorem RInv.le {A M L R a m l r : Int} {st : List (Int × Int × Int)} (h : RInv A M L R a m l r st) : m ≤ M := by
  have h1 := pow_pos2 st.length
  have h2 := h.hm
  have h3 : 0 ≤ m := by have := h.ha; omega
  have : 1 * m ≤ 2 ^ st.length * m := Int.mul_le_mul_of_nonneg_right h1 h3
  omega
theorem RInv.start {A M L R : Int} (ha : 0 ≤ A ∧ A < M) (hl : 0 ≤ L ∧ L ≤ R ∧ R < M) : RInv A M L R A M L R [] := by
  refine ⟨ha, hl, (by simp), fun s hs => (by cases hs), fun x hx => ?_, fun h => h⟩
  exact ⟨⟨hx.1, Int.le_of_lt (least_lt (by omega) hx)⟩, hx⟩
theorem RInv.flip {A M L R a m l r : Int} {st : List (Int × Int × Int)} (h : RInv A M L R a m l r st) (hl : 0 < l) (h2 : 0 < a) : RInv A M L R (m - a) m (m - r) (m - l) st := by
  obtain ⟨h0, h1, h3, h4, h5, h6⟩ := h
  refine ⟨by omega, by omega, h3, h4, fun x hx => h5 x ((leastR_flip (by omega) hl h1.2.2).1 hx), fun hn => h6 ((noneR_flip (by omega) hl h1.2.2).1 hn)⟩
theorem RInv.step {A M L R a m l r : Int} {st : List (Int × Int × Int)} (h : RInv A M L R a m l r st) (hl : 0 < l) (h0 : 0 < a) (h2 : 2 * a ≤ m) (ht : r < cl l a * a) :
    RInv A M L R ((-m) % a) a (l % a) (r % a) ((l, m, a) :: st) := by
  have hle := h.le
  obtain ⟨g0, g1, g3, g4, g5, g6⟩ := h
  have hs := euclid_step h0 hl g1.2.1 g1.2.2 ht
  refine ⟨hs.ha, ⟨by have := hs.hl; omega, hs.hl.2.1, hs.hl.2.2⟩, ?_, fun s hm => ?_, fun x hx => ?_, fun hn => g6 (hs.none hn)⟩
  · have : (2 : Int) ^ ((l, m, a) :: st).length * a = 2 ^ st.length * (2 * a) := by
      rw [List.length_cons, Int.pow_succ]; grind
    rw [this]
    have h1 := pow_pos2 st.length
    exact Int.le_trans (Int.mul_le_mul_of_nonneg_left h2 (by omega)) g3
  · cases hm with
    | head => refine ⟨⟨?_, ?_⟩, ⟨?_, ?_⟩, ⟨?_, ?_⟩⟩ <;> dsimp only <;> omega
    | tail _ hm => exact g4 s hm
  · exact ⟨⟨hx.1, by have := least_lt h0 hx; omega⟩, g5 _ (hs.least x hx)⟩
theorem RInv.zero {A M L R a m r : Int} {st : List (Int × Int × Int)} (h : RInv A M L R a m 0 r st) : Bk (LeastR A M L R) M st 0 := by
  obtain ⟨g0, g1, g3, g4, g5, g6⟩ := h
  exact g5 0 (inR_zero (by omega) g1.2.1)
theorem RInv.found {A M L R a m l r : Int} {st : List (Int × Int × Int)} (h : RInv A M L R a m l r st) (hl : 0 < l) (h0 : 0 < a) (ht : cl l a * a ≤ r) : Bk (LeastR A M L R) M st (cl l a) :=
  h.least _ (least_direct h0 hl h.hl.2.2 ht)
theorem RInv.miss {A M L R m l r : Int} {st : List (Int × Int × Int)} (h : RInv A M L R 0 m l r st) (hl : 0 < l) : NoneR A M L R := h.none (none_zero hl)
theorem RInv.len {A M L R a m l r : Int} {st : List (Int × Int × Int)} (h : RInv A M L R a m l r st) {k : Nat} (hM : M.natAbs < 2 ^ k) : st.length ≤ k := by
  have h1 := h.hm
  have h3 : 1 ≤ m := by have := h.ha; omega
  have h4 : (2 : Int) ^ st.length * 1 ≤ 2 ^ st.length * m := Int.mul_le_mul_of_nonneg_left h3 (by have := pow_pos2 st.length; omega)
  have h5 : (2 : Int) ^ st.length ≤ M := by omega
  have h6 : (2 : Nat) ^ st.length < 2 ^ k := by
    have e : ((2 ^ st.length : Nat) : Int) = (2 : Int) ^ st.length := by rw [Int.natCast_pow]; rfl
    have : ((2 ^ st.length : Nat) : Int) ≤ M := by rw [e]; exact h5
    omega
  exact Nat.le_of_lt ((Nat.pow_lt_pow_iff_right (by decide)).1 h6)
open Classical in
noncomputable def rX (a m l r : Int) : Int := if h : ∃ x, LeastR a m l r x then Classical.choose h else 0
noncomputable def rO (a m l r : Int) : Bool := @decide (∃ x, LeastR a m l r x) (Classical.propDecidable _)
theorem rX_eq {a m l r x : Int} (h : LeastR a m l r x) : rX a m l r = x ∧ rO a m l r = true := by
  have he : ∃ x, LeastR a m l r x := ⟨x, h⟩
  refine ⟨?_, @decide_eq_true _ (Classical.propDecidable _) he⟩
  unfold rX
  rw [dif_pos he]
  exact least_unique (Classical.choose_spec he) h
theorem rX_none {a m l r : Int} (h : NoneR a m l r) : rX a m l r = 0 ∧ rO a m l r = false := by
  have he : ¬ ∃ x, LeastR a m l r x := fun ⟨x, hx⟩ => h x hx.1 hx.2.1
  exact ⟨by unfold rX; rw [dif_neg he], @decide_eq_false _ (Classical.propDecidable _) he⟩
end Go.Hl

namespace Go.Hl
def Vk (a b m k : Int) : Int := (a * k + b) % m
def inV (a b m lo hi k : Int) : Prop := lo ≤ Vk a b m k ∧ Vk a b m k ≤ hi
def IsF (a b m lo hi n k : Int) : Prop :=
  (k = -1 ∧ ∀ j, 0 ≤ j → j < n → ¬ inV a b m lo hi j) ∨ ((0 ≤ k ∧ k < n) ∧ inV a b m lo hi k ∧ ∀ j, 0 ≤ j → j < k → ¬ inV a b m lo hi j)
theorem isF_unique {a b m lo hi n j k : Int} (hj : IsF a b m lo hi n j) (hk : IsF a b m lo hi n k) : j = k := by
  rcases hj with ⟨rfl, h1⟩ | ⟨h1, h2, h3⟩ <;> rcases hk with ⟨rfl, k1⟩ | ⟨k1, k2, k3⟩
  · rfl
  · exact absurd k2 (h1 k k1.1 k1.2)
  · exact absurd h2 (k1 j h1.1 h1.2)
  · rcases Int.lt_trichotomy j k with h | h | h
    · exact absurd h2 (k3 j h1.1 h)
    · exact h
    · exact absurd k2 (h3 k k1.1 h)
theorem cong_eq {m x y c : Int} (h : x - y = m * c) (hx : 0 ≤ x ∧ x < m) (hy : 0 ≤ y ∧ y < m) : x = y := by
  have e : x = y + m * c := by omega
  have h1 : x % m = y := emod_of e hy.1 hy.2
  rw [Int.emod_eq_of_lt hx.1 hx.2] at h1
  exact h1
theorem mod_rng (x : Int) {m : Int} (hm : 0 < m) : 0 ≤ x % m ∧ x % m < m := ⟨Int.emod_nonneg _ (by omega), Int.emod_lt_of_pos _ hm⟩
theorem rng_iff {m lo hi v : Int} (hlo : 0 ≤ lo) (hlh : lo ≤ hi) (hhi : hi < m) (hv : 0 ≤ v ∧ v < m) : (lo ≤ v ∧ v ≤ hi) ↔ (v - lo) % m ≤ hi - lo := by
  rcases Int.lt_or_le v lo with h | h
  · have : (v - lo) % m = v - lo + m := emod_of (q := -1) (by omega) (by omega) (by omega)
    rw [this]; omega
  · rw [Int.emod_eq_of_lt (by omega) (by omega)]; omega
theorem inV_dist {a b m lo hi k : Int} (hlo : 0 ≤ lo) (hlh : lo ≤ hi) (hhi : hi < m) : inV a b m lo hi k ↔ (a * k + b - lo) % m ≤ hi - lo := by
  have hm : 0 < m := by omega
  unfold inV
  rw [rng_iff hlo hlh hhi (show 0 ≤ Vk a b m k ∧ Vk a b m k < m from mod_rng _ hm)]
  have : (Vk a b m k - lo) % m = (a * k + b - lo) % m := by
    unfold Vk
    have e := Int.mul_ediv_add_emod (a * k + b) m
    have : a * k + b - lo = ((a * k + b) % m - lo) + m * ((a * k + b) / m) := by omega
    rw [this, Int.add_mul_emod_self_left]
  rw [this]
theorem turn {b m lo hi : Int} (hlo : 0 ≤ lo) (hlh : lo ≤ hi) (hhi : hi < m) :
    ((lo - b) % m ≤ (hi - b) % m → (hi - b) % m - (lo - b) % m = hi - lo) ∧ ((hi - b) % m < (lo - b) % m → (hi - b) % m - (lo - b) % m + m = hi - lo) := by
  have hm : 0 < m := by omega
  have r1 := mod_rng (lo - b) hm
  have r2 := mod_rng (hi - b) hm
  have e1 := Int.mul_ediv_add_emod (lo - b) m
  have e2 := Int.mul_ediv_add_emod (hi - b) m
  generalize (lo - b) % m = l at *
  generalize (hi - b) % m = r at *
  generalize (lo - b) / m = p at *
  generalize (hi - b) / m = q at *
  constructor
  · intro h
    refine cong_eq (x := r - l) (y := hi - lo) (m := m) (c := p - q) ?_ ⟨by omega, by omega⟩ ⟨by omega, by omega⟩
    have : m * (p - q) = m * p - m * q := by grind
    omega
  · intro h
    refine cong_eq (x := r - l + m) (y := hi - lo) (m := m) (c := p - q + 1) ?_ ⟨by omega, by omega⟩ ⟨by omega, by omega⟩
    have : m * (p - q + 1) = m * p - m * q + m := by grind
    omega
theorem inV_inR {a b m lo hi k : Int} (hlo : 0 ≤ lo) (hlh : lo ≤ hi) (hhi : hi < m) (h : (lo - b) % m ≤ (hi - b) % m) : inV a b m lo hi k ↔ inR (a % m) m ((lo - b) % m) ((hi - b) % m) k := by
  have hm : 0 < m := by omega
  have r1 := mod_rng (lo - b) hm
  have r2 := mod_rng (hi - b) hm
  rw [inV_dist hlo hlh hhi]
  unfold inR
  rw [rng_iff r1.1 h r2.2 (mod_rng _ hm), (turn hlo hlh hhi).1 h]
  have : ((a % m * k) % m - (lo - b) % m) % m = (a * k + b - lo) % m := by
    have e1 := Int.mul_ediv_add_emod (lo - b) m
    have e2 := Int.mul_ediv_add_emod (a % m * k) m
    have e3 := Int.mul_ediv_add_emod a m
    have : a * k + b - lo = ((a % m * k) % m - (lo - b) % m) + m * (a / m * k + (a % m * k) / m - (lo - b) / m) := by grind
    rw [this, Int.add_mul_emod_self_left]
  rw [this]
theorem inV_over {a b m lo hi : Int} (hlo : 0 ≤ lo) (hlh : lo ≤ hi) (hhi : hi < m) (h : (hi - b) % m < (lo - b) % m) : inV a b m lo hi 0 := by
  have hm : 0 < m := by omega
  have r1 := mod_rng (lo - b) hm
  have r2 := mod_rng (hi - b) hm
  have e1 := Int.mul_ediv_add_emod (lo - b) m
  have ht := (turn hlo hlh hhi).2 h
  rw [inV_dist hlo hlh hhi]
  have : (a * 0 + b - lo) % m = m - (lo - b) % m := by
    refine emod_of (q := -((lo - b) / m) - 1) ?_ (by omega) (by omega)
    have : m * (-((lo - b) / m) - 1) = - (m * ((lo - b) / m)) - m := by grind
    omega
  rw [this]; omega
open Classical in
noncomputable def fst' (a b m lo hi n : Int) : Int := if h : ∃ k, IsF a b m lo hi n k then Classical.choose h else 0
theorem fst_eq {a b m lo hi n k : Int} (h : IsF a b m lo hi n k) : fst' a b m lo hi n = k := by
  have he : ∃ k, IsF a b m lo hi n k := ⟨k, h⟩
  unfold fst'
  rw [dif_pos he]
  exact isF_unique (Classical.choose_spec he) h
theorem isF_none {a b m lo hi n : Int} (h : n < 1) : IsF a b m lo hi n (-1) := .inl ⟨rfl, fun j h1 h2 => by omega⟩
theorem isF_over {a b m lo hi n : Int} (hlo : 0 ≤ lo) (hlh : lo ≤ hi) (hhi : hi < m) (hn : 1 ≤ n) (h : (hi - b) % m < (lo - b) % m) : IsF a b m lo hi n 0 :=
  .inr ⟨by omega, inV_over hlo hlh hhi h, fun j h1 h2 => by omega⟩
theorem isF_reach {a b m lo hi n : Int} (hlo : 0 ≤ lo) (hlh : lo ≤ hi) (hhi : hi < m) (h : (lo - b) % m ≤ (hi - b) % m) :
    (rO (a % m) m ((lo - b) % m) ((hi - b) % m) = true → IsF a b m lo hi n (if rX (a % m) m ((lo - b) % m) ((hi - b) % m) < n then rX (a % m) m ((lo - b) % m) ((hi - b) % m) else -1)) ∧
    (rO (a % m) m ((lo - b) % m) ((hi - b) % m) = false → IsF a b m lo hi n (-1)) := by
  by_cases he : ∃ x, LeastR (a % m) m ((lo - b) % m) ((hi - b) % m) x
  · obtain ⟨x, hx⟩ := he
    obtain ⟨q1, q2⟩ := rX_eq hx
    refine ⟨fun _ => ?_, fun h => (by rw [q2] at h; cases h)⟩
    rw [q1]
    obtain ⟨x0, x1, x2⟩ := hx
    split
    · rename_i hlt
      exact .inr ⟨⟨x0, hlt⟩, (inV_inR hlo hlh hhi h).2 x1, fun j h1 h2 h3 => x2 j h1 h2 ((inV_inR hlo hlh hhi h).1 h3)⟩
    · rename_i hge
      exact .inl ⟨rfl, fun j h1 h2 h3 => x2 j h1 (by omega) ((inV_inR hlo hlh hhi h).1 h3)⟩
  · have hn : NoneR (a % m) m ((lo - b) % m) ((hi - b) % m) := fun y hy h' => by
      have key : ∀ n : Nat, ∀ y : Int, 0 ≤ y → y.toNat = n → inR (a % m) m ((lo - b) % m) ((hi - b) % m) y → ∃ x, LeastR (a % m) m ((lo - b) % m) ((hi - b) % m) x := by
        intro n
        induction n using Nat.strongRecOn with
        | ind n ih =>
          intro y hy hn h'
          by_cases hm' : ∃ z, 0 ≤ z ∧ z < y ∧ inR (a % m) m ((lo - b) % m) ((hi - b) % m) z
          · obtain ⟨z, z0, zy, hz⟩ := hm'
            exact ih z.toNat (by omega) z z0 rfl hz
          · exact ⟨y, hy, h', fun z z0 zy hz => hm' ⟨z, z0, zy, hz⟩⟩
      exact he (key _ y hy rfl h')
    obtain ⟨q1, q2⟩ := rX_none hn
    refine ⟨fun h => (by rw [q2] at h; cases h), fun _ => .inl ⟨rfl, fun j h1 _ h3 => hn j h1 ((inV_inR hlo hlh hhi h).1 h3)⟩⟩
end Go.Hl

namespace Go.Hl
def sm (f : Nat → Nat) : Nat → Nat
  | 0 => 0
  | n + 1 => sm f n + f n
theorem sm_congr {f g : Nat → Nat} : ∀ {n : Nat}, (∀ i, i < n → f i = g i) → sm f n = sm g n
  | 0, _ => rfl
  | n + 1, h => by simp only [sm]; rw [sm_congr (fun i hi => h i (by omega)), h n (by omega)]
theorem sm_add (f g : Nat → Nat) : ∀ n, sm (fun i => f i + g i) n = sm f n + sm g n
  | 0 => rfl
  | n + 1 => by simp only [sm]; rw [sm_add f g n]; omega
theorem sm_head (f : Nat → Nat) : ∀ n, sm f (n + 1) = f 0 + sm (fun i => f (i + 1)) n
  | 0 => by simp [sm]
  | n + 1 => by
    rw [sm, sm_head f n]
    simp only [sm]; omega
theorem sm_rev : ∀ (f : Nat → Nat) (n : Nat), sm f n = sm (fun i => f (n - 1 - i)) n
  | _, 0 => rfl
  | f, n + 1 => by
    rw [sm_head (fun i => f (n + 1 - 1 - i)) n, sm, sm_rev f n]
    have : sm (fun i => f (n - 1 - i)) n = sm (fun i => f (n + 1 - 1 - (i + 1))) n := sm_congr (fun i hi => by congr 1; omega)
    rw [this]
    simp only [Nat.add_sub_cancel, Nat.sub_zero]
    omega
theorem sm_zero {f : Nat → Nat} {n : Nat} (h : ∀ i, i < n → f i = 0) : sm f n = 0 := by
  induction n with
  | zero => rfl
  | succ n ih => simp only [sm]; rw [ih (fun i hi => h i (by omega)), h n (by omega)]
theorem sm_le {f g : Nat → Nat} : ∀ {n : Nat}, (∀ i, i < n → f i ≤ g i) → sm f n ≤ sm g n
  | 0, _ => Nat.le_refl _
  | n + 1, h => by
    simp only [sm]
    have := sm_le (n := n) (fun i hi => h i (by omega))
    have := h n (by omega)
    omega
theorem sm_const (c : Nat) : ∀ n, sm (fun _ => c) n = c * n
  | 0 => rfl
  | n + 1 => by simp only [sm]; rw [sm_const c n, Nat.mul_succ]
theorem sm_lin (q : Nat) : ∀ n, sm (fun k => q * k) n = q * (n * (n - 1) / 2)
  | 0 => by simp [sm]
  | n + 1 => by
    simp only [sm]
    rw [sm_lin q n]
    have : (n + 1) * (n + 1 - 1) / 2 = n * (n - 1) / 2 + n := by
      have e : (n + 1) * (n + 1 - 1) = n * (n - 1) + n * 2 := by
        cases n with
        | zero => rfl
        | succ n => simp only [Nat.add_sub_cancel]; grind
      rw [e, Nat.add_mul_div_right _ _ (by decide)]
    rw [this, Nat.mul_add]
theorem sm_count {m : Nat} (hm : 0 < m) (X : Nat) : ∀ T, X / m ≤ T → sm (fun i => if m * (i + 1) ≤ X then 1 else 0) T = X / m := by
  have key : ∀ T, sm (fun i => if m * (i + 1) ≤ X then 1 else 0) T = min T (X / m) := by
    intro T
    induction T with
    | zero => simp [sm]
    | succ T ih =>
      simp only [sm]
      rw [ih]
      have hiff : m * (T + 1) ≤ X ↔ T + 1 ≤ X / m := by rw [Nat.le_div_iff_mul_le hm, Nat.mul_comm]
      split
      · rename_i h; have := hiff.1 h; omega
      · rename_i h; have : ¬ T + 1 ≤ X / m := fun h' => h (hiff.2 h'); omega
  intro T h
  rw [key T]; omega
def fS (a b m n : Nat) : Nat := sm (fun k => (a * k + b) / m) n
theorem fS_split {a b m n : Nat} (hm : 0 < m) : fS a b m n = a / m * (n * (n - 1) / 2) + b / m * n + fS (a % m) (b % m) m n := by
  unfold fS
  have h : ∀ k, (a * k + b) / m = (a / m * k + b / m) + (a % m * k + b % m) / m := fun k => by
    have e1 := Nat.div_add_mod a m
    have e2 := Nat.div_add_mod b m
    have e : a * k + b = (a % m * k + b % m) + m * (a / m * k + b / m) := by
      have : a * k = (m * (a / m) + a % m) * k := by rw [e1]
      grind
    rw [e, Nat.add_mul_div_left _ _ hm]; omega
  rw [sm_congr (fun k _ => h k), sm_add, sm_add, sm_lin, sm_const]
theorem G_step {x m X : Nat} (hx : 0 < x) (hm : 0 < m) (T : Nat) (hT : X / m ≤ T) :
    sm (fun i => (X + x - m * (i + 1)) / x) T = sm (fun i => (X - m * (i + 1)) / x) T + X / m := by
  rw [← sm_count hm X T hT, ← sm_add]
  refine sm_congr (fun i _ => ?_)
  split
  · rename_i h
    have : X + x - m * (i + 1) = (X - m * (i + 1)) + x := by omega
    rw [this, Nat.add_div_right _ hx]
  · rename_i h
    rw [Nat.div_eq_of_lt (by omega), show X - m * (i + 1) = 0 by omega, Nat.zero_div]
theorem G_eq {x y m : Nat} (hx : 0 < x) (hy : y < m) (T : Nat) : ∀ n, (x * n + y) / m ≤ T → fS x y m n = sm (fun i => (x * n + y - m * (i + 1)) / x) T
  | 0, _ => by
    unfold fS
    simp only [sm]
    refine (sm_zero (fun i _ => ?_)).symm
    have : m * 1 ≤ m * (i + 1) := Nat.mul_le_mul_left _ (by omega)
    rw [show x * 0 + y - m * (i + 1) = 0 by omega, Nat.zero_div]
  | n + 1, h => by
    have hle : (x * n + y) / m ≤ (x * (n + 1) + y) / m := Nat.div_le_div_right (by rw [Nat.mul_succ]; omega)
    have ih := G_eq hx hy T n (by omega)
    have e : x * (n + 1) + y = x * n + y + x := by rw [Nat.mul_succ]; omega
    rw [e, G_step hx (by omega) T (by omega), ← ih]
    unfold fS
    simp only [sm]
theorem fS_turn {x y m n : Nat} (hx : 0 < x) (hy : y < m) : fS x y m n = fS m ((x * n + y) % m) x ((x * n + y) / m) := by
  rw [G_eq hx hy _ n (Nat.le_refl _)]
  obtain ⟨X, hX⟩ : ∃ X, x * n + y = X := ⟨_, rfl⟩
  rw [hX]
  unfold fS
  rw [sm_rev (fun k => (m * k + X % m) / x)]
  refine sm_congr (fun i hi => ?_)
  have e := Nat.div_add_mod X m
  have : m * (X / m - 1 - i) + X % m = X - m * (i + 1) := by
    obtain ⟨d, hd⟩ : ∃ d, X / m = d + (i + 1) := ⟨X / m - (i + 1), by omega⟩
    rw [hd] at e ⊢
    have e2 : d + (i + 1) - 1 - i = d := by omega
    rw [e2]
    have : m * (d + (i + 1)) = m * d + m * (i + 1) := Nat.mul_add ..
    omega
  rw [this]
theorem fS_zero_x {y m n : Nat} (hy : y < m) : fS 0 y m n = 0 := by
  unfold fS
  refine sm_zero (fun i _ => ?_)
  rw [Nat.zero_mul, Nat.zero_add, Nat.div_eq_of_lt hy]
theorem fS_n0 (a b m : Nat) : fS a b m 0 = 0 := rfl
theorem fS_round {a b m n : Nat} (hm : 0 < m) : fS a b m n = a / m * (n * (n - 1) / 2) + b / m * n + fS m ((a % m * n + b % m) % m) (a % m) ((a % m * n + b % m) / m) := by
  rw [fS_split hm]
  have hy := Nat.mod_lt b hm
  rcases Nat.eq_zero_or_pos (a % m) with h | h
  · rw [h, fS_zero_x hy, Nat.zero_mul, Nat.zero_add, Nat.div_eq_of_lt hy]; rfl
  · rw [fS_turn h hy]
theorem fS_bound (a b m n : Nat) : fS a b m n ≤ (a * n + b) * n := by
  unfold fS
  rw [← sm_const]
  refine sm_le (fun k hk => Nat.le_trans (Nat.div_le_self _ _) ?_)
  have : a * k ≤ a * n := Nat.mul_le_mul_left _ (by omega)
  omega
theorem top_le {a b m n : Nat} (hm : 0 < m) : (a % m * n + b % m) / m ≤ n := by
  have h1 := Nat.mod_lt a hm
  have h2 := Nat.mod_lt b hm
  rcases Nat.eq_zero_or_pos n with h | h
  · subst h; rw [Nat.mul_zero, Nat.zero_add, Nat.div_eq_of_lt h2]; exact Nat.le_refl _
  · have : a % m * n + b % m < m * (n + 1) := by
      have h3 : a % m * n ≤ (m - 1) * n := Nat.mul_le_mul_right _ (by omega)
      have h4 : (m - 1) * n + n = m * n := by
        obtain ⟨d, rfl⟩ : ∃ d, m = d + 1 := ⟨m - 1, by omega⟩
        simp only [Nat.add_sub_cancel]; grind
      rw [Nat.mul_succ]; omega
    have := (Nat.div_lt_iff_lt_mul hm).2 (by rw [Nat.mul_comm]; exact this)
    omega
noncomputable def cW (a b m w : Int) (n : Nat) : Nat := sm (fun k => if Vk a b m k < w then 1 else 0) n
theorem term_diff {x y m w : Nat} (k : Nat) (hm : 0 < m) (hw : w ≤ m) : (x * k + (y + m)) / m = (x * k + (y + m - w)) / m + (if (x * k + y) % m < w then 1 else 0) := by
  obtain ⟨u, hu⟩ : ∃ u, x * k + y = u := ⟨_, rfl⟩
  have e1 : x * k + (y + m) = u + m := by omega
  have e2 : x * k + (y + m - w) = u + m - w := by omega
  rw [e1, e2, hu, Nat.add_div_right _ hm]
  have e := Nat.div_add_mod u m
  have hl := Nat.mod_lt u hm
  obtain ⟨v, hv⟩ : ∃ v, u % m = v := ⟨_, rfl⟩
  obtain ⟨p, hp⟩ : ∃ p, u / m = p := ⟨_, rfl⟩
  rw [hv] at e hl ⊢
  rw [hp] at e ⊢
  split
  · rename_i h
    have h1 : u + m - w = (v + m - w) + m * p := by omega
    have h2 : v + m - w < m := by omega
    rw [h1, Nat.add_mul_div_left _ _ hm, Nat.div_eq_of_lt h2]; omega
  · rename_i h
    have h1 : u + m - w = (v - w) + m * (p + 1) := by rw [Nat.mul_add]; omega
    have h2 : v - w < m := by omega
    rw [h1, Nat.add_mul_div_left _ _ hm, Nat.div_eq_of_lt h2]; omega
end Go.Hl

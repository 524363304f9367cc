/- An own slice takes another block's number. -/
import Derived.Test.YtccbmjkhplmgnaaGreatHlT
set_option linter.unusedVariables false
set_option linter.unusedSimpArgs false
namespace Go.Hl
open Go Go.RowKit
def mvS (σ : St) (t id d : Nat) (v : AV) (blk : Blk) : St := ⟨(t, v) :: del (kil (kil σ.fr id) d) t, (d, blk) :: del (del σ.hp id) d⟩
theorem mvS_mk (fr : List (Nat × AV)) (hp : List (Nat × Blk)) (t id d : Nat) (v : AV) (blk : Blk) : mvS ⟨fr, hp⟩ t id d v blk = ⟨(t, v) :: del (kil (kil fr id) d) t, (d, blk) :: del (del hp id) d⟩ := rfl
attribute [push_cast] mvS_mk
theorem Conc.set {κ : Ctx} {β : Nat → Option (Nat × Nat)} {F : Nat → AV} {G : Nat → Option Blk} {a : Act} {w : World} (h : Conc κ β F G a w) {t : Nat} {v : AV} (hv : RV κ β G w v (a.tmps.getD t undef)) : Conc κ β (upd F t v) G a w := by
  refine ⟨h.sz, fun u => ?_, h.dfr, h.hp, h.sep, h.chg, h.x0⟩
  by_cases e : t = u
  · subst e; rw [upd_same]; exact hv
  · rw [upd_other _ _ e]; exact h.rel u
theorem mvS_sound {κ : Ctx} {β : Nat → Option (Nat × Nat)} {σ : St} {a : Act} {w : World} (h : Conc κ β σ.get σ.blk a w) {t id d s off len : Nat} {blk : Blk} (hd : d ≠ κ.nt) (ht : σ.get t = .os id s off len) (hb : σ.blk id = some blk) (hid : id ≠ d) :
    ∃ β', Conc κ β' (mvS σ t id d (.os d s off len) blk).get (mvS σ t id d (.os d s off len) blk).blk a w := by
  have hv := h.rel t
  rw [ht] at hv
  obtain ⟨ad, cap, g1, g2, g3⟩ := hv
  have g3 := g3 blk hb
  have k1 : Conc κ β (σ.kill id).get σ.blk a w := h.weak (fun u => get_kill_or σ id u)
  have k2 : Conc κ β ((σ.kill id).kill d).get σ.blk a w := k1.weak (fun u => get_kill_or (σ.kill id) d u)
  have r1 : ∀ u, (((σ.kill id).kill d).get u).refs id = false := fun u => refs_kill_of (σ.kill id) d id u (refs_kill σ id u)
  have r2 : ∀ u, (((σ.kill id).kill d).get u).refs d = false := fun u => refs_kill (σ.kill id) d u
  have k4 := Conc.rename k2 hd hb r1 r2
  have k5 := k4.set (t := t) (v := .os d s off len) ⟨ad, cap, g1, g2, fun b hbb => by
    rw [upd_same] at hbb
    rw [upd_same]
    exact g3⟩
  refine ⟨upd β d (β id), ?_⟩
  have e1 : (mvS σ t id d (.os d s off len) blk).get = upd ((σ.kill id).kill d).get t (.os d s off len) := by
    funext u
    show (lk ((t, AV.os d s off len) :: del (kil (kil σ.fr id) d) t) u).getD .any = _
    simp only [lk, upd]
    split
    · rfl
    · rename_i e
      rw [lk_del, if_neg e]
      rfl
  have e2 : (mvS σ t id d (.os d s off len) blk).blk = upd (upd σ.blk id none) d (some blk) := by
    funext u
    show lk ((d, blk) :: del (del σ.hp id) d) u = _
    simp only [lk, upd]
    split
    · rfl
    · rename_i e
      rw [lk_del, if_neg e, lk_del]
      rfl
  rw [e1, e2]
  exact k5
section
variable {P : Program} {T : Tab} {S : FuncId → Option Sp}
theorem AWp.mv {F : Prop} {n : Nat} {c : Code} {Q : Exit → St → Prop} {σ σ1 : St} {s off len : Nat} {blk : Blk} (t id d : Nat) (E : F) (k : AWp P T n c Q σ1) (ht : F → σ.get t = .os id s off len := by
  (intro E; (simp (disch := omega) only [push_cast, ↓Int.cast_ofNat_Int, Int.natCast_add, Int.cast_ofNat_Int, ↓reduceIte, Nat.reduceEqDiff, Nat.reduceBEq, Nat.reduceAdd, Nat.reduceMul, Nat.reduceSub, Nat.reduceLT, Nat.reduceLeDiff, Int.reduceToNat, Int.reduceLT, Int.reduceLE, Int.reduceAdd, Int.reduceSub, Int.reduceNeg, Int.reduceMul, reduceCtorEq, Nat.reducePow, Int.reducePow, Nat.reduceDiv, Nat.reduceMod, List.length_cons, Int.reduceEq, Int.reduceBEq, Int.reduceBNe, E] <;> rfl))) (hb : F → σ.blk id = some blk := by
  (intro E; (simp (disch := omega) only [push_cast, ↓Int.cast_ofNat_Int, Int.natCast_add, Int.cast_ofNat_Int, ↓reduceIte, Nat.reduceEqDiff, Nat.reduceBEq, Nat.reduceAdd, Nat.reduceMul, Nat.reduceSub, Nat.reduceLT, Nat.reduceLeDiff, Int.reduceToNat, Int.reduceLT, Int.reduceLE, Int.reduceAdd, Int.reduceSub, Int.reduceNeg, Int.reduceMul, reduceCtorEq, Nat.reducePow, Int.reducePow, Nat.reduceDiv, Nat.reduceMod, List.length_cons, Int.reduceEq, Int.reduceBEq, Int.reduceBNe, E] <;> rfl))) (hs : F → mvS σ t id d (.os d s off len) blk = σ1 := by
  (intro E; (simp (disch := omega) only [push_cast, ↓Int.cast_ofNat_Int, Int.natCast_add, Int.cast_ofNat_Int, ↓reduceIte, Nat.reduceEqDiff, Nat.reduceBEq, Nat.reduceAdd, Nat.reduceMul, Nat.reduceSub, Nat.reduceLT, Nat.reduceLeDiff, Int.reduceToNat, Int.reduceLT, Int.reduceLE, Int.reduceAdd, Int.reduceSub, Int.reduceNeg, Int.reduceMul, reduceCtorEq, Nat.reducePow, Int.reducePow, Nat.reduceDiv, Nat.reduceMod, List.length_cons, Int.reduceEq, Int.reduceBEq, Int.reduceBNe, E] <;> rfl))) (hd : d ≠ n := by decide) (hid : id ≠ d := by decide) : AWp P T n c Q σ := by
  intro κ β a w hn hm hC
  obtain ⟨β', hC'⟩ := mvS_sound hC (t := t) (id := id) (d := d) (by rw [hn]; exact hd) (ht E) (hb E) hid
  rw [hs E] at hC'
  exact k κ β' a w hn hm hC'
end
end Go.Hl

/- A region that looks at own blocks and writes none: they stay the call's own. -/
import Derived.Test.YtccbmjkhplmgnaaHlBa
set_option linter.unusedVariables false
set_option linter.unusedSimpArgs false
namespace Go.Hl
open Go Go.RowKit Go.Proofs
def vw (hp : List (Nat × Blk)) : AV → AV
  | .os id s off len => match lk hp id with
    | some ⟨_, .n k xs⟩ => if s = 1 ∧ off + len ≤ xs.length then .ns k ((xs.drop off).take len) else .any
    | _ => .any
  | .ptr _ _ => .any
  | v => v
def vwL (hp : List (Nat × Blk)) : List (Nat × AV) → List (Nat × AV)
  | [] => []
  | p :: l => (p.1, vw hp p.2) :: vwL hp l
theorem lk_vwL (hp : List (Nat × Blk)) (l : List (Nat × AV)) (t : Nat) : lk (vwL hp l) t = (lk l t).map (vw hp) := by
  induction l with
  | nil => rfl
  | cons p l ih =>
    obtain ⟨k, v⟩ := p
    simp only [vwL, lk]
    split
    · rfl
    · exact ih
def kept (l : List Oper) (t : Nat) : Bool := l.all fun o => o.dst != some t
def keepL (ds : List Nat) : List (Nat × AV) → List (Nat × AV)
  | [] => []
  | p :: l => if p.1 ∈ ds then keepL ds l else p :: keepL ds l
theorem lk_keepL (ds : List Nat) (l : List (Nat × AV)) (t : Nat) : lk (keepL ds l) t = if t ∈ ds then none else lk l t := by
  induction l with
  | nil => simp [keepL, lk]
  | cons p l ih =>
    obtain ⟨k, v⟩ := p
    simp only [keepL]
    split
    · rename_i h
      rw [ih]
      split
      · rfl
      · rename_i h2
        simp only [lk]
        rw [if_neg (fun e : k = t => h2 (by rw [← e]; exact h))]
    · rename_i h
      simp only [lk]
      split
      · rename_i e
        rw [if_neg (by rw [← e]; exact h)]
      · exact ih
def rwL : List (Nat × Value) → List (Nat × AV) → List (Nat × AV)
  | [], l => l
  | p :: rs, l => (p.1, .raw p.2) :: rwL rs l
def dstL : List Oper → List Nat
  | [] => []
  | o :: l => match o.dst with
    | some d => d :: dstL l
    | none => dstL l
theorem mem_dstL {l : List Oper} {o : Oper} {d : Nat} (h : o ∈ l) (hd : o.dst = some d) : d ∈ dstL l := by
  induction l with
  | nil => cases h
  | cons o' l ih =>
    unfold dstL
    cases h with
    | head => rw [hd]; exact .head _
    | tail _ h =>
      have := ih h
      split
      · exact .tail _ this
      · exact this
section
variable {P : Program} {T : Tab} {S : FuncId → Option Sp}
theorem RI.view {κ : Ctx} {β : Nat → Option (Nat × Nat)} {G : Nat → Option Blk} {hp : List (Nat × Blk)} {w : World} {v : AV} {x : Value} (hG : G = lk hp) (hok : ∀ id blk, G id = some blk → BlkOK κ β G w id blk) (h : RV κ β G w v x) : RI w (fun _ => False) (vw hp v) x := by
  have weak : ∀ {c : AV} {y : Value}, RI w (XG κ β G) c y → RI w (fun _ => False) c y := fun hc => RI.keep (Keep.refl _ w) (fun _ _ hb => hb.elim) hc
  cases v with
  | os id s off len =>
    obtain ⟨ad, cap, h1, h2, h3⟩ := h
    simp only [vw]
    cases hb : lk hp id with
    | none => exact RI.any _
    | some blk =>
      obtain ⟨wr, con⟩ := blk
      cases con with
      | c cs => exact RI.any _
      | n k xs =>
        simp only
        split
        · rename_i hs
          obtain ⟨hs, hle⟩ := hs
          subst hs
          have hlen : ((xs.drop off).take len).length = len := by rw [List.length_take, List.length_drop]; omega
          subst h1
          have hg : G id = some ⟨wr, .n k xs⟩ := by rw [hG]; exact hb
          rcases h3 _ hg with h3 | ⟨b, base, C, e, q4, q5, q6, q7⟩
          · have : len = 0 := by omega
            subst this
            have := RI.ns (w := w) (X := fun _ => False) k ((xs.drop off).take 0) ad 0 0 cap (by simp) (by simp) (by simp)
            simpa using this
          · rcases hok id _ hg with hb' | ⟨b', base', C', e'', p1, p2, p3, p4, p5⟩
            · rw [q4] at hb'; cases hb'.1
            · rw [q4] at p1
              simp only [Option.some.injEq, Prod.mk.injEq] at p1
              obtain ⟨rfl, rfl⟩ := p1
              rw [q6] at p2
              simp only [Option.some.injEq, Obj.cells.injEq] at p2
              obtain ⟨rfl, rfl, _⟩ := p2
              have := RI.ns (w := w) (X := fun _ => False) k ((xs.drop off).take len) ad b (base + off) cap (by omega) (fun _ => ⟨q5, fun h => h⟩) (fun i y hy => ?_)
              · rw [hlen] at this; exact this
              · rw [List.getElem?_take] at hy
                split at hy
                · rw [List.getElem?_drop] at hy
                  obtain ⟨v, v1, v2⟩ := p4 (off + i) (.raw (.int k y)) (by simp [Con.val, hy])
                  rw [cell_of_block q6, Nat.add_assoc, v1, RI.raw_inv v2]
                · cases hy
        · exact RI.any _
  | ptr id off => exact RI.any _
  | _ => exact weak h
theorem AWp.peek (hT : TabOK P T) (hS : SOK P S) {n id : Nat} {l : List Oper} {K : St → Prop} {Q : Exit → St → Prop} {σ : St} {σv : List (Nat × AV)} (rs : List (Nat × Value))
    (hv : vwL σ.hp σ.fr = σv) (hA : opsA T S l.toArray l K ⟨σv, []⟩)
    (hK : ∀ σ2, K σ2 → ∀ p ∈ rs, lk σ2.fr p.1 = some (.raw p.2))
    (hQ : Q .normal ⟨rwL rs (keepL (dstL l) σ.fr), σ.hp⟩) (hd : dstsB l.toArray n = true := by kernel_rfl) : AWp P T n (.region id l.toArray false) Q σ := by
  intro κ β a w hn hm hC
  refine wp_region_list ?_
  have hC' : Conc ⟨n, w, fun _ => False, none⟩ (fun _ => none) (St.get ⟨σv, []⟩) (St.blk ⟨σv, []⟩) a w := by
    refine ⟨hC.sz.trans hn, fun t => ?_, hC.dfr, fun id blk hi => (by cases hi), fun i j b c x y _ hx => (by cases hx), ⟨rfl, rfl, rfl, Nat.le_refl _, fun _ _ _ => rfl, fun _ _ _ hm => (by cases hm)⟩, fun b hb => hb.elim⟩
    have hr := RI.view (hp := σ.hp) rfl hC.hp (hC.rel t)
    have e : (St.get ⟨σv, []⟩ t) = vw σ.hp (σ.get t) := by
      simp only [St.get]
      rw [← hv, lk_vwL]
      cases lk σ.fr t <;> rfl
    rw [e]
    have him : (vw σ.hp (σ.get t)).im = true := by
      generalize σ.get t = v
      cases v <;> try rfl
      simp only [vw]
      split
      · split <;> rfl
      · rfl
    refine RV.of him (hr.keep (Keep.refl _ w) (fun b _ hb => ?_))
    rcases hb with hb | ⟨_, _, _, hb, _⟩
    · exact hb
    · cases hb
  have := opsA_tailR (T := T) (S := S) (κ := ⟨n, w, fun _ => False, none⟩) (K := K) (ops := l.toArray) (Q := fun e a' w' => ∃ σ' β', Q e σ' ∧ Conc κ β' σ'.get σ'.blk a' w') (tail := []) (fun a' => ∀ t, t ∉ dstL l → a'.tmps.getD t undef = a.tmps.getD t undef) hT hS (fun _ => rfl)
    (fun σ2 β2 a' w' hR hk h2 => wpList_nil ⟨⟨rwL rs (keepL (dstL l) σ.fr), σ.hp⟩, β, hQ, ?_⟩) l ⟨σv, []⟩ (fun _ => none) a w (fun o ho t ht => ?_) (fun o ho a' x hr t ht => ?_) (fun _ _ => rfl) hA hC'
  · rwa [List.append_nil] at this
  · have hb : Below w.heap.size w w' := h2.chg.belowW
    refine ⟨h2.sz.trans hn.symm, fun t => ?_, h2.dfr, fun id blk hi => (hC.hp id blk hi).keep hb, hC.sep, hC.chg.below hb, hC.x0⟩
    have key : ∀ rs' : List (Nat × Value), (∀ p ∈ rs', p ∈ rs) → RV κ β (St.blk ⟨rwL rs (keepL (dstL l) σ.fr), σ.hp⟩) w' ((lk (rwL rs' (keepL (dstL l) σ.fr)) t).getD .any) (a'.tmps.getD t undef) := by
      intro rs' hrs
      induction rs' with
      | nil =>
        simp only [rwL]
        rw [lk_keepL]
        split
        · exact RI.any _
        · rename_i ht
          rw [hR t ht]
          exact (hC.rel t).keep hb
      | cons p rs' ih =>
        simp only [rwL, lk]
        split
        · rename_i e
          subst e
          have h3 := hK σ2 hk p (hrs p (.head _))
          have h4 := h2.rel p.1
          simp only [St.get, h3, Option.getD_some] at h4
          have h5 := RI.raw_inv h4
          simp only [Option.getD_some]
          rw [h5]
          exact RI.raw _
        · exact ih (fun q hq => hrs q (.tail _ hq))
    exact key rs (fun _ h => h)
  · have := Array.all_eq_true_iff_forall_mem.1 hd o (by simpa using ho)
    rw [ht] at this
    simpa using this
  · cases hdd : o.dst with
    | none => rw [hdd] at *; exact hr t ht
    | some d =>
      rw [putN (fun e : d = t => ht (by rw [← e]; exact mem_dstL ho hdd))]
      exact hr t ht
end
attribute [push_cast] vwL vw keepL dstL rwL List.mem_cons List.not_mem_nil or_false or_true false_or
end Go.Hl

/- The walk of a list of operations, with more known beside. -/
import Derived.Test.YtccbmjkhplmgnaaGreatHlT
set_option linter.unusedVariables false
set_option linter.unusedSimpArgs false
namespace Go.Hl
open Go Go.RowKit Go.Proofs
theorem Chg.belowW {n : Nat} {w0 w : World} {X : Nat → Prop} (h : Chg ⟨n, w0, X, none⟩ w) : Below w0.heap.size w0 w :=
  ⟨h.os, h.tape, h.output, h.size, fun k hk => h.old k hk (fun _ _ e => by cases e)⟩
section
variable {P : Program} {T : Tab} {S : FuncId → Option Sp} {κ : Ctx} {β : Nat → Option (Nat × Nat)} {a : Act} {w : World} {ops : Array Oper}
theorem wp_of_er' {o : Oper} {σ : St} {K : Act → World → Prop} {Q : Exit → Act → World → Prop} (h : ER P κ σ a o.dst ((execOp a.eval o).run P w))
    (hK : ∀ β' x w', Conc κ β' σ.get σ.blk (a.put o.dst x) w' → K (a.put o.dst x) w') : o.wp P a w K Q := by
  unfold Oper.wp
  generalize (execOp a.eval o).run P w = r at *
  cases r with
  | halt _ _ => exact False.elim h
  | ok n w' =>
    cases n <;> try (exact False.elim h)
    case value x => obtain ⟨β', hc⟩ := h; exact hK _ _ _ hc
    case skip => obtain ⟨β', hc⟩ := h; exact hK _ _ _ hc
    case enter f vs =>
      refine Calls.mono h (fun e w'' ⟨v, he, β', hc⟩ => ?_)
      subst he
      exact hK _ _ _ hc
theorem opsA_tailR (R : Act → Prop) (hT : TabOK P T) (hS : SOK P S) (hmu : T.mu = false → κ.mu = none) {Q : Exit → Act → World → Prop} {K : St → Prop}
    {tail : List Oper} (hQ : ∀ σ β' a' w', R a' → K σ → Conc κ β' σ.get σ.blk a' w' → wpList P ops Q tail a' w') :
    ∀ (l : List Oper) (σ : St) (β : Nat → Option (Nat × Nat)) (a : Act) (w : World), (∀ o ∈ l, ∀ t, o.dst = some t → t < κ.nt) → (∀ o ∈ l, ∀ a x, R a → R (a.put o.dst x)) → R a → opsA T S ops l K σ → Conc κ β σ.get σ.blk a w → wpList P ops Q (l ++ tail) a w
  | [], σ, β, a, w, _, _, hr, h, hC => hQ σ β a w hr h hC
  | o :: l, σ, β, a, w, hd, hR, hr, h, hC => by
    rw [List.cons_append]
    unfold wpList
    simp only [opsA] at h
    rcases guard_sound hC h with ⟨hw, σ', e1, e2, h1, h2⟩ | ⟨hw, σ', e1, e2, h2⟩
    · rw [hw, if_pos rfl]
      rw [← e1, ← e2] at hC
      exact .inl (wp_of_er' (st1_sound hT hS hmu hC o (hd o (.head _)) h1) (fun β' x w' hc => opsA_tailR R hT hS hmu hQ l _ β' _ w' (fun o' ho' => hd o' (.tail _ ho')) (fun o' ho' => hR o' (.tail _ ho')) (hR o (.head _) a x hr) h2 hc))
    · rw [hw, if_neg (by simp)]
      refine opsA_tailR R hT hS hmu hQ l _ β (a.put o.dst undef) w (fun o' ho' => hd o' (.tail _ ho')) (fun o' ho' => hR o' (.tail _ ho')) (hR o (.head _) a undef hr) h2 ?_
      rw [St.get_put, St.blk_put, e1, e2]
      exact hC.put (hd o (.head _)) (RI.raw _)
end
theorem putN {d t : Nat} (h : d ≠ t) (a : Act) (x : Value) : (a.put (some d) x).tmps.getD t undef = a.tmps.getD t undef := by
  simp only [Act.put]
  rw [Array.getD_eq_getD_getElem?, Array.getD_eq_getD_getElem?, Array.setIfInBounds]
  split
  · rw [Array.getElem?_set_ne _ h]
  · rfl
end Go.Hl

/- Bytes made a text. -/
import Derived.Laws.IdiomStrings
import Derived.Test.YtccbmjkhplmgnaaHlAv28
set_option linter.unusedVariables false
set_option linter.unusedSimpArgs false
namespace Go.Hl
open Go Go.RowKit Go.Proofs
def bi (l : List UInt8) : List Int := l.map fun c => (c.toNat : Int)
def BytesAt (σ : St) (t : Nat) (l : List UInt8) : Prop := σ.get t = .ns .u8 (bi l) ∨ ∃ id wr, σ.get t = .os id 1 0 l.length ∧ σ.blk id = some ⟨wr, .n .u8 (bi l)⟩
section
variable {P : Program} {T : Tab} {S : FuncId → Option Sp} {κ : Ctx} {β : Nat → Option (Nat × Nat)} {a : Act} {w : World}
theorem bytes_sound {σ : St} (hC : Conc κ β σ.get σ.blk a w) {t : Nat} {l : List UInt8} (h : BytesAt σ t l) (hl : l ≠ []) : ∃ b o cap, a.tmps.getD t undef = .slice (some ⟨b, o, none⟩) l.length cap ∧ ∀ j (hj : j < l.length), w.cell? ⟨b, o + j, none⟩ = some (.int .u8 (l[j].toNat : Int)) := by
  have hpos := List.length_pos_iff.2 hl
  have hr := hC.rel t
  rcases h with h | ⟨id, wr, h1, h2⟩
  · rw [h] at hr
    generalize a.tmps.getD t undef = x at hr
    cases hr with
    | ns k xs ad b o cap hc ha hh =>
      have hlen : (bi l).length = l.length := by simp [bi]
      obtain ⟨e, _⟩ := ha (by omega)
      subst e
      refine ⟨b, o, cap, by rw [hlen], fun j hj => ?_⟩
      have := hh j (l[j].toNat : Int) (by simp [bi, hj])
      exact this
  · rw [h1] at hr
    obtain ⟨ad, cap, q1, q2, q3⟩ := hr
    rcases q3 _ h2 with q3 | ⟨b, base, C, e, q4, q5, q6, q7⟩
    · omega
    · rcases hC.hp id _ h2 with hb' | ⟨b', base', C', e'', p1, p2, p3, p4, p5⟩
      · rw [q4] at hb'; cases hb'.1
      · rw [q4] at p1
        simp only [Option.some.injEq, Prod.mk.injEq] at p1
        obtain ⟨rfl, rfl⟩ := p1
        rw [q6] at p2
        simp only [Option.some.injEq, Obj.cells.injEq] at p2
        obtain ⟨rfl, rfl, _⟩ := p2
        rw [q5] at q1
        refine ⟨b, base + 0, cap, q1, fun j hj => ?_⟩
        obtain ⟨v, v1, v2⟩ := p4 j (.raw (.int .u8 (l[j].toNat : Int))) (by simp [Con.val, bi, hj])
        rw [cell_of_block q6, Nat.add_zero, v1, RI.raw_inv v2]
theorem run_conv_bytes {src dst e : TypeId} {b o cap : Nat} {l : List UInt8} (hs : P.underlying src = some (.slice e)) (he : P.underlying e = some (.int .u8)) (hd : P.underlying dst = some .string)
    (hc : ∀ j (hj : j < l.length), w.cell? ⟨b, o + j, none⟩ = some (.int .u8 (l[j].toNat : Int))) :
    (convert src dst (.slice (some ⟨b, o, none⟩) l.length cap)).run P w = .ok (.string ⟨l.toArray⟩) w := by
  refine run_convert_bytes_back w src dst e ⟨b, o, none⟩ cap l hs he hd (fun j hj => ?_)
  rw [← hc j hj]
  simp only [Addr.add]
  split
  · rename_i e; subst e; rfl
  · rfl
theorem AWp.conv (hT : TabOK Try.prog T) (hS : SOK Try.prog S) {n id : Nat} {ops : List Oper} {o : Oper} {Q : Exit → St → Prop} {σ : St} {K1 : St → Prop} {t d : Nat} (kk : Nat)
    (hA : opsA T S ops.toArray (ops.take kk) K1 σ)
    (hK : ∀ σ1, K1 σ1 → ∃ l : List UInt8, l ≠ [] ∧ BytesAt σ1 t l ∧ opsA T S ops.toArray (ops.drop (kk + 1)) (Q .normal) (σ1.put (some d) (.raw (.string ⟨l.toArray⟩))))
    (ho : ops[kk]? = some o := by rfl) (hop : o.op = .convert 93 9 (.tmp t) := by rfl) (hg : o.guard = none := by rfl) (hd : o.dst = some d := by rfl) (hds : dstsB ops.toArray n = true := by kernel_rfl) :
    AWp Try.prog T n (.region id ops.toArray false) Q σ := by
  intro κ β a w hn hm hC
  refine wp_region_list ?_
  have hsp : ops = ops.take kk ++ o :: ops.drop (kk + 1) := by
    have h1 : kk < ops.length := (List.getElem?_eq_some_iff.1 ho).1
    rw [List.getElem?_eq_getElem h1] at ho
    cases ho
    rw [← List.drop_eq_getElem_cons h1, List.take_append_drop]
  have hdst : ∀ o' ∈ ops, ∀ t, o'.dst = some t → t < κ.nt := fun o' ho' t ht => by
    have := Array.all_eq_true_iff_forall_mem.1 hds o' (by simpa using ho')
    rw [ht] at this
    rw [hn]
    simpa using this
  have hmem : o ∈ ops := List.mem_of_getElem? ho
  have key := opsA_tail (P := Try.prog) (T := T) (S := S) (κ := κ) (ops := ops.toArray) (K := K1) (tail := o :: ops.drop (kk + 1)) (Q := fun e a' w' => ∃ σ' β', Q e σ' ∧ Conc κ β' σ'.get σ'.blk a' w') hT hS hm
    (fun σ1 β1 a1 w1 hk hC1 => ?_) (ops.take kk) σ β a w (fun o' ho' => hdst o' (List.mem_of_mem_take ho')) hA hC
  · have e2 : (ops.toArray).toList = ops.take kk ++ o :: ops.drop (kk + 1) := by rw [List.toList_toArray]; exact hsp
    rw [e2]
    exact key
  · obtain ⟨l, hl, hb, hA2⟩ := hK σ1 hk
    obtain ⟨b, off, cap, hv, hc⟩ := bytes_sound hC1 hb hl
    refine wpList_plain hg (fun K' hK' => ?_)
    unfold Oper.wp
    have hex : (execOp a1.eval o).run Try.prog w1 = .ok (.value (.string ⟨l.toArray⟩)) w1 := by
      unfold execOp
      rw [hop]
      have : a1.eval (.tmp t) = .slice (some ⟨b, off, none⟩) l.length cap := hv
      simp only [this, Sem.run_bind, run_conv_bytes Try.underlying93 Try.underlying5 Try.underlying9 hc, Result.andThen_ok, Sem.run_pure]
    rw [hex, Oper.upon_value]
    refine hK' _ _ ?_
    have hC2 : Conc κ β1 (σ1.put (some d) (.raw (.string ⟨l.toArray⟩))).get (σ1.put (some d) (.raw (.string ⟨l.toArray⟩))).blk (a1.put o.dst (.string ⟨l.toArray⟩)) w1 := by
      rw [hd, St.get_put, St.blk_put]
      exact hC1.put (fun t' ht' => by cases ht'; exact hdst o hmem d hd) (RI.raw _)
    have := opsA_tail (P := Try.prog) (T := T) (S := S) (κ := κ) (ops := ops.toArray) (K := Q .normal) (tail := []) (Q := fun e a' w' => ∃ σ' β', Q e σ' ∧ Conc κ β' σ'.get σ'.blk a' w') hT hS hm
      (fun σ2 β2 a2 w2 h2 hC3 => wpList_nil ⟨σ2, β2, h2, hC3⟩) (ops.drop (kk + 1)) _ β1 _ w1 (fun o' ho' => hdst o' (List.mem_of_mem_drop ho')) hA2 hC2
    rwa [List.append_nil] at this
end
end Go.Hl

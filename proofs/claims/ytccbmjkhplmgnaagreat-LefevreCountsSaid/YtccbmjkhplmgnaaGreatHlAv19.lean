/- Regions: in the order of the text, and in any order. -/
import Derived.Test.YtccbmjkhplmgnaaGreatHlAv18
set_option linter.unusedVariables false
set_option linter.unusedSimpArgs false
namespace Go.Hl
open Go Go.RowKit
def withGuard (ops : Array Oper) (o : Oper) (σ : St) (yes no : St → Prop) : Prop :=
  match o.guard with
  | none => yes σ
  | some (j, want) => match (ops[j]?).bind (·.dst) with
    | none => no σ
    | some t => match σ.get t with
      | .raw (.bool b) => (b = want → yes (σ.put (some t) (.raw (.bool want)))) ∧ (b = !want → no (σ.put (some t) (.raw (.bool (!want)))))
      | .raw _ => no σ
      | _ => False
def opsA (T : Tab) (S : FuncId → Option Sp) (ops : Array Oper) : List Oper → (St → Prop) → St → Prop
  | [], K, σ => K σ
  | o :: os, K, σ => withGuard ops o σ (fun σ => (st1 T S o σ).1 ∧ opsA T S ops os K (st1 T S o σ).2) (fun σ => opsA T S ops os K (σ.put o.dst (.raw undef)))
def stD (T : Tab) (S : FuncId → Option Sp) (o : Oper) (σ : St) : Prop × St :=
  match o.op with
  | .alloc t => match o.dst, T.zr t with
    | some d, some z => (True, (σ.setB d ⟨true, .c z⟩).put (some d) (.ptr d 0))
    | _, _ => (False, σ)
  | .store t p v => (o.dst = none ∧ (storeS T σ t (ev σ.get p) (ev σ.get v)).1, (storeS T σ t (ev σ.get p) (ev σ.get v)).2)
  | _ => ((qd T S σ.get σ.blk o).1, σ.put o.dst (qd T S σ.get σ.blk o).2)
def opsD (T : Tab) (S : FuncId → Option Sp) (ops : Array Oper) : List Oper → (St → Prop) → St → Prop
  | [], K, σ => K σ
  | o :: os, K, σ => withGuard ops o σ (fun σ => (stD T S o σ).1 ∧ opsD T S ops os K (stD T S o σ).2) (fun σ => opsD T S ops os K (σ.put o.dst (.raw undef)))
def cleanD : List Oper → St → St
  | [], σ => σ
  | o :: os, σ => match isAlloc o.op, o.dst with
    | true, some d => cleanD os (σ.kill d)
    | _, _ => cleanD os σ
def okN (ops : Array Oper) : Bool :=
  (List.range ops.size).all fun j => match ops[j]? with
    | none => true
    | some oj => (oj.after.all fun e => !Region.binds .any e || decide (e.on < j)) && (List.range j).all fun i => match ops[i]? with
      | none => true
      | some oi => ((oj.after.toList.any fun e => Region.binds .any e && e.on == i) || apartN ops oi oj) && (!(isAlloc oi.op || isAlloc oj.op) || oi.dst != oj.dst)
def dstsB (ops : Array Oper) (n : Nat) : Bool := ops.all fun o => match o.dst with | some d => decide (d < n) | none => true
def boolOf : Value → Option Bool
  | .bool b => some b
  | _ => none
section
variable {P : Program} {T : Tab} {S : FuncId → Option Sp} {κ : Ctx} {β : Nat → Option (Nat × Nat)} {F F' : Nat → AV} {G G' : Nat → Option Blk} {a : Act} {w : World} {X : Nat → Prop} {ops : Array Oper} {md : Region.Mode}
theorem put_self (σ : St) (t : Nat) (v : AV) (h : σ.get t = v) : (σ.put (some t) v).get = σ.get ∧ (σ.put (some t) v).blk = σ.blk := by
  refine ⟨?_, St.blk_put _ _ _⟩
  rw [St.get_put]
  funext u
  simp only [updO, upd]
  split
  · rename_i e; subst e; exact h.symm
  · rfl
theorem yielded_of {tmps : Array Value} {j t : Nat} (ht : (ops[j]?).bind (·.dst) = some t) {v : Value} (hv : tmps.getD t undef = v) :
    yielded ops tmps j = boolOf v := by
  unfold yielded
  rw [ht]
  simp only [Option.bind_some]
  by_cases hlt : t < tmps.size
  · have e : tmps[t]? = some v := by
      rw [Array.getElem?_eq_getElem hlt]
      rw [← hv]; simp [Array.getD, hlt]
    rw [e]
    cases v <;> rfl
  · have e : tmps[t]? = none := by simp; omega
    have : v = undef := by rw [← hv]; simp [Array.getD, hlt]
    rw [e, this]
    rfl
theorem guard_sound {σ : St} (h : Conc κ β σ.get σ.blk a w) {o : Oper} {yes no : St → Prop} (hg : withGuard ops o σ yes no) :
    (Region.wanted o (yielded ops a.tmps) = true ∧ ∃ σ', σ'.get = σ.get ∧ σ'.blk = σ.blk ∧ yes σ') ∨
    (Region.wanted o (yielded ops a.tmps) = false ∧ ∃ σ', σ'.get = σ.get ∧ σ'.blk = σ.blk ∧ no σ') := by
  unfold withGuard at hg
  unfold Region.wanted
  cases hgd : o.guard with
  | none => simp only [hgd] at hg ⊢; exact .inl ⟨trivial, σ, rfl, rfl, hg⟩
  | some p =>
    obtain ⟨j, want⟩ := p
    simp only [hgd] at hg ⊢
    cases ht : (ops[j]?).bind (·.dst) with
    | none =>
      simp only [ht] at hg
      have : yielded ops a.tmps j = none := by unfold yielded; rw [ht]; rfl
      rw [this]
      exact .inr ⟨rfl, σ, rfl, rfl, hg⟩
    | some t =>
      simp only [ht] at hg
      have hr := h.rel t
      split at hg
      · rename_i b hb
        rw [hb] at hr
        have hv := RI.raw_inv hr
        rw [yielded_of ht hv]
        simp only [boolOf]
        by_cases hbw : b = want
        · refine .inl ⟨by simp [hbw], _, ?_, ?_, hg.1 hbw⟩
          · exact (put_self σ t _ (by rw [hb, hbw])).1
          · exact (put_self σ t _ (by rw [hb, hbw])).2
        · have hbn : b = !want := by cases b <;> cases want <;> simp_all
          refine .inr ⟨by simp [hbn], _, ?_, ?_, hg.2 hbn⟩
          · exact (put_self σ t _ (by rw [hb, hbn])).1
          · exact (put_self σ t _ (by rw [hb, hbn])).2
      · rename_i v hnb hb
        rw [hb] at hr
        have hv := RI.raw_inv hr
        rw [yielded_of ht hv]
        refine .inr ⟨?_, σ, rfl, rfl, hg⟩
        cases v <;> first | rfl | exact (hnb _ rfl).elim
      · exact False.elim hg
theorem wp_of_er {o : Oper} {σ : St} {K : Act → World → Prop} {Q : Exit → Act → World → Prop} (h : ER P κ σ a o.dst ((execOp a.eval o).run P w))
    (hK : ∀ β' a' w', Conc κ β' σ.get σ.blk a' w' → K a' w') : o.wp P a w K Q := by
  unfold Oper.wp
  generalize (execOp a.eval o).run P w = r at *
  cases r with
  | halt _ _ => exact False.elim h
  | ok n w' =>
    cases n <;> try (exact False.elim h)
    case value x => obtain ⟨β', hc⟩ := h; exact hK _ _ _ hc
    case skip => obtain ⟨β', hc⟩ := h; exact hK _ _ _ hc
    case enter f vs =>
      refine Calls.mono h (fun e w'' ⟨v, he, β', hc⟩ => ?_)
      subst he
      exact hK _ _ _ hc
theorem opsA_tail (hT : TabOK P T) (hS : SOK P S) (hmu : T.mu = false → κ.mu = none) {Q : Exit → Act → World → Prop} {K : St → Prop}
    {tail : List Oper} (hQ : ∀ σ β' a' w', K σ → Conc κ β' σ.get σ.blk a' w' → wpList P ops Q tail a' w') :
    ∀ (l : List Oper) (σ : St) (β : Nat → Option (Nat × Nat)) (a : Act) (w : World), (∀ o ∈ l, ∀ t, o.dst = some t → t < κ.nt) → opsA T S ops l K σ → Conc κ β σ.get σ.blk a w → wpList P ops Q (l ++ tail) a w
  | [], σ, β, a, w, _, h, hC => hQ σ β a w h hC
  | o :: l, σ, β, a, w, hd, h, hC => by
    rw [List.cons_append]
    unfold wpList
    simp only [opsA] at h
    rcases guard_sound hC h with ⟨hw, σ', e1, e2, h1, h2⟩ | ⟨hw, σ', e1, e2, h2⟩
    · rw [hw, if_pos rfl]
      rw [← e1, ← e2] at hC
      exact .inl (wp_of_er (st1_sound hT hS hmu hC o (hd o (.head _)) h1) (fun β' a' w' hc => opsA_tail hT hS hmu hQ l _ β' a' w' (fun o' ho' => hd o' (.tail _ ho')) h2 hc))
    · rw [hw, if_neg (by simp)]
      refine opsA_tail hT hS hmu hQ l _ β (a.put o.dst undef) w (fun o' ho' => hd o' (.tail _ ho')) h2 ?_
      rw [St.get_put, St.blk_put, e1, e2]
      exact hC.put (hd o (.head _)) (RI.raw _)
theorem opsA_sound (hT : TabOK P T) (hS : SOK P S) (hmu : T.mu = false → κ.mu = none) {Q : Exit → Act → World → Prop} {K : St → Prop}
    (hQ : ∀ σ β' a' w', K σ → Conc κ β' σ.get σ.blk a' w' → Q .normal a' w') (l : List Oper) (σ : St) (β : Nat → Option (Nat × Nat)) (a : Act) (w : World) (hd : ∀ o ∈ l, ∀ t, o.dst = some t → t < κ.nt)
    (h : opsA T S ops l K σ) (hC : Conc κ β σ.get σ.blk a w) : wpList P ops Q l a w := by
  have := opsA_tail (tail := []) hT hS hmu (Q := Q) (K := K) (fun σ β' a' w' h1 h2 => by unfold wpList; exact hQ σ β' a' w' h1 h2) l σ β a w hd h hC
  rwa [List.append_nil] at this
def anyN (T : Tab) (S : FuncId → Option Sp) (ops : Array Oper) (md : Region.Mode) (Qf : NS → Prop) : Nat → Array Bool → NS → Prop
  | 0, l, s => Region.ready md ops l = [] ∧ Qf s
  | n + 1, l, s => (Region.ready md ops l = [] → Qf s) ∧
    ∀ i ∈ Region.ready md ops l, ∀ o, ops[i]? = some o → (efF T S ops o s).1 ∧ anyN T S ops md Qf n (l.setIfInBounds i true) (apE o.dst (efF T S ops o s).2 s)
def Inv (ops : Array Oper) (l : Array Bool) (s : NS) : Prop := ∀ i o, ops[i]? = some o → l.getD i true = false → NoRef o s
theorem okN_spec (h : okN ops = true) {i j : Nat} {oi oj : Oper} (hi : ops[i]? = some oi) (hj : ops[j]? = some oj) (hij : i < j) :
    ((∃ e ∈ oj.after, Region.binds .any e = true ∧ e.on = i) ∨ apartN ops oi oj = true) ∧ (isAlloc oi.op = true ∨ isAlloc oj.op = true → oi.dst ≠ oj.dst) := by
  have hlt : j < ops.size := (Array.getElem?_eq_some_iff.1 hj).1
  have h1 := List.all_eq_true.1 h j (List.mem_range.2 hlt)
  simp only [hj, Bool.and_eq_true] at h1
  have h2 := List.all_eq_true.1 h1.2 i (List.mem_range.2 hij)
  simp only [hi, Bool.and_eq_true, Bool.or_eq_true, List.any_eq_true, bne_iff_ne, Bool.not_eq_true', Bool.or_eq_false_iff, beq_iff_eq] at h2
  refine ⟨?_, fun ha => ?_⟩
  · rcases h2.1 with ⟨e, he, hb, ho⟩ | h3
    · exact .inl ⟨e, by simpa using he, hb, ho⟩
    · exact .inr h3
  · rcases h2.2 with h3 | h3
    · rcases ha with ha | ha
      · rw [h3.1] at ha; cases ha
      · rw [h3.2] at ha; cases ha
    · exact h3
theorem okN_edges (h : okN ops = true) {j : Nat} {oj : Oper} (hj : ops[j]? = some oj) : ∀ e ∈ oj.after, Region.binds .any e = true → e.on < j := by
  have hlt : j < ops.size := (Array.getElem?_eq_some_iff.1 hj).1
  have h1 := List.all_eq_true.1 h j (List.mem_range.2 hlt)
  simp only [hj, Bool.and_eq_true] at h1
  intro e he hb
  have h2 := Array.all_eq_true_iff_forall_mem.1 h1.1 e he
  simpa [hb] using h2
theorem okN_dst (h : okN ops = true) {i j : Nat} {oi oj : Oper} (hi : ops[i]? = some oi) (hj : ops[j]? = some oj) (hij : i ≠ j) (ha : isAlloc oi.op = true ∨ isAlloc oj.op = true) : oi.dst ≠ oj.dst := by
  rcases Nat.lt_or_ge i j with h' | h'
  · exact (okN_spec h hi hj h').2 ha
  · have h'' : j < i := by omega
    exact Ne.symm ((okN_spec h hj hi h'').2 ha.symm)
theorem Inv.step (hok : okN ops = true) {l : Array Bool} {s : NS} (h : Inv ops l s) {i : Nat} {oi : Oper} (hi : ops[i]? = some oi) (hp : (efF T S ops oi s).1) :
    Inv ops (l.setIfInBounds i true) (apE oi.dst (efF T S ops oi s).2 s) := by
  intro k ok hk hun hA d hd u
  by_cases hki : i = k
  · subst hki
    have : (l.setIfInBounds i true).getD i true = true := by
      by_cases hlt : i < l.size
      · simp [Array.getD, hlt]
      · simp [Array.getD, hlt]
    rw [this] at hun; cases hun
  · rw [getD_set_ne true hki] at hun
    refine noRef_ap hp (h k ok hk hun) (fun d hd he => ?_) hA d hd u
    exact okN_dst hok hi hk hki (.inr hA) (by rw [hd, he])
theorem anyN_first (hok : okN ops = true) {Qf : NS → Prop} {i : Nat} {oi : Oper} (hi : ops[i]? = some oi) :
    ∀ (fuel : Nat) (l : Array Bool) (s : NS),
      (∀ j oj, ops[j]? = some oj → j ≠ i → l.getD j true = false → i < j) →
      Inv ops l s → i ∈ Region.ready .any ops l → (efF T S ops oi s).1 →
      anyN T S ops .any Qf fuel (l.setIfInBounds i true) (apE oi.dst (efF T S ops oi s).2 s) → anyN T S ops .any Qf (fuel + 1) l s := by
  intro fuel
  induction fuel with
  | zero =>
    intro l s _ _ hr hc H
    refine ⟨fun h => (by rw [h] at hr; cases hr), fun j hj oj hoj => ?_⟩
    by_cases hji : j = i
    · subst hji
      rw [hi] at hoj; simp only [Option.some.injEq] at hoj; subst hoj
      exact ⟨hc, H⟩
    · have := ready_mono hj hji
      rw [H.1] at this
      cases this
  | succ fuel ih =>
    intro l s hfirst hinv hr hc H
    refine ⟨fun h => (by rw [h] at hr; cases hr), fun j hj oj hoj => ?_⟩
    by_cases hji : j = i
    · subst hji
      rw [hi] at hoj; simp only [Option.some.injEq] at hoj; subst hoj
      exact ⟨hc, H⟩
    · obtain ⟨h1c, h1⟩ := H.2 j (ready_mono hj hji) oj hoj
      obtain ⟨hjun, oj', hoj', hall⟩ := mem_ready.1 hj
      rw [hoj] at hoj'; simp only [Option.some.injEq] at hoj'; subst hoj'
      have hij : i < j := hfirst j oj hoj hji hjun
      have hap : apartN ops oi oj = true := by
        rcases (okN_spec hok hi hoj hij).1 with ⟨e, he, hb, ho⟩ | h
        · have h1 := hall e he hb
          have h0 := (mem_ready.1 hr).1
          rw [ho] at h1
          rcases Nat.lt_or_ge i l.size with h' | h'
          · simp [h'] at h0 h1; rw [h0] at h1; cases h1
          · simp [Array.getElem?_eq_none h'] at h1
        · exact h
      obtain ⟨a1, a2, a3, a4, a5⟩ := apartN_symm_parts hap
      have hni : NoRef oi s := hinv i oi hi (mem_ready.1 hr).1
      have hnj : NoRef oj s := hinv j oj hoj hjun
      have ej : efF T S ops oj (apE oi.dst (efF T S ops oi s).2 s) = efF T S ops oj s := efF_stable a1 rfl a4 hni
      have ei : efF T S ops oi (apE oj.dst (efF T S ops oj s).2 s) = efF T S ops oi s :=
        efF_stable a3 rfl (fun h => ⟨Bool.eq_false_iff.2 (fun hs => by rw [(a4 hs).1] at h; cases h), a5 h⟩) hnj
      rw [ej] at h1c h1
      refine ⟨h1c, ih (l.setIfInBounds j true) _ (fun k ok hk hki hun => ?_) (hinv.step hok hoj h1c) (ready_mono hr (Ne.symm hji)) (by rw [ei]; exact hc) ?_⟩
      · refine hfirst k ok hk hki ?_
        by_cases hjk : j = k
        · subst hjk; exact hjun
        · rw [getD_set_ne true hjk] at hun; exact hun
      · rw [ei, Array.setIfInBounds_comm _ _ hji, apE_comm hap hni hnj]
        exact h1
theorem gw_of {σ : St} {o : Oper} {yes no : St → Prop} (hg : withGuard ops o σ yes no) :
    (gw ops σ.get o = some true ∧ ∃ σ', σ'.get = σ.get ∧ σ'.blk = σ.blk ∧ yes σ') ∨ (gw ops σ.get o = some false ∧ ∃ σ', σ'.get = σ.get ∧ σ'.blk = σ.blk ∧ no σ') := by
  unfold withGuard at hg
  unfold gw
  cases hgd : o.guard with
  | none => simp only [hgd] at hg ⊢; exact .inl ⟨trivial, σ, rfl, rfl, hg⟩
  | some p =>
    obtain ⟨j, want⟩ := p
    simp only [hgd] at hg ⊢
    cases ht : (ops[j]?).bind (·.dst) with
    | none => simp only [ht] at hg ⊢; exact .inr ⟨trivial, σ, rfl, rfl, hg⟩
    | some t =>
      simp only [ht] at hg ⊢
      split at hg
      · rename_i b hb
        simp only [hb]
        by_cases hbw : b = want
        · refine .inl ⟨by simp [hbw], _, ?_, ?_, hg.1 hbw⟩
          · exact (put_self σ t _ (by rw [hb, hbw])).1
          · exact (put_self σ t _ (by rw [hb, hbw])).2
        · have hbn : b = !want := by cases b <;> cases want <;> simp_all
          refine .inr ⟨by simp [hbn], _, ?_, ?_, hg.2 hbn⟩
          · exact (put_self σ t _ (by rw [hb, hbn])).1
          · exact (put_self σ t _ (by rw [hb, hbn])).2
      · rename_i v hnb hb
        simp only [hb]
        refine .inr ⟨?_, σ, rfl, rfl, hg⟩
        trivial
      · exact False.elim hg
theorem stD_ef {σ : St} {o : Oper} (hg : gw ops σ.get o = some true) (h : (stD T S o σ).1) :
    (efF T S ops o (σ.get, σ.blk)).1 ∧ ((stD T S o σ).2.get, (stD T S o σ).2.blk) = apE o.dst (efF T S ops o (σ.get, σ.blk)).2 (σ.get, σ.blk) := by
  unfold stD efF at *
  simp only [hg]
  cases hop : o.op <;> simp only [hop] at h ⊢ <;> try (exact ⟨h, by simp only [apE, St.get_put, St.blk_put]⟩)
  case alloc t =>
    cases hd : o.dst with
    | none => simp [hd] at h
    | some d =>
      cases hz : T.zr t with
      | none => simp [hd, hz] at h
      | some z =>
        simp only [apE]
        refine ⟨rfl, ?_⟩
        rw [St.get_put, St.blk_put, St.get_setB, St.blk_setB]
        rfl
  case store t p v =>
    obtain ⟨h1, h2⟩ := h
    unfold storeS at h2 ⊢
    split at h2
    · rename_i id off vs e1 e2
      split at h2
      · rename_i con e3
        split at h2
        · rename_i con' e4
          have e3' : σ.blk id = some ⟨true, con⟩ := e3
          simp only [e1, e2, e3', e4]
          refine ⟨⟨h1, h2⟩, ?_⟩
          simp only [apE, St.get_setB, St.blk_setB]
        · exact False.elim h2
      · exact False.elim h2
    · exact False.elim h2
theorem anyN_lex (hok : okN ops = true) {K : St → Prop} : ∀ (l : List Oper) (k : Nat) (li : Array Bool) (σ : St), (∀ j, l[j]? = ops[k + j]?) → li.size = ops.size →
    (∀ j, j < k → li.getD j false = true) → (∀ j, k ≤ j → j < ops.size → li.getD j true = false) → Inv ops li (σ.get, σ.blk) →
    opsD T S ops l K σ → anyN T S ops .any (fun s => ∃ σ', K σ' ∧ s = (σ'.get, σ'.blk)) l.length li (σ.get, σ.blk)
  | [], k, li, σ, hl, hsz, h1, h2, _, h => by
    refine ⟨?_, σ, h, rfl⟩
    refine List.eq_nil_iff_forall_not_mem.2 (fun j hj => ?_)
    obtain ⟨hun, o, ho, _⟩ := mem_ready.1 hj
    have hlt : j < ops.size := (Array.getElem?_eq_some_iff.1 ho).1
    have hk : ops.size ≤ k := by
      have := hl 0
      simp at this
      exact this
    have := h1 j (by omega)
    rw [Array.getD, dif_pos (by omega)] at this hun
    rw [this] at hun; cases hun
  | o :: l, k, li, σ, hl, hsz, h1, h2, hinv, h => by
    have h0 : ops[k]? = some o := by simpa using (hl 0).symm
    have hlt : k < ops.size := (Array.getElem?_eq_some_iff.1 h0).1
    have hkun : li.getD k true = false := h2 k (Nat.le_refl _) hlt
    have hready : k ∈ Region.ready .any ops li := mem_ready.2 ⟨hkun, o, h0, fun e he hb => h1 _ (okN_edges hok h0 e he hb)⟩
    simp only [opsD] at h
    have hfirst : ∀ j oj, ops[j]? = some oj → j ≠ k → li.getD j true = false → k < j := by
      intro j oj hoj hne hun
      rcases Nat.lt_or_ge j k with h' | h'
      · have hlt' : j < ops.size := (Array.getElem?_eq_some_iff.1 hoj).1
        have := h1 j h'
        rw [Array.getD, dif_pos (by omega)] at this hun
        rw [this] at hun; cases hun
      · omega
    have hl' : ∀ j, l[j]? = ops[k + 1 + j]? := fun j => by have := hl (j + 1); simpa [Nat.add_assoc, Nat.add_comm 1 j] using this
    have hs1 : ∀ j, j < k + 1 → (li.setIfInBounds k true).getD j false = true := by
      intro j hj
      by_cases e : k = j
      · subst e; simp [Array.getD, hsz, hlt]
      · rw [getD_set_ne false e]; exact h1 j (by omega)
    have hs2 : ∀ j, k + 1 ≤ j → j < ops.size → (li.setIfInBounds k true).getD j true = false := by
      intro j hj hj2
      rw [getD_set_ne true (by omega)]
      exact h2 j (by omega) hj2
    rcases gw_of h with ⟨hw, σ', e1, e2, h3, h4⟩ | ⟨hw, σ', e1, e2, h4⟩
    · have hw' : gw ops σ'.get o = some true := by rw [e1]; exact hw
      obtain ⟨c1, c2⟩ := stD_ef hw' h3
      rw [e1, e2] at c1 c2
      refine anyN_first hok h0 l.length li _ hfirst hinv hready c1 ?_
      rw [← c2]
      refine anyN_lex hok l (k + 1) _ _ hl' (by simpa using hsz) hs1 hs2 ?_ h4
      rw [c2]
      exact hinv.step hok h0 c1
    · have c1 : (efF T S ops o (σ.get, σ.blk)).1 ∧ (efF T S ops o (σ.get, σ.blk)).2 = .put (.raw undef) := by
        unfold efF; simp only [hw]; exact ⟨trivial, trivial⟩
      refine anyN_first hok h0 l.length li _ hfirst hinv hready c1.1 ?_
      have c2 : apE o.dst (efF T S ops o (σ.get, σ.blk)).2 (σ.get, σ.blk) = ((σ'.put o.dst (.raw undef)).get, (σ'.put o.dst (.raw undef)).blk) := by
        rw [c1.2]
        simp only [apE, St.get_put, St.blk_put, e1, e2]
      rw [c2]
      refine anyN_lex hok l (k + 1) _ _ hl' (by simpa using hsz) hs1 hs2 ?_ h4
      rw [← c2]
      exact hinv.step hok h0 c1.1
end
end Go.Hl

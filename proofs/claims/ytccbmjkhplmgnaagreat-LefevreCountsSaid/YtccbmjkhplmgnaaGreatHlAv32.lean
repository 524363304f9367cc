/- Regions that draw their order and lay blocks of their own into which they store: a look at one block and a write to another may come in either order. -/
import Derived.Test.YtccbmjkhplmgnaaGreatHlAv30
set_option linter.unusedVariables false
set_option linter.unusedSimpArgs false
namespace Go.Hl
open Go Go.RowKit
def bid (cs al : List (Nat × Nat)) (o : Oper) : Option Nat :=
  match pslot o.op with
  | none => none
  | some p => match lk cs p with
    | some i => some i
    | none => match lk al p with
      | some i => if (o.after.toList.any fun e => Region.binds .any e && e.on == i) then some p else none
      | none => none
def difA (cs al : List (Nat × Nat)) (x y : Oper) : Bool :=
  match bid cs al x, bid cs al y with
  | some i, some j => i != j
  | _, _ => false
def apartA (cs al : List (Nat × Nat)) (ops : Array Oper) (x y : Oper) : Bool :=
  apartN ops x y || (x.apart ops y && ((isRd x.op && isStore y.op) || (isStore x.op && isRd y.op)) && difA cs al x y)
def okA (cs al : List (Nat × Nat)) (ops : Array Oper) : Bool :=
  ((ops.toList.all fun o => match o.dst with | some d => (lk cs d).isNone | none => true) && (al.all fun p => match ops[p.2]? with | some o => isAlloc o.op && o.dst == some p.1 && o.guard.isNone | none => false)) &&
  (List.range ops.size).all fun j => match ops[j]? with
    | none => true
    | some oj => (oj.after.all fun e => !Region.binds .any e || decide (e.on < j)) && (List.range j).all fun i => match ops[i]? with
      | none => true
      | some oi => ((oj.after.toList.any fun e => Region.binds .any e && e.on == i) || apartA cs al ops oi oj) && (!(isAlloc oi.op || isAlloc oj.op) || oi.dst != oj.dst)
section
variable {P : Program} {T : Tab} {S : FuncId → Option Sp} {κ : Ctx} {β : Nat → Option (Nat × Nat)} {a : Act} {w : World} {ops : Array Oper} {cs al : List (Nat × Nat)}
structure LeadL (cs al : List (Nat × Nat)) (l : Array Bool) (s : NS) : Prop where
  c : ∀ p i, lk cs p = some i → ∃ off, s.1 p = .ptr i off
  a : ∀ p i, lk al p = some i → l.getD i false = true → s.1 p = .ptr p 0
theorem okA_spec (h : okA cs al ops = true) {i j : Nat} {oi oj : Oper} (hi : ops[i]? = some oi) (hj : ops[j]? = some oj) (hij : i < j) :
    ((∃ e ∈ oj.after, Region.binds .any e = true ∧ e.on = i) ∨ apartA cs al ops oi oj = true) ∧ (isAlloc oi.op = true ∨ isAlloc oj.op = true → oi.dst ≠ oj.dst) := by
  simp only [okA, Bool.and_eq_true] at h
  have hlt : j < ops.size := (Array.getElem?_eq_some_iff.1 hj).1
  have h1 := List.all_eq_true.1 h.2 j (List.mem_range.2 hlt)
  simp only [hj, Bool.and_eq_true] at h1
  have h2 := List.all_eq_true.1 h1.2 i (List.mem_range.2 hij)
  simp only [hi, Bool.and_eq_true, Bool.or_eq_true, List.any_eq_true, bne_iff_ne, Bool.not_eq_true', Bool.or_eq_false_iff, beq_iff_eq] at h2
  refine ⟨?_, fun ha => ?_⟩
  · rcases h2.1 with ⟨e, he, hb, ho⟩ | h3
    · exact .inl ⟨e, by simpa using he, hb, ho⟩
    · exact .inr h3
  · rcases h2.2 with h3 | h3
    · rcases ha with ha | ha
      · rw [h3.1] at ha; cases ha
      · rw [h3.2] at ha; cases ha
    · exact h3
theorem okA_edges (h : okA cs al ops = true) {j : Nat} {oj : Oper} (hj : ops[j]? = some oj) : ∀ e ∈ oj.after, Region.binds .any e = true → e.on < j := by
  simp only [okA, Bool.and_eq_true] at h
  have hlt : j < ops.size := (Array.getElem?_eq_some_iff.1 hj).1
  have h1 := List.all_eq_true.1 h.2 j (List.mem_range.2 hlt)
  simp only [hj, Bool.and_eq_true] at h1
  intro e he hb
  have h2 := Array.all_eq_true_iff_forall_mem.1 h1.1 e he
  simpa [hb] using h2
theorem okA_dst (h : okA cs al ops = true) {i j : Nat} {oi oj : Oper} (hi : ops[i]? = some oi) (hj : ops[j]? = some oj) (hij : i ≠ j) (ha : isAlloc oi.op = true ∨ isAlloc oj.op = true) : oi.dst ≠ oj.dst := by
  rcases Nat.lt_or_ge i j with h' | h'
  · exact (okA_spec h hi hj h').2 ha
  · have h'' : j < i := by omega
    exact Ne.symm ((okA_spec h hj hi h'').2 ha.symm)
theorem okA_keep (h : okA cs al ops = true) {i : Nat} {oi : Oper} (hi : ops[i]? = some oi) {d : Nat} (hd : oi.dst = some d) : lk cs d = none := by
  simp only [okA, Bool.and_eq_true] at h
  have := List.all_eq_true.1 h.1.1 oi (by simpa using Array.mem_of_getElem? hi)
  rw [hd] at this
  simpa using this
theorem mem_lkA {α : Type} : ∀ {l : List (Nat × α)} {p : Nat} {v : α}, lk l p = some v → (p, v) ∈ l
  | [], _, _, h => by cases h
  | (k, u) :: l, p, v, h => by
    simp only [lk] at h
    split at h
    · rename_i e; subst e; cases h; exact .head _
    · exact .tail _ (mem_lkA h)
theorem okA_al (h : okA cs al ops = true) {p i : Nat} (hp : lk al p = some i) : ∃ o, ops[i]? = some o ∧ isAlloc o.op = true ∧ o.dst = some p ∧ o.guard = none := by
  simp only [okA, Bool.and_eq_true] at h
  have := List.all_eq_true.1 h.1.2 _ (mem_lkA hp)
  simp only at this
  split at this
  · rename_i o ho
    simp only [Bool.and_eq_true, beq_iff_eq, Option.isNone_iff_eq_none] at this
    exact ⟨o, ho, this.1.1, this.1.2, this.2⟩
  · cases this
theorem InvA.step (hok : okA cs al ops = true) {l : Array Bool} {s : NS} (h : Inv ops l s) {i : Nat} {oi : Oper} (hi : ops[i]? = some oi) (hp : (efF T S ops oi s).1) :
    Inv ops (l.setIfInBounds i true) (apE oi.dst (efF T S ops oi s).2 s) := by
  intro k ok hk hun hA d hd u
  by_cases hki : i = k
  · subst hki
    have : (l.setIfInBounds i true).getD i true = true := by
      by_cases hlt : i < l.size
      · simp [Array.getD, hlt]
      · simp [Array.getD, hlt]
    rw [this] at hun; cases hun
  · rw [getD_set_ne true hki] at hun
    refine noRef_ap hp (h k ok hk hun) (fun d hd he => ?_) hA d hd u
    exact okA_dst hok hi hk hki (.inr hA) (by rw [hd, he])
theorem apE_otherA {oi : Oper} {s : NS} {p : Nat} (hne : ∀ d, oi.dst = some d → d ≠ p) (ef : Ef) : (apE oi.dst ef s).1 p = s.1 p := by
  cases ef with
  | put v => exact updO_other hne
  | all z =>
    simp only [apE]
    cases hd : oi.dst with
    | none => rfl
    | some d => exact upd_other _ _ (hne d hd)
  | sto id c => rfl
theorem LeadL.step (hok : okA cs al ops = true) {l : Array Bool} {s : NS} (h : LeadL cs al l s) {i : Nat} {oi : Oper} (hi : ops[i]? = some oi) (hc : (efF T S ops oi s).1) : LeadL cs al (l.setIfInBounds i true) (apE oi.dst (efF T S ops oi s).2 s) := by
  refine ⟨fun p j hp => ?_, fun p j hp hl => ?_⟩
  · obtain ⟨off, h1⟩ := h.c p j hp
    refine ⟨off, ?_⟩
    rw [← h1]
    exact apE_otherA (fun d hd e => by
      have := okA_keep hok hi hd
      rw [e, hp] at this; cases this) _
  · obtain ⟨o, ho, hA, hd, hg⟩ := okA_al hok hp
    by_cases hij : i = j
    · subst hij
      rw [hi] at ho
      cases ho
      have hgw : gw ops s.1 oi = some true := by unfold gw; rw [hg]
      have he : ∃ z, (efF T S ops oi s).2 = .all z := by
        unfold efF at hc ⊢
        simp only [hgw] at hc ⊢
        cases hop : oi.op <;> rw [hop] at hA <;> simp only [isAlloc, Bool.false_eq_true] at hA
        rename_i t
        simp only [hop] at hc ⊢
        cases hz : T.zr t with
        | none => simp [hz] at hc
        | some z => exact ⟨z, by simp⟩
      obtain ⟨z, he⟩ := he
      rw [he, hd]
      simp only [apE]
      exact upd_same _ _ _
    · rw [getD_set_ne false hij] at hl
      rw [← h.a p j hp hl]
      exact apE_otherA (fun d hd' e => okA_dst hok hi ho hij (.inr hA) (by rw [hd', hd, e])) _
theorem bid_spec {l : Array Bool} {s : NS} (h : LeadL cs al l s) {o : Oper} {b : Nat} (hw : ∀ e ∈ o.after, Region.binds .any e = true → l.getD e.on false = true) (hb : bid cs al o = some b) : ∃ p off, pslot o.op = some p ∧ s.1 p = .ptr b off := by
  unfold bid at hb
  split at hb
  · cases hb
  · rename_i p hp
    split at hb
    · rename_i i hi
      cases hb
      obtain ⟨off, h1⟩ := h.c p _ hi
      exact ⟨p, off, hp, h1⟩
    · split at hb
      · rename_i i hi
        split at hb
        · rename_i hany
          cases hb
          obtain ⟨e, he, hbo⟩ := List.any_eq_true.1 hany
          simp only [Bool.and_eq_true, beq_iff_eq] at hbo
          have := hw e (by simpa using he) hbo.1
          rw [hbo.2] at this
          exact ⟨_, 0, hp, h.a _ i hi this⟩
        · cases hb
      · cases hb
theorem cmA_rd_store {s : NS} {x y : Oper} {p q i j o1 o2 : Nat} (hap : x.apart ops y = true) (hx : isRd x.op = true) (hy : isStore y.op = true) (hp : pslot x.op = some p) (hq : pslot y.op = some q) (e1 : s.1 p = .ptr i o1) (e2 : s.1 q = .ptr j o2) (hd : i ≠ j) (hxn : NoRef x s) : Cm T S ops s x y := by
  obtain ⟨a1, a2, a3⟩ := Oper.apart_spec hap
  have hxs : isStore x.op = false := by
    cases hop : x.op <;> rw [hop] at hx <;> first | rfl | (simp only [isRd, Bool.false_eq_true] at hx)
  have hxa : isAlloc x.op = false := by
    cases hop : x.op <;> rw [hop] at hx <;> first | rfl | (simp only [isRd, Bool.false_eq_true] at hx)
  have hya : isAlloc y.op = false := by
    cases hop : y.op <;> rw [hop] at hy <;> first | rfl | (simp only [isStore, Bool.false_eq_true] at hy)
  have yx : efF T S ops y (apE x.dst (efF T S ops x s).2 s) = efF T S ops y s := efF_stable a1 rfl (fun h => by rw [hxs] at h; cases h) hxn
  generalize hey : (efF T S ops y s).2 = ey at *
  cases ey with
  | put v =>
    refine ⟨?_, yx, ?_⟩
    · rw [hey]
      refine efF_congr (gw_updO a3) (fun _ _ => qd_upd a3) (fun h => by rw [hxs] at h; cases h)
    · rw [hey]
      generalize hex : (efF T S ops x s).2 = ex
      cases ex with
      | put u => simp only [apE]; rw [updO_comm (fun d hd => fun h => a2 d h hd |>.elim)]
      | all z => have := efF_all hex; rw [hxa] at this; cases this
      | sto id c => have := (efF_sto hex).1; rw [hxs] at this; cases this
  | all z => have := efF_all hey; rw [hya] at this; cases this
  | sto id c =>
    have hid : id = j := by
      unfold efF at hey
      split at hey
      · cases hey
      · cases hey
      · cases hop : y.op <;> rw [hop] at hy hq hey <;> simp only [isStore, Bool.false_eq_true] at hy
        rename_i t o v
        cases o <;> simp only [pslot, Option.some.injEq, reduceCtorEq] at hq
        subst hq
        simp only [ev, e2] at hey
        split at hey
        · rename_i id' off' vs h1 h2
          cases h1
          split at hey
          · split at hey
            · simp only [Ef.sto.injEq] at hey; exact hey.1.symm
            · cases hey
          · cases hey
        · cases hey
    subst hid
    refine ⟨?_, yx, ?_⟩
    · rw [hey]
      refine efF_congr rfl (fun _ _ => rd_store hx hp e1 hd) (fun h => by rw [hxs] at h; cases h)
    · rw [hey]
      generalize hex : (efF T S ops x s).2 = ex
      cases ex with
      | put u => rfl
      | all z => have := efF_all hex; rw [hxa] at this; cases this
      | sto id c => have := (efF_sto hex).1; rw [hxs] at this; cases this
theorem cmA_of {l : Array Bool} {s : NS} {x y : Oper} (hap : apartA cs al ops x y = true) (hl : LeadL cs al l s) (hx : NoRef x s) (hy : NoRef y s) (wx : ∀ e ∈ x.after, Region.binds .any e = true → l.getD e.on false = true) (wy : ∀ e ∈ y.after, Region.binds .any e = true → l.getD e.on false = true) : Cm T S ops s x y := by
  simp only [apartA, Bool.or_eq_true, Bool.and_eq_true] at hap
  rcases hap with h | ⟨⟨h1, h2⟩, h3⟩
  · exact cm_of_apart h hx hy
  · unfold difA at h3
    split at h3
    · rename_i i j hi hj
      simp only [bne_iff_ne, ne_eq] at h3
      obtain ⟨p, o1, hp, e1⟩ := bid_spec hl wx hi
      obtain ⟨q, o2, hq, e2⟩ := bid_spec hl wy hj
      rcases h2 with h2 | h2
      · exact cmA_rd_store h1 h2.1 h2.2 hp hq e1 e2 h3 hx
      · exact (cmA_rd_store (apart_symm h1) h2.2 h2.1 hq hp e2 e1 (fun e => h3 e.symm) hy).symm
    · cases h3
theorem anyA_first (hok : okA cs al ops = true) {Qf : NS → Prop} {i : Nat} {oi : Oper} (hi : ops[i]? = some oi) :
    ∀ (fuel : Nat) (l : Array Bool) (s : NS),
      (∀ j oj, ops[j]? = some oj → j ≠ i → l.getD j true = false → i < j) →
      Inv ops l s → LeadL cs al l s → i ∈ Region.ready .any ops l → (efF T S ops oi s).1 →
      anyN T S ops .any Qf fuel (l.setIfInBounds i true) (apE oi.dst (efF T S ops oi s).2 s) → anyN T S ops .any Qf (fuel + 1) l s := by
  intro fuel
  induction fuel with
  | zero =>
    intro l s _ _ _ hr hc H
    refine ⟨fun h => (by rw [h] at hr; cases hr), fun j hj oj hoj => ?_⟩
    by_cases hji : j = i
    · subst hji
      rw [hi] at hoj; simp only [Option.some.injEq] at hoj; subst hoj
      exact ⟨hc, H⟩
    · have := ready_mono hj hji
      rw [H.1] at this
      cases this
  | succ fuel ih =>
    intro l s hfirst hinv hlead hr hc H
    refine ⟨fun h => (by rw [h] at hr; cases hr), fun j hj oj hoj => ?_⟩
    by_cases hji : j = i
    · subst hji
      rw [hi] at hoj; simp only [Option.some.injEq] at hoj; subst hoj
      exact ⟨hc, H⟩
    · obtain ⟨h1c, h1⟩ := H.2 j (ready_mono hj hji) oj hoj
      obtain ⟨hjun, oj', hoj', hall⟩ := mem_ready.1 hj
      rw [hoj] at hoj'; simp only [Option.some.injEq] at hoj'; subst hoj'
      have hij : i < j := hfirst j oj hoj hji hjun
      have hap : apartA cs al ops oi oj = true := by
        rcases (okA_spec hok hi hoj hij).1 with ⟨e, he, hb, ho⟩ | h
        · have h1 := hall e he hb
          have h0 := (mem_ready.1 hr).1
          rw [ho] at h1
          rcases Nat.lt_or_ge i l.size with h' | h'
          · simp [h'] at h0 h1; rw [h0] at h1; cases h1
          · simp [Array.getElem?_eq_none h'] at h1
        · exact h
      have hni : NoRef oi s := hinv i oi hi (mem_ready.1 hr).1
      have hnj : NoRef oj s := hinv j oj hoj hjun
      have hcm : Cm T S ops s oi oj := cmA_of hap hlead hni hnj (by
        obtain ⟨_, o1, ho1, ha1⟩ := mem_ready.1 hr
        rw [hi] at ho1; cases ho1; exact ha1) hall
      have ej := hcm.yx
      have ei := hcm.xy
      rw [ej] at h1c h1
      refine ⟨h1c, ih (l.setIfInBounds j true) _ (fun k ok hk hki hun => ?_) (InvA.step hok hinv hoj h1c) (hlead.step hok hoj h1c) (ready_mono hr (Ne.symm hji)) (by rw [ei]; exact hc) ?_⟩
      · refine hfirst k ok hk hki ?_
        by_cases hjk : j = k
        · subst hjk; exact hjun
        · rw [getD_set_ne true hjk] at hun; exact hun
      · rw [ei, Array.setIfInBounds_comm _ _ hji, hcm.cm]
        exact h1
theorem anyA_lex (hok : okA cs al ops = true) {K : St → Prop} : ∀ (l : List Oper) (k : Nat) (li : Array Bool) (σ : St), (∀ j, l[j]? = ops[k + j]?) → li.size = ops.size →
    (∀ j, j < k → li.getD j false = true) → (∀ j, k ≤ j → j < ops.size → li.getD j true = false) → Inv ops li (σ.get, σ.blk) → LeadL cs al li (σ.get, σ.blk) →
    opsD T S ops l K σ → anyN T S ops .any (fun s => ∃ σ', K σ' ∧ s = (σ'.get, σ'.blk)) l.length li (σ.get, σ.blk)
  | [], k, li, σ, hl, hsz, h1, h2, _, _, h => by
    refine ⟨?_, σ, h, rfl⟩
    refine List.eq_nil_iff_forall_not_mem.2 (fun j hj => ?_)
    obtain ⟨hun, o, ho, _⟩ := mem_ready.1 hj
    have hlt : j < ops.size := (Array.getElem?_eq_some_iff.1 ho).1
    have hk : ops.size ≤ k := by
      have := hl 0
      simp at this
      exact this
    have := h1 j (by omega)
    rw [Array.getD, dif_pos (by omega)] at this hun
    rw [this] at hun; cases hun
  | o :: l, k, li, σ, hl, hsz, h1, h2, hinv, hlead, h => by
    have h0 : ops[k]? = some o := by simpa using (hl 0).symm
    have hlt : k < ops.size := (Array.getElem?_eq_some_iff.1 h0).1
    have hkun : li.getD k true = false := h2 k (Nat.le_refl _) hlt
    have hready : k ∈ Region.ready .any ops li := mem_ready.2 ⟨hkun, o, h0, fun e he hb => h1 _ (okA_edges hok h0 e he hb)⟩
    simp only [opsD] at h
    have hfirst : ∀ j oj, ops[j]? = some oj → j ≠ k → li.getD j true = false → k < j := by
      intro j oj hoj hne hun
      rcases Nat.lt_or_ge j k with h' | h'
      · have hlt' : j < ops.size := (Array.getElem?_eq_some_iff.1 hoj).1
        have := h1 j h'
        rw [Array.getD, dif_pos (by omega)] at this hun
        rw [this] at hun; cases hun
      · omega
    have hl' : ∀ j, l[j]? = ops[k + 1 + j]? := fun j => by have := hl (j + 1); simpa [Nat.add_assoc, Nat.add_comm 1 j] using this
    have hs1 : ∀ j, j < k + 1 → (li.setIfInBounds k true).getD j false = true := by
      intro j hj
      by_cases e : k = j
      · subst e; simp [Array.getD, hsz, hlt]
      · rw [getD_set_ne false e]; exact h1 j (by omega)
    have hs2 : ∀ j, k + 1 ≤ j → j < ops.size → (li.setIfInBounds k true).getD j true = false := by
      intro j hj hj2
      rw [getD_set_ne true (by omega)]
      exact h2 j (by omega) hj2
    rcases gw_of h with ⟨hw, σ', e1, e2, h3, h4⟩ | ⟨hw, σ', e1, e2, h4⟩
    · have hw' : gw ops σ'.get o = some true := by rw [e1]; exact hw
      obtain ⟨c1, c2⟩ := stD_ef hw' h3
      rw [e1, e2] at c1 c2
      refine anyA_first hok h0 l.length li _ hfirst hinv hlead hready c1 ?_
      rw [← c2]
      refine anyA_lex hok l (k + 1) _ _ hl' (by simpa using hsz) hs1 hs2 ?_ ?_ h4
      · rw [c2]
        exact InvA.step hok hinv h0 c1
      · rw [c2]
        exact hlead.step hok h0 c1
    · have c1 : (efF T S ops o (σ.get, σ.blk)).1 ∧ (efF T S ops o (σ.get, σ.blk)).2 = .put (.raw undef) := by
        unfold efF; simp only [hw]; exact ⟨trivial, trivial⟩
      refine anyA_first hok h0 l.length li _ hfirst hinv hlead hready c1.1 ?_
      have c2 : apE o.dst (efF T S ops o (σ.get, σ.blk)).2 (σ.get, σ.blk) = ((σ'.put o.dst (.raw undef)).get, (σ'.put o.dst (.raw undef)).blk) := by
        rw [c1.2]
        simp only [apE, St.get_put, St.blk_put, e1, e2]
      rw [c2]
      refine anyA_lex hok l (k + 1) _ _ hl' (by simpa using hsz) hs1 hs2 ?_ ?_ h4
      · rw [← c2]
        exact InvA.step hok hinv h0 c1.1
      · rw [← c2]
        exact hlead.step hok h0 c1.1
theorem wpAny_of_anyA (hT : TabOK P T) (hS : SOK P S) (hok : okA cs al ops = true) (hd : ∀ (i : Nat) (o : Oper), ops[i]? = some o → ∀ t, o.dst = some t → t < κ.nt) {Qf : NS → Prop} {Q : Exit → Act → World → Prop}
    (hQ : ∀ s β' a' w', Qf s → Conc κ β' s.1 s.2 a' w' → Q .normal a' w') :
    ∀ (fuel : Nat) (l : Array Bool) (s : NS) (β : Nat → Option (Nat × Nat)) (a : Act) (w : World), Conc κ β s.1 s.2 a w → Inv ops l s → anyN T S ops .any Qf fuel l s → wpAny P .any ops Q fuel l a w
  | 0, l, s, β, a, w, hC, _, h => ⟨h.1, hQ s β a w h.2 hC⟩
  | fuel + 1, l, s, β, a, w, hC, hinv, h => by
    refine ⟨fun h0 => hQ s β a w (h.1 h0) hC, fun i hi => ?_⟩
    obtain ⟨hun, o, ho, _⟩ := mem_ready.1 hi
    obtain ⟨h1, h2⟩ := h.2 i hi o ho
    exact ef_wp hT hS hC ho h1 (hinv i o ho hun) (hd i o ho) (fun β' a' w' hc => wpAny_of_anyA hT hS hok hd hQ fuel _ _ β' a' w' hc (InvA.step hok hinv ho h1) h2)
theorem AWp.regionA (cs al : List (Nat × Nat)) {n : Nat} {Q : Exit → St → Prop} {σ : St} (hT : TabOK P T) (hS : SOK P S) (hmix : P.follows .mixedOrders = true) {id : Nat} {l : List Oper}
    (hlead : ∀ p i, lk cs p = some i → ∃ off, (cleanD l σ).get p = .ptr i off) (h : opsD T S l.toArray l (Q .normal) (cleanD l σ)) (hd : dstsB l.toArray n = true := by kernel_rfl) (hok : okA cs al l.toArray = true := by kernel_rfl) : AWp P T n (.region id l.toArray true) Q σ := by
  intro κ β a w hn hm hC
  refine wp_region_any hmix ?_
  have hdd : ∀ (i : Nat) (o : Oper), l.toArray[i]? = some o → ∀ t, o.dst = some t → t < κ.nt := by
    intro i o ho t ht
    have := Array.all_eq_true_iff_forall_mem.1 hd o (Array.mem_of_getElem? ho)
    rw [ht] at this
    rw [hn]
    simpa using this
  have hC' : Conc κ β (cleanD l σ).get (cleanD l σ).blk a { w with drawn := w.drawn + 1 } := (conc_clean l σ hC).below (drew_below w)
  have hinv : Inv l.toArray (Array.replicate l.toArray.size false) ((cleanD l σ).get, (cleanD l σ).blk) := by
    intro i o ho _ hA d hd u
    exact refs_clean l σ o (by simpa using Array.mem_of_getElem? ho) hA d hd u
  have hlex := anyA_lex (T := T) (S := S) (ops := l.toArray) hok (K := Q .normal) l 0 (Array.replicate l.toArray.size false) (cleanD l σ) (by simp) (by simp) (by omega)
    (fun j _ hj => by
      have hj' : j < l.length := by simpa using hj
      simp [Array.getD, hj']) hinv ⟨hlead, fun p i hp hl => by
      rcases Nat.lt_or_ge i l.toArray.size with h' | h'
      · simp [Array.getD] at hl
      · simp [Array.getD] at hl⟩ h
  have := wpAny_of_anyA (P := P) (κ := κ) hT hS hok hdd (Q := fun e a' w' => ∃ σ' β', Q e σ' ∧ Conc κ β' σ'.get σ'.blk a' w') (fun s β' a' w' ⟨σ', h1, h2⟩ h3 => ⟨σ', β', h1, by rw [h2] at h3; exact h3⟩)
    l.length _ _ β a { w with drawn := w.drawn + 1 } hC' hinv hlex
  simpa using this
end
end Go.Hl

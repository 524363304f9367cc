/- A drawn region in which a new empty slice is appended to: what comes of it is a new slice that nobody writes. -/
import Derived.Test.YtccbmjkhplmgnaaHlAv30
set_option linter.unusedVariables false
set_option linter.unusedSimpArgs false
namespace Go.Hl
open Go Go.RowKit
section
variable {P : Program} {T : Tab} {S : FuncId → Option Sp} {κ : Ctx} {β : Nat → Option (Nat × Nat)} {a : Act} {w : World} {X : Nat → Prop}
theorem app_nul {t ty e : TypeId} {i : TypeInfo} {z : Value} (ht : P.underlying t = some (.slice e)) (hi : P.info? e = some i) (hz : i.zero = some z) (hs1 : i.size = 1) (hX : ¬ X w.heap.size)
    {ys : List Int} {k : IntKind} {xu : Value} (hx : RI w X (.ns k ys) xu) (hl : ys.length * i.bytes ≤ 140737488355328) (hl2 : ys.length ≤ 9223372036854775807) (ad0 : Option Addr) :
    ∃ y w', (Builtin.append_ #[t, t] ty #[.slice ad0 0 0, xu]).run P w = .ok y w' ∧ Below w.heap.size w w' ∧ RI w' X (.ns k ys) y := by
  cases hx with
  | ns k xs ad b o cap hc ha hh =>
    by_cases h0 : ys = []
    · subst h0
      exact ⟨_, _, run_append_zero ht hi ad0 ad 0 0 cap (Nat.le_refl _), Below.refl _ _, RI.ns k [] ad0 0 0 0 (by simp) (by simp) (by simp)⟩
    · have hp := List.length_pos_iff.2 h0
      obtain ⟨e1, _⟩ := ha hp
      subst e1
      obtain ⟨cap', r, r1, r2, r3⟩ := run_append_new (P := P) (w := w) (ty := ty) ht hi hz ad0 0 0 [] (by simp) (fun _ => ⟨rfl, rfl⟩) (fun _ _ j v hj => by simp at hj)
        ⟨b, o, none⟩ ys.length cap (ys.map fun x => .int k x) (by rw [hs1]; simp) (fun j v hj => by
          rw [Addr.add_lit]
          rw [List.getElem?_map] at hj
          cases hq : ys[j]? with
          | none => rw [hq] at hj; cases hj
          | some q =>
            rw [hq] at hj
            simp only [Option.map_some, Option.some.injEq] at hj
            rw [← hj]
            exact hh j q hq) (by omega) (by omega) (by rw [Nat.zero_add]; exact hl)
      rw [Nat.zero_add] at r1 r2
      refine ⟨_, _, r1, (drew_below w).alloc (Nat.le_refl _) _, ?_⟩
      refine RI.ns k ys (some ⟨w.heap.size, 0, none⟩) w.heap.size 0 cap' r2 (fun _ => ⟨rfl, hX⟩) (fun j x hj => ?_)
      have hlt : j < ys.length := (List.getElem?_eq_some_iff.1 hj).1
      show (w.drew.alloc _).cell? ⟨w.drew.heap.size, 0 + j, none⟩ = _
      rw [Nat.zero_add, World.cell?_alloc_new]
      simp [List.getElem?_append_left, hlt]
      rw [List.getElem?_eq_getElem hlt] at hj
      exact Option.some.inj hj
def twin (t d2 d3 : Nat) (o o' : Oper) : Prop :=
  o'.after = o.after ∧ o'.dst = o.dst ∧ o.guard = none ∧ o'.guard = none ∧
  (o' = o ∨ (o.op = .buildSlice t 0 #[] ∧ o'.op = .move (.const (.slice none 0 0))) ∨ (o.op = .call { callee := .builtin .append, args := #[.tmp d2, .tmp d3], argTypes := #[t, t] } ∧ o'.op = .move (.tmp d3)))
theorem wanted_none {o : Oper} (h : o.guard = none) (y : Nat → Option Bool) : Region.wanted o y = true := by
  unfold Region.wanted; rw [h]
theorem apE_other {s : NS} {d : Option Nat} {ef : Ef} {p : Nat} (hne : d ≠ some p) : (apE d ef s).1 p = s.1 p := by
  cases ef with
  | put v => exact updO_other (fun q hq e => hne (by rw [hq, e]))
  | all z =>
    simp only [apE]
    cases d with
    | none => rfl
    | some q => exact upd_other _ _ (fun e => hne (by rw [e]))
  | sto id c => rfl
theorem efF_move {ops : Array Oper} {o : Oper} {s : NS} {x : Operand} (hg : o.guard = none) (ho : o.op = .move x) : (efF T S ops o s).2 = .put (ev s.1 x) := by
  unfold efF gw
  rw [hg]
  simp only [ho]
  unfold qd qv
  simp only [ho]
def Jv (i2 i3 d2 d3 p : Nat) (V : AV) (l : Array Bool) (s : NS) : Prop := (l.getD i2 true = true → s.1 d2 = .nul) ∧ (l.getD i3 true = true → s.1 d3 = V) ∧ s.1 p = V
theorem wpAny_twin (hT : TabOK P T) (hS : SOK P S) {ops ops' : Array Oper} {t e d2 d3 p i2 i3 by_ : Nat}
    (hsl : T.sl t = some (e, 1, by_)) {k : IntKind} {ys : List Int} (hl : ys.length * by_ ≤ 140737488355328) (hl2 : ys.length ≤ 9223372036854775807)
    (hsz : ops'.size = ops.size) (htw : ∀ (j : Nat) (o : Oper), ops[j]? = some o → ∃ o', ops'[j]? = some o' ∧ twin t d2 d3 o o')
    (hok : okN ops' = true) (hd : ∀ (j : Nat) (o : Oper), ops'[j]? = some o → ∀ t, o.dst = some t → t < κ.nt)
    (h2 : ∃ o, ops'[i2]? = some o ∧ o.op = .move (.const (.slice none 0 0)) ∧ o.guard = none ∧ o.dst = some d2) (h3 : ∃ o, ops'[i3]? = some o ∧ o.op = .move (.tmp p) ∧ o.guard = none ∧ o.dst = some d3)
    (hdst : ∀ (j : Nat) (o : Oper), ops'[j]? = some o → o.dst ≠ some p ∧ (o.dst = some d2 → j = i2) ∧ (o.dst = some d3 → j = i3))
    (h4 : ∀ (j : Nat) (o : Oper), ops[j]? = some o → (o.op = .call { callee := .builtin .append, args := #[.tmp d2, .tmp d3], argTypes := #[t, t] }) → ∃ o', ops'[j]? = some o' ∧ (∃ e ∈ o'.after, Region.binds .any e = true ∧ e.on = i2) ∧ (∃ e ∈ o'.after, Region.binds .any e = true ∧ e.on = i3))
    {Qf : NS → Prop} {Q : Exit → Act → World → Prop} (hQ : ∀ s β' a' w', Qf s → Conc κ β' s.1 s.2 a' w' → Q .normal a' w') :
    ∀ (fuel : Nat) (l : Array Bool) (s : NS) (β : Nat → Option (Nat × Nat)) (a : Act) (w : World), l.size = ops.size → Conc κ β s.1 s.2 a w → Inv ops' l s → Jv i2 i3 d2 d3 p (.ns k ys) l s → anyN T S ops' .any Qf fuel l s → wpAny P .any ops Q fuel l a w := by
  obtain ⟨ht, i, hi, hs1, hby, z, hz, hz1⟩ := hT.sl t e 1 by_ hsl
  rw [← hby] at hl
  have hready : ∀ (l : Array Bool) (j : Nat), j ∈ Region.ready .any ops l ↔ j ∈ Region.ready .any ops' l := by
    intro l j
    rw [mem_ready, mem_ready]
    constructor
    · rintro ⟨h, o, ho, hh⟩
      obtain ⟨o', ho', tw⟩ := htw j o ho
      exact ⟨h, o', ho', fun e he hb => hh e (by rw [← tw.1]; exact he) hb⟩
    · rintro ⟨h, o', ho', hh⟩
      have hlt : j < ops.size := by rw [← hsz]; exact (Array.getElem?_eq_some_iff.1 ho').1
      obtain ⟨o'', ho'', tw⟩ := htw j _ (Array.getElem?_eq_getElem hlt)
      rw [ho'] at ho''
      cases ho''
      exact ⟨h, _, Array.getElem?_eq_getElem hlt, fun e he hb => hh e (by rw [tw.1]; exact he) hb⟩
  have hnil : ∀ l : Array Bool, Region.ready .any ops l = [] → Region.ready .any ops' l = [] := by
    intro l h
    refine List.eq_nil_iff_forall_not_mem.2 (fun j hj => ?_)
    have := (hready l j).2 hj
    rw [h] at this; cases this
  have hnil' : ∀ l : Array Bool, Region.ready .any ops' l = [] → Region.ready .any ops l = [] := by
    intro l h
    refine List.eq_nil_iff_forall_not_mem.2 (fun j hj => ?_)
    have := (hready l j).1 hj
    rw [h] at this; cases this
  intro fuel
  induction fuel with
  | zero => intro l s β a w _ hC _ _ h; exact ⟨hnil' l h.1, hQ s β a w h.2 hC⟩
  | succ fuel ih =>
    intro l s β a w hls hC hinv hJ h
    refine ⟨fun h0 => hQ s β a w (h.1 (hnil l h0)) hC, fun j hj => ?_⟩
    have hj' := (hready l j).1 hj
    obtain ⟨hun, o', ho', hed⟩ := mem_ready.1 hj'
    have hlt : j < ops.size := by rw [← hsz]; exact (Array.getElem?_eq_some_iff.1 ho').1
    obtain ⟨o, ho⟩ : ∃ o, ops[j]? = some o := ⟨_, Array.getElem?_eq_getElem hlt⟩
    obtain ⟨o'', ho'', tw⟩ := htw j o ho
    rw [ho'] at ho''
    cases ho''
    obtain ⟨hp1, hp2⟩ := h.2 j hj' o' ho'
    have hJ' : Jv i2 i3 d2 d3 p (.ns k ys) (l.setIfInBounds j true) (apE o'.dst (efF T S ops' o' s).2 s) := by
      obtain ⟨j1, j2, j3⟩ := hJ
      obtain ⟨q1, q2, q3⟩ := hdst j o' ho'
      refine ⟨fun hh => ?_, fun hh => ?_, ?_⟩
      · by_cases e : j = i2
        · subst e
          obtain ⟨o2, u1, u2, u3, u4⟩ := h2
          rw [ho'] at u1; cases u1
          rw [u4, efF_move u3 u2]
          exact upd_same _ _ _
        · rw [apE_other (fun e' => e (q2 e'))]
          exact j1 (by rwa [getD_set_ne true e] at hh)
      · by_cases e : j = i3
        · subst e
          obtain ⟨o2, u1, u2, u3, u4⟩ := h3
          rw [ho'] at u1; cases u1
          rw [u4, efF_move u3 u2]
          exact (upd_same _ _ _).trans j3
        · rw [apE_other (fun e' => e (q3 e'))]
          exact j2 (by rwa [getD_set_ne true e] at hh)
      · rw [apE_other q1]; exact j3
    have next : ∀ β' a' w', Conc κ β' (apE o'.dst (efF T S ops' o' s).2 s).1 (apE o'.dst (efF T S ops' o' s).2 s).2 a' w' → wpAny P .any ops Q fuel (l.setIfInBounds j true) a' w' :=
      fun β' a' w' hc => ih _ _ β' a' w' (by simpa using hls) hc (hinv.step hok ho' hp1) hJ' hp2
    obtain ⟨t1, t2, t3, t4, tw⟩ := tw
    rcases tw with tw | ⟨tw1, tw2⟩ | ⟨tw1, tw2⟩
    · subst tw
      have := ef_wp hT hS hC ho' hp1 (hinv j o' ho' hun) (hd j o' ho') (K := wpAny P .any ops Q fuel (l.setIfInBounds j true)) (Q := Q) next
      unfold wpOp at this ⊢
      simp only [ho', wanted_none t3, if_true] at this
      simp only [ho, wanted_none t3, if_true]
      exact this
    · unfold wpOp
      simp only [ho, wanted_none t3, if_true]
      refine .inl ?_
      unfold Oper.wp
      have hrun : ∃ ad0 w', (execOp a.eval o).run P w = .ok (.value (.slice ad0 0 0)) w' ∧ Below w.heap.size w w' := by
        obtain ⟨C, c1, _⟩ := bslice_run (P := P) hT hsl (vals := []) (len := 0) rfl (by omega) (fun j p hj => by simp at hj) w
        refine ⟨some ⟨w.heap.size, 0, none⟩, w.alloc (.cells C e), ?_, (Below.refl _ _).alloc (Nat.le_refl _) (.cells C e)⟩
        have c1' : (Instr.buildSlice t 0 #[]).run P w = .ok (.slice (some ⟨w.heap.size, 0, none⟩) 0 0) (w.alloc (.cells C e)) := c1
        simp only [execOp, tw1, Sem.run_bind, List.map_toArray, List.map_nil, c1', Result.andThen_ok, Sem.run_pure]
      obtain ⟨ad0, w', hr, hb⟩ := hrun
      rw [hr, Oper.upon_value]
      have hcc := next β (a.put o.dst (.slice ad0 0 0)) w'
      rw [efF_move t4 tw2, t2] at hcc
      refine hcc ?_
      refine (hC.below hb).put (fun t ht => hd j o' ho' t (by rw [t2]; exact ht)) ?_
      exact RI.nul _
    · unfold wpOp
      simp only [ho, wanted_none t3, if_true]
      refine .inl ?_
      obtain ⟨o4, g1, ⟨e2, g2, g3, g4⟩, ⟨e3, g5, g6, g7⟩⟩ := h4 j o ho tw1
      rw [ho'] at g1; cases g1
      have hb2 : l.getD i2 true = true := by
        have := hed e2 g2 g3
        rw [g4] at this
        rw [Array.getD] at this ⊢
        split
        · rename_i hh; rw [dif_pos hh] at this; exact this
        · rfl
      have hb3 : l.getD i3 true = true := by
        have := hed e3 g5 g6
        rw [g7] at this
        rw [Array.getD] at this ⊢
        split
        · rename_i hh; rw [dif_pos hh] at this; exact this
        · rfl
      have v2 := hJ.1 hb2
      have v3 := hJ.2.1 hb3
      have r2 := hC.rel d2
      have r3 := hC.rel d3
      rw [v2] at r2
      rw [v3] at r3
      unfold Oper.wp
      have hX : ¬ XG κ β s.2 w.heap.size := fun hx => by have := hC.xlt hx; omega
      have e2 : ∃ ad0, a.eval (.tmp d2) = .slice ad0 0 0 := by
        have : RI w (XG κ β s.2) .nul (a.tmps.getD d2 undef) := r2
        show ∃ ad0, a.tmps.getD d2 undef = _
        cases h : a.tmps.getD d2 undef <;> rw [h] at this <;> cases this
        exact ⟨_, rfl⟩
      obtain ⟨ad0, e2⟩ := e2
      have r3' : RI w (XG κ β s.2) (.ns k ys) (a.eval (.tmp d3)) := r3
      obtain ⟨y, w', q1, q2, q3⟩ := app_nul (ty := o.type) ht hi hz hs1 hX r3' hl hl2 ad0
      have hr : (execOp a.eval o).run P w = .ok (.value y) w' := by
        simp only [execOp, tw1, resolve, Sem.run_bind, Sem.run_pure, Result.andThen_ok, invoke, builtin]
        simp [e2, q1, Result.andThen]
      rw [hr, Oper.upon_value]
      have hcc := next β (a.put o.dst y) w'
      rw [efF_move t4 tw2, t2] at hcc
      refine hcc ?_
      refine (hC.below q2).put (fun t ht => hd j o' ho' t (by rw [t2]; exact ht)) ?_
      have : ev s.1 (.tmp d3) = .ns k ys := v3
      rw [this]
      exact q3
theorem AWp.regionC {n : Nat} {Q : Exit → St → Prop} {σ : St} (hT : TabOK P T) (hS : SOK P S) (hmix : P.follows .mixedOrders = true) {id : Nat} {l : List Oper} (l' : List Oper) {t e d2 d3 p i2 i3 by_ : Nat} {k : IntKind} {ys : List Int}
    (hsl : T.sl t = some (e, 1, by_)) (hl : ys.length * by_ ≤ 140737488355328) (hl2 : ys.length ≤ 9223372036854775807)
    (hp : (cleanD l' σ).get p = .ns k ys)
    (hsz : l'.length = l.length) (htw : ∀ (j : Nat) (o : Oper), l[j]? = some o → ∃ o', l'[j]? = some o' ∧ twin t d2 d3 o o')
    (h2 : ∃ o, l'[i2]? = some o ∧ o.op = .move (.const (.slice none 0 0)) ∧ o.guard = none ∧ o.dst = some d2) (h3 : ∃ o, l'[i3]? = some o ∧ o.op = .move (.tmp p) ∧ o.guard = none ∧ o.dst = some d3)
    (hdst : ∀ (j : Nat) (o : Oper), l'[j]? = some o → o.dst ≠ some p ∧ (o.dst = some d2 → j = i2) ∧ (o.dst = some d3 → j = i3))
    (h4 : ∀ (j : Nat) (o : Oper), l[j]? = some o → (o.op = .call { callee := .builtin .append, args := #[.tmp d2, .tmp d3], argTypes := #[t, t] }) → ∃ o', l'[j]? = some o' ∧ (∃ e ∈ o'.after, Region.binds .any e = true ∧ e.on = i2) ∧ (∃ e ∈ o'.after, Region.binds .any e = true ∧ e.on = i3))
    (h : opsD T S l'.toArray l' (Q .normal) (cleanD l' σ)) (hd : dstsB l'.toArray n = true := by kernel_rfl) (hok : okN l'.toArray = true := by kernel_rfl) : AWp P T n (.region id l.toArray true) Q σ := by
  intro κ β a w hn hm hC
  refine wp_region_any hmix ?_
  have hdd : ∀ (i : Nat) (o : Oper), l'.toArray[i]? = some o → ∀ t, o.dst = some t → t < κ.nt := by
    intro i o ho t ht
    have := Array.all_eq_true_iff_forall_mem.1 hd o (Array.mem_of_getElem? ho)
    rw [ht] at this
    rw [hn]
    simpa using this
  have hC' : Conc κ β (cleanD l' σ).get (cleanD l' σ).blk a { w with drawn := w.drawn + 1 } := (conc_clean l' σ hC).below (drew_below w)
  have hinv : Inv l'.toArray (Array.replicate l'.toArray.size false) ((cleanD l' σ).get, (cleanD l' σ).blk) := by
    intro i o ho _ hA d hd u
    exact refs_clean l' σ o (by simpa using Array.mem_of_getElem? ho) hA d hd u
  have hlex := anyN_lex (T := T) (S := S) (ops := l'.toArray) hok (K := Q .normal) l' 0 (Array.replicate l'.toArray.size false) (cleanD l' σ) (by simp) (by simp) (by omega)
    (fun j _ hj => by
      have hj' : j < l'.length := by simpa using hj
      simp [Array.getD, hj']) hinv h
  have h2lt : i2 < l'.length := by obtain ⟨o, h, _⟩ := h2; exact (List.getElem?_eq_some_iff.1 h).1
  have h3lt : i3 < l'.length := by obtain ⟨o, h, _⟩ := h3; exact (List.getElem?_eq_some_iff.1 h).1
  have := wpAny_twin (P := P) (κ := κ) hT hS (ops := l.toArray) (ops' := l'.toArray) (d2 := d2) (d3 := d3) (p := p) (i2 := i2) (i3 := i3) hsl hl hl2 (by simpa using hsz) (by simpa using htw) hok hdd (by simpa using h2) (by simpa using h3) (by simpa using hdst) (by simpa using h4)
    (Q := fun e a' w' => ∃ σ' β', Q e σ' ∧ Conc κ β' σ'.get σ'.blk a' w') (fun s β' a' w' ⟨σ', h1, h2⟩ h3 => ⟨σ', β', h1, by rw [h2] at h3; exact h3⟩)
    l'.length _ _ β a { w with drawn := w.drawn + 1 } (by simpa using hsz) hC' hinv ⟨fun hh => by simp [Array.getD, h2lt] at hh, fun hh => by simp [Array.getD, h3lt] at hh, hp⟩ hlex
  simpa [hsz] using this
def twO (d3 : Nat) (o : Oper) : Oper := match o.op with
  | .buildSlice _ 0 _ => { o with op := .move (.const (.slice none 0 0)) }
  | .call _ => { o with op := .move (.tmp d3) }
  | _ => o
theorem AWp.regionT (d3 : Nat) {n : Nat} {Q : Exit → St → Prop} {σ : St} (hT : TabOK P T) (hS : SOK P S) (hmix : P.follows .mixedOrders = true) {id : Nat} {l : List Oper} {t e d2 p i2 i3 by_ : Nat} {k : IntKind} {ys : List Int}
    (hsl : T.sl t = some (e, 1, by_)) (hl : ys.length * by_ ≤ 140737488355328) (hl2 : ys.length ≤ 9223372036854775807)
    (hp : (cleanD (l.map (twO d3)) σ).get p = .ns k ys)
    (htw : ∀ (j : Nat) (o : Oper), l[j]? = some o → ∃ o', (l.map (twO d3))[j]? = some o' ∧ twin t d2 d3 o o')
    (h2 : ∃ o, (l.map (twO d3))[i2]? = some o ∧ o.op = .move (.const (.slice none 0 0)) ∧ o.guard = none ∧ o.dst = some d2) (h3 : ∃ o, (l.map (twO d3))[i3]? = some o ∧ o.op = .move (.tmp p) ∧ o.guard = none ∧ o.dst = some d3)
    (hdst : ∀ (j : Nat) (o : Oper), (l.map (twO d3))[j]? = some o → o.dst ≠ some p ∧ (o.dst = some d2 → j = i2) ∧ (o.dst = some d3 → j = i3))
    (h4 : ∀ (j : Nat) (o : Oper), l[j]? = some o → (o.op = .call { callee := .builtin .append, args := #[.tmp d2, .tmp d3], argTypes := #[t, t] }) → ∃ o', (l.map (twO d3))[j]? = some o' ∧ (∃ e ∈ o'.after, Region.binds .any e = true ∧ e.on = i2) ∧ (∃ e ∈ o'.after, Region.binds .any e = true ∧ e.on = i3))
    (h : opsD T S (l.map (twO d3)).toArray (l.map (twO d3)) (Q .normal) (cleanD (l.map (twO d3)) σ)) (hd : dstsB (l.map (twO d3)).toArray n = true := by kernel_rfl) (hok : okN (l.map (twO d3)).toArray = true := by kernel_rfl) : AWp P T n (.region id l.toArray true) Q σ :=
  AWp.regionC (d2 := d2) (d3 := d3) (p := p) (i2 := i2) (i3 := i3) hT hS hmix (l.map (twO d3)) hsl hl hl2 hp (by simp) htw h2 h3 hdst h4 h hd hok
end
end Go.Hl

/- The rules for code in the abstract state. -/
import Derived.Test.YtccbmjkhplmgnaaGreatHlAv19
set_option linter.unusedVariables false
set_option linter.unusedSimpArgs false
namespace Go.Hl
open Go Go.RowKit
section
variable {P : Program} {T : Tab} {S : FuncId → Option Sp} {κ : Ctx} {β : Nat → Option (Nat × Nat)} {F F' : Nat → AV} {G G' : Nat → Option Blk} {a : Act} {w : World} {X : Nat → Prop} {ops : Array Oper} {md : Region.Mode}
theorem gw_sound (h : Conc κ β F G a w) {o : Oper} {b : Bool} (hg : gw ops F o = some b) : Region.wanted o (yielded ops a.tmps) = b := by
  unfold gw at hg
  unfold Region.wanted
  cases hgd : o.guard with
  | none => simp only [hgd, Option.some.injEq] at hg ⊢; exact hg
  | some p =>
    obtain ⟨j, want⟩ := p
    simp only [hgd] at hg ⊢
    cases ht : (ops[j]?).bind (·.dst) with
    | none =>
      simp only [ht, Option.some.injEq] at hg
      have : yielded ops a.tmps j = none := by unfold yielded; rw [ht]; rfl
      rw [this, ← hg]
      rfl
    | some t =>
      simp only [ht] at hg
      have hr := h.rel t
      split at hg
      · rename_i b' hb
        rw [hb] at hr
        have hv := RI.raw_inv hr
        rw [yielded_of ht hv]
        simp only [boolOf]
        simp only [Option.some.injEq] at hg
        rw [← hg]
        cases b' <;> cases want <;> rfl
      · rename_i v hnb hb
        rw [hb] at hr
        have hv := RI.raw_inv hr
        rw [yielded_of ht hv]
        simp only [Option.some.injEq] at hg
        rw [← hg]
        have : boolOf v = none := by cases v <;> first | rfl | exact (hnb _ rfl).elim
        rw [this]
        rfl
      · cases hg
theorem bsV_sound (hT : TabOK P T) (h : Conc κ β F G a w) {t : TypeId} {len : Nat} {parts : List (Nat × Operand)} (hp : (bsV T F t len parts).1) :
    ∃ x w', (Instr.buildSlice t len (parts.map fun p => (p.1, a.eval p.2)).toArray).run P w = .ok x w' ∧ Below w.heap.size w w' ∧ RI w' (XG κ β G) (bsV T F t len parts).2 x ∧ (bsV T F t len parts).2.im = true := by
  have hus : ∀ (j : Nat) (v : AV), (parts.map fun p => ev F p.2)[j]? = some v → ∃ u : Value, (parts.map fun p => a.eval p.2)[j]? = some u ∧ (v.im = true → RI w (XG κ β G) v u) := by
    intro j v hj
    rw [List.getElem?_map] at hj ⊢
    cases hq : parts[j]? with
    | none => rw [hq] at hj; cases hj
    | some p =>
      rw [hq] at hj
      simp only [Option.map_some, Option.some.injEq] at hj
      subst hj
      exact ⟨_, rfl, fun him => (h.ev p.2).ri him⟩
  have hfm : (parts.map fun p => (p.1, a.eval p.2)).flatMap (fun p => p.2.cells.toList) = (parts.map fun p => a.eval p.2).flatMap fun u => u.cells.toList := by
    simp [List.flatMap_map]
  have hbel : ∀ (C : Array Value) (e : TypeId), Below w.heap.size w (w.alloc (.cells C e)) := fun C e => (Below.refl _ _).alloc (Nat.le_refl _) _
  have hnX : ¬ XG κ β G w.heap.size := fun hx => by have := h.xlt hx; omega
  have hcell : ∀ (C : Array Value) (e : TypeId) (j : Nat), (w.alloc (.cells C e)).cell? ⟨w.heap.size, 0 + j, none⟩ = C[j]? := fun C e j => by
    rw [Nat.zero_add, World.cell?_alloc_new]
  unfold bsV at *
  split at hp
  · rename_i e s by_ h1
    cases hk : T.nk t with
    | some k =>
      simp only [hk] at hp ⊢
      cases hn : numsOf k (parts.map fun p => ev F p.2) with
      | none => simp [hn] at hp
      | some xs =>
        simp only [hn] at hp ⊢
        obtain ⟨g1, g2, g3⟩ := hp
        obtain ⟨q1, q2⟩ := numsOf_spec _ _ hn
        obtain ⟨e', by', i', r1, r2, r3⟩ := hT.nk _ _ hk
        rw [h1] at r1
        simp only [Option.some.injEq, Prod.mk.injEq] at r1
        obtain ⟨rfl, rfl, rfl⟩ := r1
        have hval : ∀ (j : Nat) (x : Int), xs[j]? = some x → (parts.map fun p => a.eval p.2)[j]? = some (.int k x) := by
          intro j x hx
          obtain ⟨u, k1, k2⟩ := hus j _ (q2 j x hx)
          rw [k1, RI.raw_inv (k2 rfl)]
        have hxl : xs.length = len := by rw [q1, ← g2]; simp
        have hval' : ∀ (j : Nat) (p : Nat × Value), (parts.map fun p => (p.1, a.eval p.2))[j]? = some p → p.1 = j ∧ p.2.cells.size = 1 ∧ p.2.cells.toList = [p.2] := by
          intro j p hp
          rw [List.getElem?_map] at hp
          cases hq : parts[j]? with
          | none => rw [hq] at hp; cases hp
          | some q =>
            rw [hq] at hp
            simp only [Option.map_some, Option.some.injEq] at hp
            subst hp
            have hj : j < xs.length := by
              rw [q1]; simp
              rcases Nat.lt_or_ge j parts.length with h' | h'
              · exact h'
              · simp [List.getElem?_eq_none h'] at hq
            have e9 := hval j xs[j] (by simp [hj])
            rw [List.getElem?_map, hq] at e9
            simp only [Option.map_some, Option.some.injEq] at e9
            have e8 := seqFrom_spec _ _ g1 j q hq
            refine ⟨by simpa using e8, ?_, ?_⟩ <;> simp [e9, Value.cells]
        obtain ⟨C, k1, k2, k3⟩ := bslice_run (P := P) hT h1 (vals := parts.map fun p => (p.1, a.eval p.2)) (by simpa using g2) g3 (fun j p hp => ⟨(hval' j p hp).1, (hval' j p hp).2.1⟩) w
        refine ⟨_, _, k1, hbel _ _, ?_, rfl⟩
        have hri := RI.ns (w := w.alloc (.cells C e)) (X := XG κ β G) k xs (some ⟨w.heap.size, 0, none⟩) w.heap.size 0 len (by omega) (fun _ => ⟨rfl, hnX⟩) (fun j x hx => by
          rw [hcell, k3, hfm, flatMap_one]
          · exact hval j x hx
          · intro u hu
            obtain ⟨j', hj'⟩ := List.getElem?_of_mem hu
            rw [List.getElem?_map] at hj'
            cases hq : parts[j']? with
            | none => rw [hq] at hj'; cases hj'
            | some q =>
              rw [hq] at hj'
              simp only [Option.map_some, Option.some.injEq] at hj'
              subst hj'
              exact (hval' j' (q.1, a.eval q.2) (by simp [hq])).2.2)
        rw [hxl] at hri
        exact hri
    | none =>
      simp only [hk] at hp ⊢
      cases hn : cellsOfL (parts.map fun p => ev F p.2) with
      | none => simp [hn] at hp
      | some cs =>
        simp only [hn] at hp ⊢
        obtain ⟨g1, g2, g3, g5, g4⟩ := hp
        obtain ⟨q1, q2⟩ := cellsOfL_spec (w := w) (X := XG κ β G) _ _ hn (parts.map fun p => a.eval p.2) (by simp) hus
        have hval' : ∀ (j : Nat) (p : Nat × Value), (parts.map fun p => (p.1, a.eval p.2))[j]? = some p → p.1 = j ∧ p.2.cells.size = s := by
          intro j p hp
          rw [List.getElem?_map] at hp
          cases hq : parts[j]? with
          | none => rw [hq] at hp; cases hp
          | some q =>
            rw [hq] at hp
            simp only [Option.map_some, Option.some.injEq] at hp
            subst hp
            have h9 := seqFrom_spec _ _ g1 j q hq
            refine ⟨by simpa using h9, ?_⟩
            have h8 := List.all_eq_true.1 g4 (ev F q.2) (List.mem_map.2 ⟨q, List.mem_of_getElem? hq, rfl⟩)
            cases hc : (ev F q.2).cells with
            | none => simp [hc] at h8
            | some c =>
              simp only [hc, beq_iff_eq] at h8
              obtain ⟨m1, _⟩ := RI.cells ((h.ev q.2).ri (AV.cells_im hc)) hc
              simp only
              omega
        obtain ⟨C, k1, k2, k3⟩ := bslice_run (P := P) hT h1 (vals := parts.map fun p => (p.1, a.eval p.2)) (by simpa using g2) g3 hval' w
        refine ⟨_, _, k1, hbel _ _, ?_, rfl⟩
        have hex : ∀ j : Nat, ∃ u : Value, ∀ c : AV, cs[j]? = some c → C[j]? = some u ∧ RI w (XG κ β G) c u := by
          intro j
          cases hj : cs[j]? with
          | none => exact ⟨undef, fun c hc => by cases hc⟩
          | some c =>
            obtain ⟨u, m1, m2⟩ := q2 j c hj
            exact ⟨u, fun c' hc' => by simp only [Option.some.injEq] at hc'; subst hc'; exact ⟨by rw [k3, hfm]; exact m1, m2⟩⟩
        obtain ⟨f, hf⟩ := Classical.axiomOfChoice hex
        have hk := hbel C e
        exact RI.sl s len cs _ w.heap.size 0 len f (Nat.le_refl _) g5 (fun _ => ⟨rfl, hnX⟩) (fun j c hj => by rw [hcell]; exact (hf j c hj).1)
          (fun j c hj => (hf j c hj).2.keep ⟨hk.size, fun b hb _ => hk.block b hb⟩ (fun _ _ hx => hx))
  · exact False.elim hp
theorem qd_er (hT : TabOK P T) (hS : SOK P S) (h : Conc κ β F G a w) (o : Oper) (hp : (qd T S F G o).1) {K : Act → World → Prop} {Q : Exit → Act → World → Prop}
    (hd : ∀ t, o.dst = some t → t < κ.nt) (hK : ∀ β' a' w', Conc κ β' (updO F o.dst (qd T S F G o).2) G a' w' → K a' w') : o.wp P a w K Q := by
  unfold Oper.wp
  by_cases hbs : ∃ t n ps, o.op = .buildSlice t n ps
  · obtain ⟨t, n, ps, hop⟩ := hbs
    unfold qd at hp hK
    simp only [hop] at hp hK
    obtain ⟨x, w', h1, h2, h3, h4⟩ := bsV_sound (P := P) hT h hp
    have e : (ps.map fun x => (x.1, a.eval x.2)) = (ps.toList.map fun p => (p.1, a.eval p.2)).toArray := by
      apply Array.ext'; simp
    have hrun : (execOp a.eval o).run P w = .ok (.value x) w' := by
      simp only [execOp, hop, Sem.run_bind, e, h1, Result.andThen_ok, Sem.run_pure]
    rw [hrun]
    exact hK _ _ _ ((h.below h2).put hd (.of h4 h3))
  · have hq : (qd T S F G o) = ((qv T S F G o).1 ∧ (comes o.op = true → (qv T S F G o).2.im = true), (qv T S F G o).2) := by
      unfold qd
      cases hop : o.op <;> first | rfl | exact absurd ⟨_, _, _, hop⟩ hbs
    rw [hq] at hp hK
    have hqs := qv_sound hT hS h o hp.1
    generalize (execOp a.eval o).run P w = r at *
    generalize (qv T S F G o).2 = v at *
    cases r with
    | halt _ _ => exact False.elim hqs
    | ok n w' =>
      cases n <;> try (exact False.elim hqs)
      case value x =>
        obtain ⟨rfl, hv⟩ := hqs
        exact hK _ _ _ (h.put hd hv)
      case enter f vs =>
        obtain ⟨rfl, hc⟩ := hqs
        refine Calls.mono hc (fun e w'' ⟨u, he, hr, hb⟩ => ?_)
        subst he
        refine hK _ _ _ ((h.below hb).put hd ?_)
        cases v with
        | os => cases hr
        | ptr => cases hr
        | _ => exact hr
theorem ef_wp (hT : TabOK P T) (hS : SOK P S) {s : NS} (h : Conc κ β s.1 s.2 a w) {i : Nat} {o : Oper} (hi : ops[i]? = some o) (hp : (efF T S ops o s).1) (hn : NoRef o s)
    (hd : ∀ t, o.dst = some t → t < κ.nt) {K : Act → World → Prop} {Q : Exit → Act → World → Prop}
    (hK : ∀ β' a' w', Conc κ β' (apE o.dst (efF T S ops o s).2 s).1 (apE o.dst (efF T S ops o s).2 s).2 a' w' → K a' w') : wpOp P ops Q i K a w := by
  unfold wpOp
  simp only [hi]
  unfold efF at hp hK
  split at hp
  · exact False.elim hp
  · rename_i hg
    rw [gw_sound h hg, if_neg (by simp)]
    simp only [hg] at hK
    exact hK _ _ _ (h.put hd (RI.raw _))
  · rename_i hg
    rw [gw_sound h hg, if_pos rfl]
    refine .inl ?_
    simp only [hg] at hK
    cases hop : o.op <;> simp only [hop] at hp hK <;> try (exact qd_er hT hS h o hp hd (fun β' a' w' hc => hK β' a' w' hc))
    case alloc t =>
      cases hz : T.zr t with
      | none => simp [hz] at hp
      | some z =>
        simp only [hz] at hp hK
        obtain ⟨d, hdd⟩ := Option.isSome_iff_exists.1 hp
        obtain ⟨i', v, h1, h2, h3, h4⟩ := hT.zr t z hz
        have hz' : (zeroValue t).run P w = .ok v w := by simp [zeroValue, run_typeInfo h1, h2]
        have hrun : (execOp a.eval o).run P w = .ok (.value (.pointer (some ⟨w.heap.size, 0, none⟩))) (w.alloc (.cells v.cells t)) := by
          simp [execOp, hop, Instr.alloc, hz', newVar, newRow]
        unfold Oper.wp
        rw [hrun]
        have hf := h.fresh (id := d) (Nat.ne_of_lt (hd d hdd)) (hn (by rw [hop]; rfl) d hdd) v.cells t (.c z) (by simp [Con.len, h3]) (fun j c hj => h4 w _ j c hj)
        simp only [hdd, apE] at hK
        show K (a.put o.dst _) _
        rw [hdd]
        exact hK _ _ _ (hf.put (d := some d) (fun t ht => hd t (by rw [hdd]; exact ht)) (RV.ptr_made (upd_same _ _ _)))
    case store t p v =>
      split at hp
      · rename_i id off vs e1 e2
        split at hp
        · rename_i con e3
          split at hp
          · rename_i con' e4
            simp only at hp
            obtain ⟨g0, g1, g2⟩ := hp
            have hpv := h.ev p
            rw [e1] at hpv
            obtain ⟨b, base, hβ, hpp⟩ := hpv _ e3
            obtain ⟨c1, c2⟩ := RI.cells ((h.ev v).ri (AV.cells_im e2)) e2
            obtain ⟨w', q1, q2⟩ := stores_sound (P := P) hβ vs (a.eval v).cells.toList off 0 con con' s.2 w h e3 (by simpa using c1) (fun k c hk => by
              obtain ⟨u, q1, q2⟩ := c2 k c hk
              exact ⟨u, by simpa using q1, q2⟩) e4 (by omega)
            have hsz : ∀ w, (sizeOf t).run P w = .ok vs.length w := by
              intro w
              rcases g2 with ⟨h2, h3⟩ | h2
              · obtain ⟨_, i, q1, q2⟩ := hT.vr1 t h2
                rw [run_sizeOf q1, q2, h3]
              · obtain ⟨_, i, q1, q2⟩ := hT.vrn t _ h2
                rw [run_sizeOf q1, q2]
            have hrun : (execOp a.eval o).run P w = .ok .skip w' := by
              simp only [execOp, hop, hpp, Instr.storeAt, Instr.sureAddr, storeVar, Sem.run_bind, Sem.run_pure, Result.andThen_ok, hsz, c1]
              simp [q1]
            unfold Oper.wp
            rw [hrun]
            show K (a.put o.dst undef) w'
            simp only [e1, e2, e3, e4, apE] at hK
            rw [g0]
            exact hK _ _ _ q2
          · exact False.elim hp
        · exact False.elim hp
      · exact False.elim hp
theorem wpAny_of_anyN (hT : TabOK P T) (hS : SOK P S) (hok : okN ops = true) (hd : ∀ (i : Nat) (o : Oper), ops[i]? = some o → ∀ t, o.dst = some t → t < κ.nt) {Qf : NS → Prop} {Q : Exit → Act → World → Prop}
    (hQ : ∀ s β' a' w', Qf s → Conc κ β' s.1 s.2 a' w' → Q .normal a' w') :
    ∀ (fuel : Nat) (l : Array Bool) (s : NS) (β : Nat → Option (Nat × Nat)) (a : Act) (w : World), Conc κ β s.1 s.2 a w → Inv ops l s → anyN T S ops .any Qf fuel l s → wpAny P .any ops Q fuel l a w
  | 0, l, s, β, a, w, hC, _, h => ⟨h.1, hQ s β a w h.2 hC⟩
  | fuel + 1, l, s, β, a, w, hC, hinv, h => by
    refine ⟨fun h0 => hQ s β a w (h.1 h0) hC, fun i hi => ?_⟩
    obtain ⟨hun, o, ho, _⟩ := mem_ready.1 hi
    obtain ⟨h1, h2⟩ := h.2 i hi o ho
    exact ef_wp hT hS hC ho h1 (hinv i o ho hun) (hd i o ho) (fun β' a' w' hc => wpAny_of_anyN hT hS hok hd hQ fuel _ _ β' a' w' hc (hinv.step hok ho h1) h2)
theorem get_clean : ∀ (l : List Oper) (σ : St) (t : Nat), (cleanD l σ).get t = σ.get t ∨ (cleanD l σ).get t = .any
  | [], σ, t => .inl rfl
  | o :: l, σ, t => by
    unfold cleanD
    split
    · rcases get_clean l (σ.kill _) t with h | h
      · rw [h]; exact get_kill_or σ _ t
      · exact .inr h
    · exact get_clean l σ t
theorem conc_clean : ∀ (l : List Oper) (σ : St), Conc κ β σ.get σ.blk a w → Conc κ β (cleanD l σ).get (cleanD l σ).blk a w
  | [], _, h => h
  | o :: l, σ, h => by
    unfold cleanD
    split
    · exact conc_clean l _ (h.killed _)
    · exact conc_clean l _ h
theorem refs_clean : ∀ (l : List Oper) (σ : St) (o : Oper), o ∈ l → isAlloc o.op = true → ∀ d, o.dst = some d → ∀ u, ((cleanD l σ).get u).refs d = false
  | [], _, _, h, _, _, _, _ => by cases h
  | o' :: l, σ, o, h, hA, d, hd, u => by
    unfold cleanD
    cases h with
    | head =>
      rw [hA, hd]
      simp only
      rcases get_clean l (σ.kill d) u with h' | h'
      · rw [h']; exact refs_kill σ d u
      · rw [h']; rfl
    | tail _ h =>
      split
      · exact refs_clean l _ o h hA d hd u
      · exact refs_clean l _ o h hA d hd u
def AWp (P : Program) (T : Tab) (n : Nat) (c : Code) (Q : Exit → St → Prop) (σ : St) : Prop :=
  ∀ (κ : Ctx) (β : Nat → Option (Nat × Nat)) (a : Act) (w : World), κ.nt = n → (T.mu = false → κ.mu = none) → Conc κ β σ.get σ.blk a w →
    c.wp P (fun e a' w' => ∃ σ' β', Q e σ' ∧ Conc κ β' σ'.get σ'.blk a' w') a w
variable {n : Nat} {Q : Exit → St → Prop} {σ : St}
theorem AWp.mono {c : Code} {Q' : Exit → St → Prop} (h : AWp P T n c Q σ) (hq : ∀ e σ, Q e σ → Q' e σ) : AWp P T n c Q' σ :=
  fun κ β a w hn hm hC => wp_mono (h κ β a w hn hm hC) fun e _ _ ⟨σ', β', h1, h2⟩ => ⟨σ', β', hq e σ' h1, h2⟩
def EThen (next : St → Prop) (Q : Exit → St → Prop) : Exit → St → Prop
  | .normal, σ => next σ
  | e, σ => Q e σ
def EBlock (id : Nat) (Q : Exit → St → Prop) : Exit → St → Prop
  | .exit id', σ => if id' = id then Q .normal σ else Q (.exit id') σ
  | e, σ => Q e σ
theorem AWp.skip (h : Q .normal σ) : AWp P T n .skip Q σ := fun _ β _ _ _ _ hC => wp_skip ⟨σ, β, h, hC⟩
theorem AWp.exit {id : Nat} (h : Q (.exit id) σ) : AWp P T n (.exit id) Q σ := fun _ β _ _ _ _ hC => wp_exit ⟨σ, β, h, hC⟩
theorem AWp.ret (h : Q .ret σ) : AWp P T n .ret Q σ := fun _ β _ _ _ _ hC => wp_ret ⟨σ, β, h, hC⟩
theorem AWp.seq {x y : Code} (h : AWp P T n x (EThen (AWp P T n y Q) Q) σ) : AWp P T n (.seq x y) Q σ := by
  intro κ β a w hn hm hC
  refine wp_seq (wp_mono (h κ β a w hn hm hC) fun e a' w' ⟨σ', β', h1, h2⟩ => ?_)
  cases e with
  | normal => exact h1 κ β' a' w' hn hm h2
  | _ => exact ⟨σ', β', h1, h2⟩
theorem AWp.block {id : Nat} {c : Code} (h : AWp P T n c (EBlock id Q) σ) : AWp P T n (.block id c) Q σ := by
  intro κ β a w hn hm hC
  refine wp_block (wp_mono (h κ β a w hn hm hC) fun e a' w' ⟨σ', β', h1, h2⟩ => ?_)
  cases e with
  | exit id' =>
    simp only [EBlock, Exit.inBlock] at h1 ⊢
    split
    · rename_i e; rw [if_pos e] at h1; exact ⟨σ', β', h1, h2⟩
    · rename_i e; rw [if_neg e] at h1; exact ⟨σ', β', h1, h2⟩
  | _ => exact ⟨σ', β', h1, h2⟩
theorem AWp.cond {t : Nat} {x y : Code} {b : Bool} (hb : σ.get t = .raw (.bool b)) (ht : b = true → AWp P T n x Q (σ.put (some t) (.raw (.bool true))))
    (hf : b = false → AWp P T n y Q (σ.put (some t) (.raw (.bool false)))) : AWp P T n (.cond (.tmp t) x y) Q σ := by
  intro κ β a w hn hm hC
  have hr := hC.rel t
  rw [hb] at hr
  have hv := RI.raw_inv hr
  have hput : ∀ c : Bool, b = c → Conc κ β (σ.put (some t) (.raw (.bool c))).get (σ.put (some t) (.raw (.bool c))).blk a w := by
    intro c hc
    obtain ⟨e1, e2⟩ := put_self σ t (.raw (.bool c)) (by rw [hb, hc])
    rw [e1, e2]; exact hC
  refine wp_cond_split (t := b) hv (fun h => ?_) (fun h => ?_)
  · exact ht h κ β a w hn hm (hput true h)
  · exact hf h κ β a w hn hm (hput false h)
theorem AWp.region (hT : TabOK P T) (hS : SOK P S) {id : Nat} {l : List Oper} (hd : dstsB l.toArray n = true) (h : opsA T S l.toArray l (Q .normal) σ) : AWp P T n (.region id l.toArray false) Q σ := by
  intro κ β a w hn hm hC
  refine wp_region_list ?_
  refine opsA_sound (K := Q .normal) hT hS hm (fun σ' β' a' w' h1 h2 => ⟨σ', β', h1, h2⟩) l σ β a w (fun o ho t ht => ?_) h hC
  have := Array.all_eq_true_iff_forall_mem.1 hd o (by simpa using ho)
  rw [ht] at this
  rw [hn]
  simpa using this
theorem AWp.regionD (hT : TabOK P T) (hS : SOK P S) (hmix : P.follows .mixedOrders = true) {id : Nat} {l : List Oper} (hd : dstsB l.toArray n = true) (hok : okN l.toArray = true)
    (h : opsD T S l.toArray l (Q .normal) (cleanD l σ)) : AWp P T n (.region id l.toArray true) Q σ := by
  intro κ β a w hn hm hC
  refine wp_region_any hmix ?_
  have hdd : ∀ (i : Nat) (o : Oper), l.toArray[i]? = some o → ∀ t, o.dst = some t → t < κ.nt := by
    intro i o ho t ht
    have := Array.all_eq_true_iff_forall_mem.1 hd o (Array.mem_of_getElem? ho)
    rw [ht] at this
    rw [hn]
    simpa using this
  have hC' : Conc κ β (cleanD l σ).get (cleanD l σ).blk a { w with drawn := w.drawn + 1 } := (conc_clean l σ hC).below (drew_below w)
  have hinv : Inv l.toArray (Array.replicate l.toArray.size false) ((cleanD l σ).get, (cleanD l σ).blk) := by
    intro i o ho _ hA d hd u
    exact refs_clean l σ o (by simpa using Array.mem_of_getElem? ho) hA d hd u
  have hlex := anyN_lex (T := T) (S := S) (ops := l.toArray) hok (K := Q .normal) l 0 (Array.replicate l.toArray.size false) (cleanD l σ) (by simp) (by simp) (by omega)
    (fun j _ hj => by
      have hj' : j < l.length := by simpa using hj
      simp [Array.getD, hj']) hinv h
  have := wpAny_of_anyN (P := P) (κ := κ) hT hS hok hdd (Q := fun e a' w' => ∃ σ' β', Q e σ' ∧ Conc κ β' σ'.get σ'.blk a' w') (fun s β' a' w' ⟨σ', h1, h2⟩ h3 => ⟨σ', β', h1, by rw [h2] at h3; exact h3⟩)
    l.length _ _ β a { w with drawn := w.drawn + 1 } hC' hinv hlex
  simpa using this
end
end Go.Hl

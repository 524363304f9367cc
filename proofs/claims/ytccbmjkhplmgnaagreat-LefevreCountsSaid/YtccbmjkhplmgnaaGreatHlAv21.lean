/- Weakening, loops, contracts out of bodies. -/
import Derived.Test.YtccbmjkhplmgnaaGreatHlAv20
set_option linter.unusedVariables false
set_option linter.unusedSimpArgs false
namespace Go.Hl
open Go Go.RowKit
def AV.leq (v v' : AV) : Prop := v' = .any ∨ (v = .nul ∧ ((∃ i s, v' = .os i s 0 0) ∨ ∃ k, v' = .ns k [])) ∨ v = v'
def leL (σ : St) : List (Nat × AV) → Prop
  | [] => True
  | (t, v) :: l => AV.leq (σ.get t) v ∧ leL σ l
def leH (σ : St) : List (Nat × Blk) → Prop
  | [] => True
  | (i, b) :: l => σ.blk i = some b ∧ leH σ l
def Le (σ σ' : St) : Prop := ∀ κ β a w, Conc κ β σ.get σ.blk a w → ∃ β', Conc κ β' σ'.get σ'.blk a w
def numd (i : Nat) : List AV → List (Nat × AV)
  | [] => []
  | v :: l => (i, v) :: numd (i + 1) l
def ret1 (T : Tab) (σ : St) (r : ResultVar) (ty : TypeId) : Prop × St × AV :=
  match r with
  | .tmp t => ((expoT T σ (.tmp t)).1, (expoT T σ (.tmp t)).2, argAV T ty ((expoT T σ (.tmp t)).2.get t))
  | .cell t ty' => match σ.get t with
    | .ptr id off => match σ.blk id with
      | some blk => ((ldC T ty' blk.con off).1, σ, (ldC T ty' blk.con off).2)
      | none => (False, σ, .any)
    | _ => (False, σ, .any)
def retL (T : Tab) (σ : St) : List ResultVar → List TypeId → Prop × St × List AV
  | [], _ => (True, σ, [])
  | r :: rs, ty :: ts => ((ret1 T σ r ty).1 ∧ (ret1 T σ r ty).2.2.im = true ∧ (retL T (ret1 T σ r ty).2.1 rs ts).1, (retL T (ret1 T σ r ty).2.1 rs ts).2.1, (ret1 T σ r ty).2.2 :: (retL T (ret1 T σ r ty).2.1 rs ts).2.2)
  | _ :: _, [] => (False, σ, [])
def oneOf : List AV → AV
  | [v] => v
  | l => .tup l
def Post (T : Tab) (fn : Func) (r : AV) (e : Exit) (σ : St) : Prop :=
  (e = .normal ∨ e = .ret) ∧ (retL T σ fn.results.toList fn.resultTypes.toList).1 ∧ oneOf (retL T σ fn.results.toList fn.resultTypes.toList).2.2 = r
section
variable {P : Program} {T : Tab} {S : FuncId → Option Sp} {κ : Ctx} {β : Nat → Option (Nat × Nat)} {F F' : Nat → AV} {G G' : Nat → Option Blk} {a : Act} {w : World} {X : Nat → Prop} {n : Nat} {Q : Exit → St → Prop} {σ σ' : St}
theorem RV.leq {v v' : AV} {x : Value} (h : AV.leq v v') (hv : RV κ β G w v x) : RV κ β G w v' x := by
  rcases h with rfl | ⟨rfl, h⟩ | rfl
  · exact RI.any _
  · cases hv with
    | nul ad =>
      rcases h with ⟨i, s, rfl⟩ | ⟨k, rfl⟩
      · exact ⟨ad, 0, rfl, Nat.le_refl _, fun _ _ => .inl rfl⟩
      · exact RI.ns k [] ad 0 0 0 (by simp) (by simp) (by simp)
  · exact hv
theorem leL_get {fr : List (Nat × AV)} (h : leL σ fr) (t : Nat) : AV.leq (σ.get t) ((lk fr t).getD .any) := by
  induction fr with
  | nil => exact .inl (by simp [lk])
  | cons p l ih =>
    obtain ⟨k, v⟩ := p
    simp only [leL] at h
    simp only [lk]
    split
    · rename_i e; subst e; exact h.1
    · exact ih h.2
theorem leH_blk {hp : List (Nat × Blk)} (h : leH σ hp) (i : Nat) : lk hp i = σ.blk i ∨ lk hp i = none := by
  induction hp with
  | nil => exact .inr rfl
  | cons p l ih =>
    obtain ⟨k, b⟩ := p
    simp only [leH] at h
    simp only [lk]
    split
    · rename_i e; subst e; exact .inl h.1.symm
    · exact ih h.2
theorem Le.of (h1 : leL σ σ'.fr) (h2 : leH σ σ'.hp) : Le σ σ' := by
  intro κ β a w h
  have h' := h.drop (G' := σ'.blk) (leH_blk h2)
  exact ⟨β, h'.sz, fun t => RV.leq (leL_get h1 t) (h'.rel t), h'.dfr, h'.hp, h'.sep, h'.chg, h'.x0⟩
theorem Le.refl (σ : St) : Le σ σ := fun _ β _ _ h => ⟨β, h⟩
theorem Le.trans {σ1 σ2 σ3 : St} (h : Le σ1 σ2) (k : Le σ2 σ3) : Le σ1 σ3 := fun κ β a w hc => let ⟨β', h'⟩ := h κ β a w hc; k κ β' a w h'
theorem Le.bare {id : Nat} {con : Con} (hl : con.len = 0) : Le σ ((σ.kill id).setB id ⟨true, con⟩) := by
  intro κ β a w h
  refine ⟨upd β id none, ?_⟩
  rw [St.get_setB, St.blk_setB]
  exact (h.killed id).bare (refs_kill σ id) hl
theorem AWp.weak {c : Code} (hl : Le σ σ') (h : AWp P T n c Q σ') : AWp P T n c Q σ := fun κ β a w hn hm hC =>
  let ⟨β', hC'⟩ := hl κ β a w hC
  h κ β' a w hn hm hC'
theorem wp_loop_ix {ι : Type} {c : Code} {Q : Exit → Act → World → Prop} (I : ι → Act → World → Prop) (μ : ι → Nat) (i₀ : ι) (h₀ : I i₀ a w)
    (round : ∀ i a w, I i a w → c.wp P (Exit.then (fun a' w' => ∃ j, I j a' w' ∧ μ j < μ i) Q) a w) : (Code.loop c).wp P Q a w := by
  intro b k cs
  have key : ∀ n i a w, μ i = n → I i a w →
      ∃ e a' w', Q e a' w' ∧ Arrives P (lone (b.at a (.code c :: .inLoop c :: k)) cs w) b k cs e a' w' := by
    intro n
    induction n using Nat.strongRecOn with
    | _ n ih =>
      intro i a w hn hI
      obtain ⟨e, a₁, w₁, hq, harr⟩ := round i a w hI b (.inLoop c :: k) cs
      cases e with
      | normal =>
        obtain ⟨j, hI₁, hlt⟩ := hq
        obtain ⟨e₂, a₂, w₂, hq₂, harr₂⟩ := ih (μ j) (hn ▸ hlt) j a₁ w₁ rfl hI₁
        exact ⟨e₂, a₂, w₂, hq₂, .of_steps (Steps.trans harr (.one step_inLoop)) harr₂⟩
      | exit id => exact ⟨_, a₁, w₁, hq, .pass (x := .inLoop c) rfl (fun _ _ => .inl (by simp)) harr⟩
      | goto l => exact ⟨_, a₁, w₁, hq, .pass (x := .inLoop c) rfl (fun _ _ => .inl (by simp)) harr⟩
      | ret => exact ⟨_, a₁, w₁, hq, .pass (x := .inLoop c) rfl (fun _ _ => .inl (by simp)) harr⟩
      | panic ch => exact ⟨_, a₁, w₁, hq, .pass (x := .inLoop c) rfl (fun _ _ => .inl (by simp)) harr⟩
      | outgrown => exact ⟨_, a₁, w₁, hq, .pass (x := .inLoop c) rfl (fun _ _ => .inl (by simp)) harr⟩
  obtain ⟨e, a', w', hq, harr⟩ := key _ i₀ a w rfl h₀
  exact ⟨e, a', w', hq, .of_steps (.one step_loop) harr⟩
theorem AWp.loop {ι : Type} {c : Code} (st : ι → St) (μ : ι → Nat) (i₀ : ι) (h₀ : Le σ (st i₀))
    (round : ∀ i, AWp P T n c (EThen (fun σ' => ∃ j, Le σ' (st j) ∧ μ j < μ i) Q) (st i)) : AWp P T n (.loop c) Q σ := by
  intro κ β a w hn hm hC
  obtain ⟨β₀, hC₀⟩ := h₀ κ β a w hC
  refine wp_loop_ix (fun i a w => ∃ β, Conc κ β (st i).get (st i).blk a w) μ i₀ ⟨β₀, hC₀⟩ (fun i a w ⟨β, hC⟩ => ?_)
  refine wp_mono (round i κ β a w hn hm hC) fun e a' w' ⟨σ', β', h1, h2⟩ => ?_
  cases e with
  | normal =>
    obtain ⟨j, hl, hlt⟩ := h1
    obtain ⟨β'', h3⟩ := hl κ β' a' w' h2
    exact ⟨j, ⟨β'', h3⟩, hlt⟩
  | _ => exact ⟨σ', β', h1, h2⟩
theorem ret1_sound (hT : TabOK P T) (hmu : T.mu = false → κ.mu = none) (h : Conc κ β σ.get σ.blk a w) {r : ResultVar} {ty : TypeId} (hp : (ret1 T σ r ty).1) (him : (ret1 T σ r ty).2.2.im = true) :
    Conc κ β (ret1 T σ r ty).2.1.get (ret1 T σ r ty).2.1.blk a w ∧
    ∃ v, ((match r with | .tmp t => pure (a.tmps.getD t undef) | .cell q t => do loadVar t (← asAddr (a.tmps.getD q undef))) : Sem Value).run P w = .ok v w ∧
      RI w (XG κ β (ret1 T σ r ty).2.1.blk) (ret1 T σ r ty).2.2 v := by
  unfold ret1 at *
  cases r with
  | tmp t =>
    simp only at hp him ⊢
    have h1 := expo_sound hmu h hp
    exact ⟨h1, _, rfl, arg_sound (h1.rel t) him⟩
  | cell t ty' =>
    have hr := h.rel t
    simp only at hp him ⊢
    split at hp
    · rename_i id off hv
      rw [hv] at hr
      split at hp
      · rename_i blk hG
        simp only [hv, hG] at him ⊢
        refine ⟨h, ?_⟩
        obtain ⟨b, base, hb, he⟩ := hr blk hG
        have hld := load_sound (x := .tmp t) hT h (t := ty') (r := ldC T ty' blk.con off) (by simp only [ev, hv, hG]) hp
        obtain ⟨z, z1, z2⟩ := hld
        refine ⟨z, ?_, RV.ri him z2⟩
        have e : a.eval (.tmp t) = a.tmps.getD t undef := rfl
        rw [e, he] at z1
        rw [he]
        simp only [Instr.loadAt, Instr.sureAddr, Sem.run_bind, Sem.run_pure, Result.andThen_ok] at z1
        exact z1
      · exact False.elim hp
    · exact False.elim hp
theorem retL_sound (hT : TabOK P T) (hmu : T.mu = false → κ.mu = none) : ∀ (rs : List ResultVar) (ts : List TypeId) (σ : St), Conc κ β σ.get σ.blk a w → (retL T σ rs ts).1 →
    Conc κ β (retL T σ rs ts).2.1.get (retL T σ rs ts).2.1.blk a w ∧
    ∃ vs : List Value, (rs.mapM (fun r => (match r with | .tmp t => pure (a.tmps.getD t undef) | .cell q t => do loadVar t (← asAddr (a.tmps.getD q undef)) : Sem Value))).run P w = .ok vs w ∧
      vs.length = (retL T σ rs ts).2.2.length ∧ ∀ (j : Nat) (c : AV), (retL T σ rs ts).2.2[j]? = some c → ∃ v : Value, vs[j]? = some v ∧ RI w (XG κ β (retL T σ rs ts).2.1.blk) c v
  | [], ts, σ, h, _ => by
    cases ts <;> exact ⟨h, [], by simp, rfl, fun j c hj => by simp [retL] at hj⟩
  | _ :: _, [], _, _, hp => False.elim hp
  | r :: rs, ty :: ts, σ, h, hp => by
    obtain ⟨p1, p2, p3⟩ := hp
    obtain ⟨h1, v, v1, v2⟩ := ret1_sound hT hmu h p1 p2
    obtain ⟨h2, vs, w1, w2, w3⟩ := retL_sound hT hmu rs ts _ h1 p3
    refine ⟨h2, v :: vs, ?_, by simp [retL, w2], fun j c hj => ?_⟩
    · simp only [List.mapM_cons, Sem.run_bind, v1, Result.andThen_ok, w1, Sem.run_pure]
    · cases j with
      | zero =>
        simp only [retL, List.getElem?_cons_zero, Option.some.injEq] at hj
        subst hj
        refine ⟨v, rfl, v2.keep (Keep.refl _ _) (fun b _ hb => ?_)⟩
        have : ∀ (rs : List ResultVar) (ts : List TypeId) (σ : St) b, XG κ β (retL T σ rs ts).2.1.blk b → XG κ β σ.blk b := by
          intro rs
          induction rs with
          | nil => intro ts σ b hb; cases ts <;> exact hb
          | cons r rs ih =>
            intro ts σ b hb
            cases ts with
            | nil => exact hb
            | cons ty ts =>
              have := ih ts _ b hb
              unfold ret1 at this
              cases r with
              | tmp t =>
                simp only [expoT] at this
                split at this
                · split at this
                  · rw [St.blk_put, blk_settle] at this; exact this.settle
                  · rw [St.blk_put, blk_settle] at this; exact this.settle
                  · exact this
                · split at this
                  · rw [St.blk_put, blk_settle] at this; exact this.settle
                  · exact this
                · exact this
              | cell t ty' =>
                simp only at this
                split at this
                · split at this <;> exact this
                · exact this
        exact this rs ts _ b hb
      | succ j => simpa [retL] using w3 j c (by simpa [retL] using hj)
theorem results_sound (hT : TabOK P T) (hmu : T.mu = false → κ.mu = none) (h : Conc κ β σ.get σ.blk a w) {fn : Func} {r : AV} (hp : (retL T σ fn.results.toList fn.resultTypes.toList).1)
    (hr : oneOf (retL T σ fn.results.toList fn.resultTypes.toList).2.2 = r) : ∃ v, (results fn a.tmps).run P w = .ok v w ∧ RI w κ.X0 r v := by
  obtain ⟨h1, vs, w1, w2, w3⟩ := retL_sound hT hmu fn.results.toList fn.resultTypes.toList σ h hp
  have hX : ∀ c v, RI w (XG κ β (retL T σ fn.results.toList fn.resultTypes.toList).2.1.blk) c v → RI w κ.X0 c v := fun c v hh => hh.keep (Keep.refl _ _) (fun b _ hb => .inl hb)
  have hrun : (results fn a.tmps).run P w = .ok (if h : vs.toArray.size = 1 then vs.toArray[0] else .tuple vs.toArray) w := by
    unfold results
    rw [Array.mapM_eq_mapM_toList]
    simp only [Sem.run_bind, Sem.run_map]
    erw [w1]
    rfl
  refine ⟨_, hrun, ?_⟩
  generalize (retL T σ fn.results.toList fn.resultTypes.toList).2.2 = l at *
  subst hr
  have htup : l.length ≠ 1 → RI w κ.X0 (.tup l) (.tuple vs.toArray) := by
    intro _
    have hex : ∀ j : Nat, ∃ u : Value, ∀ c : AV, l[j]? = some c → vs[j]? = some u ∧ RI w κ.X0 c u := by
      intro j
      cases hj : l[j]? with
      | none => exact ⟨undef, fun c hc => by cases hc⟩
      | some c =>
        obtain ⟨u, q1, q2⟩ := w3 j c hj
        exact ⟨u, fun c' hc' => by simp only [Option.some.injEq] at hc'; subst hc'; exact ⟨q1, hX _ _ q2⟩⟩
    obtain ⟨g, hg⟩ := Classical.axiomOfChoice hex
    exact RI.tup l vs.toArray g (by simpa using w2) (fun j c hj => by simpa using (hg j c hj).1) (fun j c hj => (hg j c hj).2)
  match l, vs, w2, w3, htup with
  | [], vs, w2, _, htup =>
    have : vs = [] := List.eq_nil_of_length_eq_zero (by simpa using w2)
    subst this
    simpa [oneOf] using htup (by simp)
  | [c], vs, w2, w3, _ =>
    obtain ⟨u, q1, q2⟩ := w3 0 c rfl
    obtain ⟨v, rfl⟩ : ∃ v, vs = [v] := by
      match vs, w2 with
      | [v], _ => exact ⟨v, rfl⟩
    simp only [List.getElem?_cons_zero, Option.some.injEq] at q1
    subst q1
    exact hX _ _ q2
  | c :: d :: l, vs, w2, w3, htup =>
    have hne : ¬ vs.toArray.size = 1 := by simp at w2 ⊢; omega
    rw [dif_neg hne]
    exact htup (by simp)
theorem lk_numd : ∀ (l : List AV) (i t : Nat), lk (numd i l) t = if i ≤ t then l[t - i]? else none
  | [], i, t => by simp [numd, lk]
  | v :: l, i, t => by
    simp only [numd, lk]
    by_cases h : i = t
    · subst h; simp
    · rw [if_neg h, lk_numd l (i + 1) t]
      by_cases h1 : i + 1 ≤ t
      · rw [if_pos h1, if_pos (by omega)]
        have : t - i = (t - (i + 1)) + 1 := by omega
        rw [this, List.getElem?_cons_succ]
      · rw [if_neg h1, if_neg (by omega)]
theorem run_callFunc_body {f : FuncId} {fn : Func} {c : Code} (hf : P.funcs[f]? = some fn) (hb : fn.body = some c) (hname : (fn.name == "runtime.NumGoroutine") = false) (vs : Array Value) (w : World) :
    (callFunc f vs).run P w = .ok (.enter f vs) w := by
  simp only [callFunc, Sem.run_bind, run_program, Result.andThen_ok, hf, hname, Bool.false_eq_true, if_false, hb, Option.isNone_some]
  rfl
theorem conc_start {args : List AV} {n : Nat} {vs : Array Value} (him : args.all AV.im = true) (hn : args.length ≤ n) (hX : ∀ b, X b → b < w.heap.size) (hl : vs.size = args.length)
    (hr : ∀ (j : Nat) (c : AV), args[j]? = some c → ∃ v : Value, vs[j]? = some v ∧ RI w X c v) :
    Conc ⟨n, w, X, none⟩ (fun _ => none) (St.get ⟨numd 0 args, []⟩) (St.blk ⟨numd 0 args, []⟩) { tmps := vs ++ Array.replicate (n - vs.size) undef, defers := [] } w := by
  refine ⟨by simp; omega, fun t => ?_, rfl, fun id blk hi => (by cases hi), fun i j b c x y _ hx => (by cases hx), ⟨rfl, rfl, rfl, Nat.le_refl _, fun _ _ _ => rfl, fun _ _ _ hm => (by cases hm)⟩, hX⟩
  simp only [St.get, lk_numd, Nat.zero_le, if_true, Nat.sub_zero]
  cases hc : args[t]? with
  | none => exact RI.any _
  | some c =>
    obtain ⟨v, hv, hrv⟩ := hr t c hc
    have hlt : t < vs.size := (Array.getElem?_eq_some_iff.1 hv).1
    have hci : c.im = true := List.all_eq_true.1 him c (List.mem_of_getElem? hc)
    simp only [Option.getD_some]
    refine RV.of hci ?_
    have e : (vs ++ Array.replicate (n - vs.size) undef).getD t undef = v := by
      rw [Array.getD_eq_getD_getElem?, Array.getElem?_append_left hlt, hv]; rfl
    rw [e]
    refine hrv.keep (Keep.refl _ _) (fun b _ hb => ?_)
    rcases hb with hb | ⟨_, _, _, hg, _⟩
    · exact hb
    · cases hg
theorem ACall.intro (hT : TabOK P T) {f : FuncId} {fn : Func} {c : Code} {args : List AV} {r : AV} (hf : P.funcs[f]? = some fn) (hb : fn.body = some c) (hname : (fn.name == "runtime.NumGoroutine") = false)
    (him : args.all AV.im = true) (hn : args.length ≤ fn.ntmps) (h : AWp P T fn.ntmps c (Post T fn r) ⟨numd 0 args, []⟩) : ACall P f args r := by
  intro w X vs hX hl hr
  refine .inr ⟨run_callFunc_body hf hb hname vs w, ?_⟩
  refine calls_of_wp hf hb ?_
  have hC := conc_start (n := fn.ntmps) him hn hX hl hr
  refine wp_mono (h _ _ _ w rfl (fun _ => rfl) hC) fun e a' w' ⟨σ', β', ⟨he, h1, h2⟩, hC'⟩ => ?_
  obtain ⟨v, v1, v2⟩ := results_sound hT (fun _ => rfl) hC' h1 h2
  have hbel : Below w.heap.size w w' := ⟨hC'.chg.os, hC'.chg.tape, hC'.chg.output, hC'.chg.size, fun k hk => hC'.chg.old k hk (fun _ _ h => by cases h)⟩
  have key : a'.defers = [] ∧ ∃ v, (results fn a'.tmps).run P w' = .ok v w' ∧ ∃ v_1, Ending.returned v = .returned v_1 ∧ RI w' X r v_1 ∧ Below w.heap.size w w' :=
    ⟨hC'.dfr, v, v1, v, rfl, v2, hbel⟩
  rcases he with rfl | rfl
  · exact key
  · exact key
end
end Go.Hl

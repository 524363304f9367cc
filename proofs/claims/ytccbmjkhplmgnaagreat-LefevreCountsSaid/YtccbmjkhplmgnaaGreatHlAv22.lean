/- The rules in the form in which proofs use them. -/
import Derived.Test.YtccbmjkhplmgnaaGreatHlAv21
set_option linter.unusedVariables false
set_option linter.unusedSimpArgs false
namespace Go.Hl
open Go Go.RowKit
def gsOf (ops : Array Oper) : List Oper → List (Option (Option Nat × Bool))
  | [] => []
  | o :: os => (match o.guard with | none => none | some (j, want) => some ((ops[j]?).bind (·.dst), want)) :: gsOf ops os
def guardG (g : Option (Option Nat × Bool)) (σ : St) (yes no : St → Prop) : Prop :=
  match g with
  | none => yes σ
  | some (none, _) => no σ
  | some (some t, want) => match σ.get t with
    | .raw (.bool b) => (b = want → yes (σ.put (some t) (.raw (.bool want)))) ∧ (b = !want → no (σ.put (some t) (.raw (.bool (!want)))))
    | .raw _ => no σ
    | _ => False
def opsG (T : Tab) (S : FuncId → Option Sp) : List Oper → List (Option (Option Nat × Bool)) → (St → Prop) → St → Prop
  | [], _, K, σ => K σ
  | _ :: _, [], _, _ => False
  | o :: os, g :: gs, K, σ => guardG g σ (fun σ => (st1 T S o σ).1 ∧ opsG T S os gs K (st1 T S o σ).2) (fun σ => opsG T S os gs K (σ.put o.dst (.raw undef)))
def opsE (T : Tab) (S : FuncId → Option Sp) : List Oper → List (Option (Option Nat × Bool)) → (St → Prop) → St → Prop
  | [], _, K, σ => K σ
  | _ :: _, [], _, _ => False
  | o :: os, g :: gs, K, σ => guardG g σ (fun σ => (stD T S o σ).1 ∧ opsE T S os gs K (stD T S o σ).2) (fun σ => opsE T S os gs K (σ.put o.dst (.raw undef)))
theorem AV.leq_self (v : AV) : AV.leq v v = True := eq_true (.inr (.inr rfl))
theorem AV.leq_nul_os (i s : Nat) : AV.leq .nul (.os i s 0 0) = True := eq_true (.inr (.inl ⟨rfl, .inl ⟨i, s, rfl⟩⟩))
theorem AV.leq_nul_ns (k : IntKind) : AV.leq .nul (.ns k []) = True := eq_true (.inr (.inl ⟨rfl, .inr ⟨k, rfl⟩⟩))
theorem AV.leq_any (v : AV) : AV.leq v .any = True := eq_true (.inl rfl)
def PostL (T : Tab) (rs : List ResultVar) (ts : List TypeId) (r : AV) (e : Exit) (σ : St) : Prop :=
  (e = .normal ∨ e = .ret) ∧ (retL T σ rs ts).1 ∧ oneOf (retL T σ rs ts).2.2 = r
def mkS (l : List (Nat × Sp)) : FuncId → Option Sp := fun f => lk l f
def SpOK (P : Program) (f : FuncId) (sp : Sp) : Prop := ∀ args, sp.pre args →
  (sp.kind = 0 → ACall P f args (sp.res args)) ∧ (sp.kind = 1 → FCall P f args (sp.res args)) ∧ (sp.kind = 2 → MCall P f args (sp.res args))
theorem SOK.nil {P : Program} : SOK P (mkS []) := fun f sp h => by cases h
theorem SOK.cons {P : Program} {f : FuncId} {sp : Sp} {l : List (Nat × Sp)} (h : SpOK P f sp) (k : SOK P (mkS l)) : SOK P (mkS ((f, sp) :: l)) := by
  intro g sp' hg
  simp only [mkS, lk] at hg
  split at hg
  · rename_i e; subst e; cases hg; exact h
  · exact k g sp' hg
theorem SpOK.zero {P : Program} {f : FuncId} {sp : Sp} (hk : sp.kind = 0) (h : ∀ args, sp.pre args → ACall P f args (sp.res args)) : SpOK P f sp :=
  fun args hp => ⟨fun _ => h args hp, fun e => (by rw [hk] at e; cases e), fun e => (by rw [hk] at e; cases e)⟩
theorem SpOK.one {P : Program} {f : FuncId} {sp : Sp} (hk : sp.kind = 1) (h : ∀ args, sp.pre args → FCall P f args (sp.res args)) : SpOK P f sp :=
  fun args hp => ⟨fun e => (by rw [hk] at e; cases e), fun _ => h args hp, fun e => (by rw [hk] at e; cases e)⟩
theorem SpOK.two {P : Program} {f : FuncId} {sp : Sp} (hk : sp.kind = 2) (h : ∀ args, sp.pre args → MCall P f args (sp.res args)) : SpOK P f sp :=
  fun args hp => ⟨fun e => (by rw [hk] at e; cases e), fun e => (by rw [hk] at e; cases e), fun _ => h args hp⟩
theorem ACall.of {P : Program} {T : Tab} (hT : TabOK P T) {f : FuncId} {fn : Func} {c : Code} {args : List AV} {r : AV} {n : Nat} {rs : List ResultVar} {ts : List TypeId} (hf : P.funcs[f]? = some fn) (hb : fn.body = some c)
    (hname : (fn.name == "runtime.NumGoroutine") = false) (hnt : fn.ntmps = n) (hrs : fn.results.toList = rs) (hts : fn.resultTypes.toList = ts)
    (him : args.all AV.im = true) (hn : args.length ≤ n) (h : AWp P T n c (PostL T rs ts r) ⟨numd 0 args, []⟩) : ACall P f args r := by
  subst hnt; subst hrs; subst hts
  exact ACall.intro hT hf hb hname him hn h
section
variable {P : Program} {T : Tab} {S : FuncId → Option Sp} {n : Nat} {Q : Exit → St → Prop} {σ : St}
theorem withGuard_G (ops : Array Oper) (o : Oper) (σ : St) (yes no : St → Prop) :
    withGuard ops o σ yes no = guardG (match o.guard with | none => none | some (j, want) => some ((ops[j]?).bind (·.dst), want)) σ yes no := by
  unfold withGuard
  cases o.guard with
  | none => rfl
  | some p =>
    obtain ⟨j, want⟩ := p
    simp only
    cases (ops[j]?).bind (·.dst) with
    | none => rfl
    | some t => rfl
theorem opsA_G (ops : Array Oper) {K : St → Prop} : ∀ (l : List Oper) (σ : St), opsA T S ops l K σ = opsG T S l (gsOf ops l) K σ
  | [], _ => rfl
  | o :: l, σ => by
    simp only [opsA, gsOf, opsG, withGuard_G, opsA_G ops l]
theorem opsD_G (ops : Array Oper) {K : St → Prop} : ∀ (l : List Oper) (σ : St), opsD T S ops l K σ = opsE T S l (gsOf ops l) K σ
  | [], _ => rfl
  | o :: l, σ => by
    simp only [opsD, gsOf, opsE, withGuard_G, opsD_G ops l]
theorem AWp.reg (hT : TabOK P T) (hS : SOK P S) {id : Nat} {l : List Oper} (gs : List (Option (Option Nat × Bool))) (hd : dstsB l.toArray n = true) (hg : gsOf l.toArray l = gs)
    (h : opsG T S l gs (Q .normal) σ) : AWp P T n (.region id l.toArray false) Q σ :=
  AWp.region hT hS hd (by rw [opsA_G, hg]; exact h)
theorem AWp.regD (hT : TabOK P T) (hS : SOK P S) (hmix : P.follows .mixedOrders = true) {id : Nat} {l : List Oper} (gs : List (Option (Option Nat × Bool))) (hd : dstsB l.toArray n = true) (hok : okN l.toArray = true) (hg : gsOf l.toArray l = gs)
    (h : opsE T S l gs (Q .normal) (cleanD l σ)) : AWp P T n (.region id l.toArray true) Q σ :=
  AWp.regionD hT hS hmix hd hok (by rw [opsD_G, hg]; exact h)
theorem AWp.seqReg (hT : TabOK P T) (hS : SOK P S) {id : Nat} {l : List Oper} {y : Code} (gs : List (Option (Option Nat × Bool))) (hd : dstsB l.toArray n = true) (hg : gsOf l.toArray l = gs)
    (h : ∀ K : St → Prop, (∀ σ, AWp P T n y Q σ → K σ) → opsG T S l gs K σ) : AWp P T n (.seq (.region id l.toArray false) y) Q σ :=
  .seq (.reg hT hS gs hd hg (h _ fun _ h => h))
theorem AWp.seqRegD (hT : TabOK P T) (hS : SOK P S) (hmix : P.follows .mixedOrders = true) {id : Nat} {l : List Oper} {y : Code} (gs : List (Option (Option Nat × Bool))) (hd : dstsB l.toArray n = true) (hok : okN l.toArray = true) (hg : gsOf l.toArray l = gs)
    (h : ∀ K : St → Prop, (∀ σ, AWp P T n y Q σ → K σ) → opsE T S l gs K (cleanD l σ)) : AWp P T n (.seq (.region id l.toArray true) y) Q σ :=
  .seq (.regD hT hS hmix gs hd hok hg (h _ fun _ h => h))
theorem AWp.lastReg (hT : TabOK P T) (hS : SOK P S) {id : Nat} {l : List Oper} (gs : List (Option (Option Nat × Bool))) (hd : dstsB l.toArray n = true) (hg : gsOf l.toArray l = gs)
    (h : ∀ K : St → Prop, (∀ σ, Q .normal σ → K σ) → opsG T S l gs K σ) : AWp P T n (.region id l.toArray false) Q σ :=
  .reg hT hS gs hd hg (h _ fun _ h => h)
theorem AWp.lastRegD (hT : TabOK P T) (hS : SOK P S) (hmix : P.follows .mixedOrders = true) {id : Nat} {l : List Oper} (gs : List (Option (Option Nat × Bool))) (hd : dstsB l.toArray n = true) (hok : okN l.toArray = true) (hg : gsOf l.toArray l = gs)
    (h : ∀ K : St → Prop, (∀ σ, Q .normal σ → K σ) → opsE T S l gs K (cleanD l σ)) : AWp P T n (.region id l.toArray true) Q σ :=
  .regD hT hS hmix gs hd hok hg (h _ fun _ h => h)
theorem AWp.condB {t : Nat} {x y : Code} {b : Bool} (hb : σ.get t = .raw (.bool b)) (h : AWp P T n (if b then x else y) Q σ) : AWp P T n (.cond (.tmp t) x y) Q σ := by
  have hput : ∀ {c : Code}, AWp P T n c Q σ → AWp P T n c Q (σ.put (some t) (.raw (.bool b))) := by
    intro c h κ β a w hn hm hC
    refine h κ β a w hn hm ?_
    have e : (σ.put (some t) (.raw (.bool b))).get = σ.get := by
      rw [St.get_put]
      funext u
      simp only [updO, upd]
      split
      · rename_i e; subst e; exact hb.symm
      · rfl
    rw [e, St.blk_put] at hC
    exact hC
  refine AWp.cond hb (fun e => ?_) (fun e => ?_)
  · subst e; exact hput h
  · subst e; exact hput h
theorem AWp.condT {t : Nat} {x y : Code} (hb : σ.get t = .raw (.bool true)) (h : AWp P T n x Q σ) : AWp P T n (.cond (.tmp t) x y) Q σ := .condB hb h
theorem AWp.condF {t : Nat} {x y : Code} (hb : σ.get t = .raw (.bool false)) (h : AWp P T n y Q σ) : AWp P T n (.cond (.tmp t) x y) Q σ := .condB hb h
variable {K : St → Prop} {o : Oper} {os : List Oper} {gs : List (Option (Option Nat × Bool))} {t : Nat} {b : Bool} {p : Prop} {σ1 σ' : St}
theorem opsG.nil (h : K σ) : opsG T S [] gs K σ := h
theorem opsG.cons (h : st1 T S o σ = (p, σ')) (hp : p) (k : opsG T S os gs K σ') : opsG T S (o :: os) (none :: gs) K σ := by
  simp only [opsG, guardG, h]; exact ⟨hp, k⟩
theorem opsG.yes (hb : σ.get t = .raw (.bool b)) (hs : σ.put (some t) (.raw (.bool b)) = σ1) (h : st1 T S o σ1 = (p, σ')) (hp : p) (k : opsG T S os gs K σ') : opsG T S (o :: os) (some (some t, b) :: gs) K σ := by
  subst hs
  simp only [opsG, guardG, hb, h]
  exact ⟨fun _ => ⟨hp, k⟩, fun h => by cases b <;> cases h⟩
theorem opsG.no {c : Bool} (hb : σ.get t = .raw (.bool c)) (hc : c = !b) (hs : (σ.put (some t) (.raw (.bool (!b)))).put o.dst (.raw undef) = σ') (k : opsG T S os gs K σ') : opsG T S (o :: os) (some (some t, b) :: gs) K σ := by
  subst hc; subst hs
  simp only [opsG, guardG, hb]
  exact ⟨fun h => (by cases b <;> cases h), fun _ => k⟩
theorem opsG.un {v : Value} (hb : σ.get t = .raw v) (hc : boolOf v = none) (hs : σ.put o.dst (.raw undef) = σ') (k : opsG T S os gs K σ') : opsG T S (o :: os) (some (some t, b) :: gs) K σ := by
  subst hs
  simp only [opsG, guardG, hb]
  split
  · rename_i e; cases e; cases hc
  · exact k
  · rename_i e; exact (e v rfl).elim
theorem opsE.nil (h : K σ) : opsE T S [] gs K σ := h
theorem opsE.cons (h : stD T S o σ = (p, σ')) (hp : p) (k : opsE T S os gs K σ') : opsE T S (o :: os) (none :: gs) K σ := by
  simp only [opsE, guardG, h]; exact ⟨hp, k⟩
theorem opsE.yes (hb : σ.get t = .raw (.bool b)) (hs : σ.put (some t) (.raw (.bool b)) = σ1) (h : stD T S o σ1 = (p, σ')) (hp : p) (k : opsE T S os gs K σ') : opsE T S (o :: os) (some (some t, b) :: gs) K σ := by
  subst hs
  simp only [opsE, guardG, hb, h]
  exact ⟨fun _ => ⟨hp, k⟩, fun h => by cases b <;> cases h⟩
theorem opsE.no {c : Bool} (hb : σ.get t = .raw (.bool c)) (hc : c = !b) (hs : (σ.put (some t) (.raw (.bool (!b)))).put o.dst (.raw undef) = σ') (k : opsE T S os gs K σ') : opsE T S (o :: os) (some (some t, b) :: gs) K σ := by
  subst hc; subst hs
  simp only [opsE, guardG, hb]
  exact ⟨fun h => (by cases b <;> cases h), fun _ => k⟩
theorem opsE.un {v : Value} (hb : σ.get t = .raw v) (hc : boolOf v = none) (hs : σ.put o.dst (.raw undef) = σ') (k : opsE T S os gs K σ') : opsE T S (o :: os) (some (some t, b) :: gs) K σ := by
  subst hs
  simp only [opsE, guardG, hb]
  split
  · rename_i e; cases e; cases hc
  · exact k
  · rename_i e; exact (e v rfl).elim
end
end Go.Hl

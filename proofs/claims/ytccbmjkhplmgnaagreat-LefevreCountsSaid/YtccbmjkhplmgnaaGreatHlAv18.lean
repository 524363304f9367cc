/- Regions that draw their order: any order comes to what the order of the text comes to. -/
import Derived.Test.YtccbmjkhplmgnaaGreatHlAv17
set_option linter.unusedVariables false
set_option linter.unusedSimpArgs false
namespace Go.Hl
open Go Go.RowKit
abbrev NS := (Nat → AV) × (Nat → Option Blk)
def isAlloc : Op → Bool | .alloc _ => true | _ => false
def isStore : Op → Bool | .store _ _ _ => true | _ => false
def gfree : Op → Bool
  | .load _ _ | .fieldAddr _ _ _ | .indexAddr _ _ _ | .alloc _ | .store _ _ _ => false
  | _ => true
def gw (ops : Array Oper) (F : Nat → AV) (o : Oper) : Option Bool :=
  match o.guard with
  | none => some true
  | some (j, want) => match (ops[j]?).bind (·.dst) with
    | none => some false
    | some t => match F t with
      | .raw (.bool b) => some (b == want)
      | .raw _ => some false
      | _ => none
inductive Ef where
  | put (v : AV)
  | all (z : List AV)
  | sto (id : Nat) (c : Blk)
def apE (d : Option Nat) (e : Ef) (s : NS) : NS :=
  match e with
  | .put v => (updO s.1 d v, s.2)
  | .all z => match d with
    | some d => (upd s.1 d (.ptr d 0), upd s.2 d (some ⟨true, .c z⟩))
    | none => s
  | .sto id c => (s.1, upd s.2 id (some c))
def efF (T : Tab) (S : FuncId → Option Sp) (ops : Array Oper) (o : Oper) (s : NS) : Prop × Ef :=
  match gw ops s.1 o with
  | none => (False, .put .any)
  | some false => (True, .put (.raw undef))
  | some true => match o.op with
    | .alloc t => match T.zr t with
      | some z => (o.dst.isSome = true, .all z)
      | none => (False, .put .any)
    | .store t p v => match ev s.1 p, (ev s.1 v).cells with
      | .ptr id off, some vs => match s.2 id with
        | some ⟨true, con⟩ => match con.puts off vs with
          | some con' => (o.dst = none ∧ off + vs.length ≤ con.len ∧ (T.vr t = some none ∧ vs.length = 1 ∨ T.vr t = some (some vs.length)), .sto id ⟨true, con'⟩)
          | none => (False, .put .any)
        | _ => (False, .put .any)
      | _, _ => (False, .put .any)
    | _ => ((qd T S s.1 s.2 o).1, .put (qd T S s.1 s.2 o).2)
def apartN (ops : Array Oper) (x y : Oper) : Bool :=
  x.apart ops y && !(isStore x.op && (isStore y.op || !gfree y.op)) && !(isStore y.op && !gfree x.op)
section
variable {P : Program} {T : Tab} {S : FuncId → Option Sp} {κ : Ctx} {β : Nat → Option (Nat × Nat)} {F F' : Nat → AV} {G G' : Nat → Option Blk} {a : Act} {w : World} {X : Nat → Prop} {ops : Array Oper} {md : Region.Mode}
theorem updO_other {F : Nat → AV} {d : Option Nat} {v : AV} {t : Nat} (h : ∀ e, d = some e → e ≠ t) : updO F d v t = F t := by
  cases d with
  | none => rfl
  | some e => exact upd_other _ _ (h e rfl)
theorem updO_comm {F : Nat → AV} {d e : Option Nat} {u v : AV} (h : ∀ x, d = some x → e ≠ some x) : updO (updO F d u) e v = updO (updO F e v) d u := by
  cases d with
  | none => rfl
  | some x =>
    cases e with
    | none => rfl
    | some y =>
      have hne : x ≠ y := fun e => h x rfl (by rw [e])
      funext t
      simp only [updO, upd]
      by_cases h1 : y = t
      · by_cases h2 : x = t
        · omega
        · rw [if_pos h1, if_neg h2, if_pos h1]
      · by_cases h2 : x = t <;> simp [h1, h2]
theorem ev_updO {F : Nat → AV} {d : Option Nat} {v : AV} {x : Operand} (h : ∀ e, d = some e → x ≠ .tmp e) : ev (updO F d v) x = ev F x := by
  cases x with
  | tmp t => exact updO_other (fun e he => fun h' => h e he (by rw [h']))
  | _ => rfl
theorem gw_updO {F : Nat → AV} {d : Option Nat} {v : AV} {o : Oper} (h : ∀ e, d = some e → e ∉ o.looksAt ops) : gw ops (updO F d v) o = gw ops F o := by
  unfold gw
  cases hg : o.guard with
  | none => rfl
  | some p =>
    obtain ⟨j, want⟩ := p
    simp only
    cases ht : (ops[j]?).bind (·.dst) with
    | none => rfl
    | some t =>
      simp only
      rw [updO_other (fun e he e' => h e he (by subst e'; simp [Oper.looksAt, hg, ht]))]
theorem looks_operand {o : Oper} {e : Nat} (h : e ∉ o.looksAt ops) : ∀ x ∈ o.op.operands, x ≠ .tmp e := by
  intro x hx he
  subst he
  apply h
  unfold Oper.looksAt
  refine List.mem_append_left _ (List.mem_filterMap.2 ⟨.tmp e, by simpa using hx, rfl⟩)
theorem qd_upd {o : Oper} {d : Option Nat} {v : AV} (h : ∀ e, d = some e → e ∉ o.looksAt ops) : qd T S (updO F d v) G o = qd T S F G o := by
  refine qd_congr o (fun x hx => ev_updO (fun e he => looks_operand (h e he) x hx)) (fun _ _ _ _ => rfl)
theorem qv_gfree {o : Oper} (h : gfree o.op = true) : qv T S F G o = qv T S F G' o := by
  unfold qv
  cases hop : o.op <;> simp only [hop, gfree, Bool.false_eq_true] at h <;> rfl
theorem qd_gfree {o : Oper} (h : gfree o.op = true) : qd T S F G o = qd T S F G' o := by
  unfold qd
  rw [qv_gfree (G' := G') h]
theorem gw_upd {F : Nat → AV} {d : Nat} {v : AV} {o : Oper} (h : d ∉ o.looksAt ops) : gw ops (upd F d v) o = gw ops F o :=
  gw_updO (d := some d) (fun e he => by cases he; exact h)
theorem ev_refs {F : Nat → AV} {x : Operand} {id : Nat} (h : (ev F x).refs id = true) : ∃ u, (F u).refs id = true := by
  cases x with
  | tmp t => exact ⟨t, h⟩
  | const v =>
    have := refs_im h
    simp only [ev] at this
    rw [ofConst_im v] at this
    cases this
  | global g => simp [ev, AV.refs] at h
  | func f => simp [ev, AV.refs] at h
theorem qd_alloc {o : Oper} {d : Nat} {v : AV} {b : Option Blk} {s : NS} (hd : d ∉ o.looksAt ops) (hr : ∀ u, (s.1 u).refs d = false) :
    qd T S (upd s.1 d v) (upd s.2 d b) o = qd T S s.1 s.2 o := by
  have he : ∀ x ∈ o.op.operands, ev (upd s.1 d v) x = ev s.1 x := fun x hx => ev_updO (d := some d) (fun e he => by cases he; exact looks_operand hd x hx)
  refine qd_congr o he (fun x hx id hid => ?_)
  rw [he x hx] at hid
  refine upd_other _ _ (fun e => ?_)
  subst e
  obtain ⟨u, hu⟩ := ev_refs hid
  rw [hr u] at hu; cases hu
theorem efF_congr {o : Oper} {s s' : NS} (hg : gw ops s'.1 o = gw ops s.1 o) (hq : isAlloc o.op = false → isStore o.op = false → qd T S s'.1 s'.2 o = qd T S s.1 s.2 o)
    (ho : isStore o.op = true → (∀ x ∈ o.op.operands, ev s'.1 x = ev s.1 x) ∧ ∀ id, (∃ p ∈ o.op.operands, (ev s.1 p).refs id = true) → s'.2 id = s.2 id) :
    efF T S ops o s' = efF T S ops o s := by
  unfold efF
  rw [hg]
  cases gw ops s.1 o with
  | none => rfl
  | some b =>
    cases b
    · rfl
    · simp only
      cases hop : o.op <;> simp only [hop, isAlloc, isStore] at hq ho ⊢ <;> try (rw [hq trivial trivial])
      rename_i t p v
      obtain ⟨h1, h2⟩ := ho trivial
      rw [h1 p (by simp [Op.operands]), h1 v (by simp [Op.operands])]
      have h3 := fun id h => h2 id ⟨p, by simp [Op.operands], h⟩
      generalize ev s.1 p = pv at *
      cases pv with
      | ptr id off =>
        cases (ev s.1 v).cells with
        | none => rfl
        | some vs => simp only; rw [h3 id (by simp [AV.refs])]
      | _ => rfl
theorem efF_put {o : Oper} {s : NS} {v : AV} (hp : (efF T S ops o s).1) (h : (efF T S ops o s).2 = .put v) {id : Nat} (hr : v.refs id = true) : ∃ u, (s.1 u).refs id = true := by
  unfold efF at hp h
  split at h
  · simp only [Ef.put.injEq] at h; subst h; simp [AV.refs] at hr
  · simp only [Ef.put.injEq] at h; subst h; simp [AV.refs] at hr
  · rename_i hg
    simp only [hg] at hp
    cases hop : o.op <;> simp only [hop] at hp h
    case alloc t => split at h <;> simp at h <;> (subst h; simp [AV.refs] at hr)
    case store t p x =>
      split at h
      · split at h
        · split at h
          · simp at h
          · simp only [Ef.put.injEq] at h; subst h; simp [AV.refs] at hr
        · simp only [Ef.put.injEq] at h; subst h; simp [AV.refs] at hr
      · simp only [Ef.put.injEq] at h; subst h; simp [AV.refs] at hr
    all_goals
      simp only [Ef.put.injEq] at h
      subst h
      obtain ⟨x, _, hx⟩ := qd_refs o hp hr
      exact ev_refs hx
theorem efF_all {o : Oper} {s : NS} {z : List AV} (h : (efF T S ops o s).2 = .all z) : isAlloc o.op = true := by
  unfold efF at h
  split at h
  · simp at h
  · simp at h
  · cases hop : o.op <;> simp only [hop, isAlloc] at h ⊢
    case store t p x =>
      split at h
      · split at h
        · split at h <;> simp at h
        · simp at h
      · simp at h
    all_goals simp at h
theorem efF_sto {o : Oper} {s : NS} {id : Nat} {c : Blk} (h : (efF T S ops o s).2 = .sto id c) : isStore o.op = true ∧ ∃ p ∈ o.op.operands, (ev s.1 p).refs id = true := by
  unfold efF at h
  split at h
  · simp at h
  · simp at h
  · cases hop : o.op <;> simp only [hop, isStore] at h ⊢
    case alloc t => split at h <;> simp at h
    case store t p x =>
      split at h
      · rename_i id' off vs e1 e2
        split at h
        · split at h
          · simp only [Ef.sto.injEq] at h
            refine ⟨trivial, p, by simp [Op.operands], ?_⟩
            rw [e1, ← h.1]; simp [AV.refs]
          · simp at h
        · simp at h
      · simp at h
    all_goals simp at h
def NoRef (o : Oper) (s : NS) : Prop := isAlloc o.op = true → ∀ d, o.dst = some d → ∀ u, (s.1 u).refs d = false
theorem apartN_symm_parts {x y : Oper} (hap : apartN ops x y = true) : (∀ d, x.dst = some d → d ∉ y.looksAt ops) ∧ (∀ d, x.dst = some d → y.dst ≠ some d) ∧ (∀ d, y.dst = some d → d ∉ x.looksAt ops) ∧
    (isStore x.op = true → isStore y.op = false ∧ gfree y.op = true) ∧ (isStore y.op = true → gfree x.op = true) := by
  simp only [apartN, Bool.and_eq_true, Bool.not_eq_true', Bool.and_eq_false_iff, Bool.or_eq_false_iff, Bool.not_eq_false'] at hap
  obtain ⟨⟨hap, h1⟩, h2⟩ := hap
  obtain ⟨a1, a2, a3⟩ := Oper.apart_spec hap
  refine ⟨a1, a2, a3, fun h => ?_, fun h => ?_⟩
  · rcases h1 with h1 | h1
    · rw [h1] at h; cases h
    · exact h1
  · rcases h2 with h2 | h2
    · rw [h2] at h; cases h
    · exact h2
theorem efF_stable {x y : Oper} {s : NS} {e : Ef} (hl : ∀ d, y.dst = some d → d ∉ x.looksAt ops) (he : (efF T S ops y s).2 = e) (hs : isStore y.op = true → isStore x.op = false ∧ gfree x.op = true) (hn : NoRef y s) :
    efF T S ops x (apE y.dst e s) = efF T S ops x s := by
  have hev : ∀ (v : AV) (d : Option Nat), d = y.dst → ∀ q ∈ x.op.operands, ev (updO s.1 d v) q = ev s.1 q := fun v d hd q hq => ev_updO (fun e he => by subst hd; exact looks_operand (hl e he) q hq)
  cases e with
  | put v =>
    refine efF_congr (gw_updO hl) (fun _ _ => qd_upd hl) (fun _ => ⟨hev v _ rfl, fun _ _ => rfl⟩)
  | all z =>
    have hA := efF_all he
    simp only [apE]
    cases hd : y.dst with
    | none => rfl
    | some d =>
      have hnd := hn hA d hd
      have hld := hl d hd
      simp only
      refine efF_congr (gw_upd hld) (fun _ _ => qd_alloc hld hnd) (fun _ => ⟨hev (.ptr d 0) (some d) hd.symm, fun id ⟨p, _, hr⟩ => ?_⟩)
      obtain ⟨u, hu⟩ := ev_refs hr
      refine upd_other _ _ (fun e => ?_)
      subst e
      rw [hnd u] at hu; cases hu
  | sto id c =>
    obtain ⟨hS, _⟩ := efF_sto he
    obtain ⟨h1, h2⟩ := hs hS
    refine efF_congr rfl (fun _ _ => qd_gfree h2) (fun h => ?_)
    rw [h1] at h; cases h
theorem apE_comm {x y : Oper} {s : NS} (hap : apartN ops x y = true) (hx : NoRef x s) (hy : NoRef y s) :
    apE x.dst (efF T S ops x s).2 (apE y.dst (efF T S ops y s).2 s) = apE y.dst (efF T S ops y s).2 (apE x.dst (efF T S ops x s).2 s) := by
  obtain ⟨a1, a2, a3, a4, a5⟩ := apartN_symm_parts hap
  have updc : ∀ {α : Type} (f : Nat → α) (d e : Nat) (u v : α), d ≠ e → upd (upd f e v) d u = upd (upd f d u) e v := by
    intro α f d e u v hne
    funext t
    simp only [upd]
    by_cases h1 : d = t
    · by_cases h2 : e = t
      · omega
      · rw [if_pos h1, if_neg h2, if_pos h1]
    · by_cases h2 : e = t <;> simp [h1, h2]
  generalize hex : (efF T S ops x s).2 = ex
  generalize hey : (efF T S ops y s).2 = ey
  have hdd : ∀ d e, x.dst = some d → y.dst = some e → d ≠ e := fun d e hd he hde => a2 d hd (by rw [he, hde])
  cases ex with
  | put v =>
    cases ey with
    | put u => simp only [apE]; rw [updO_comm (fun d hd => fun h => a2 d h hd |>.elim)]
    | all z =>
      simp only [apE]
      cases hd : y.dst with
      | none => rfl
      | some e =>
        simp only
        have : updO (upd s.1 e (.ptr e 0)) x.dst v = upd (updO s.1 x.dst v) e (.ptr e 0) := by
          cases hd2 : x.dst with
          | none => rfl
          | some d => exact updc _ _ _ _ _ (hdd d e hd2 hd)
        rw [this]
    | sto id c => rfl
  | all z =>
    have hA := efF_all hex
    cases ey with
    | put u =>
      simp only [apE]
      cases hd : x.dst with
      | none => rfl
      | some d =>
        simp only
        have : updO (upd s.1 d (.ptr d 0)) y.dst u = upd (updO s.1 y.dst u) d (.ptr d 0) := by
          cases hd2 : y.dst with
          | none => rfl
          | some e => exact updc _ _ _ _ _ (Ne.symm (hdd d e hd hd2))
        rw [this]
    | all z' =>
      simp only [apE]
      cases hd : x.dst with
      | none => rfl
      | some d =>
        cases hd2 : y.dst with
        | none => rfl
        | some e =>
          simp only
          rw [updc _ _ _ _ _ (hdd d e hd hd2), updc _ _ _ _ _ (hdd d e hd hd2)]
    | sto id c =>
      obtain ⟨hS, p, _, hr⟩ := efF_sto hey
      simp only [apE]
      cases hd : x.dst with
      | none => rfl
      | some d =>
        simp only
        obtain ⟨u, hu⟩ := ev_refs hr
        have hne : d ≠ id := by
          intro e; subst e
          rw [hx hA d hd u] at hu; cases hu
        rw [updc _ _ _ _ _ hne]
  | sto id c =>
    obtain ⟨hS, p, _, hr⟩ := efF_sto hex
    cases ey with
    | put u => rfl
    | all z' =>
      have hA := efF_all hey
      simp only [apE]
      cases hd : y.dst with
      | none => rfl
      | some d =>
        simp only
        obtain ⟨u, hu⟩ := ev_refs hr
        have hne : d ≠ id := by
          intro e; subst e
          rw [hy hA d hd u] at hu; cases hu
        rw [updc _ _ _ _ _ (Ne.symm hne)]
    | sto id' c' =>
      obtain ⟨hS', _⟩ := efF_sto hey
      have := (a4 hS).1
      rw [hS'] at this; cases this
theorem noRef_ap {x o : Oper} {s : NS} (hp : (efF T S ops x s).1) (hn : NoRef o s) (hd : ∀ d, x.dst = some d → o.dst ≠ some d) : NoRef o (apE x.dst (efF T S ops x s).2 s) := by
  intro hA d hod u
  have h0 := hn hA d hod
  generalize hex : (efF T S ops x s).2 = ex
  cases ex with
  | put v =>
    simp only [apE]
    cases hxd : x.dst with
    | none => exact h0 u
    | some e =>
      simp only [updO, upd]
      split
      · cases hv : v.refs d with
        | false => rfl
        | true =>
          obtain ⟨u', hu'⟩ := efF_put hp hex hv
          rw [h0 u'] at hu'; cases hu'
      · exact h0 u
  | all z =>
    simp only [apE]
    cases hxd : x.dst with
    | none => exact h0 u
    | some e =>
      simp only [upd]
      split
      · have : e ≠ d := fun h => hd e hxd (by rw [hod, h])
        simp [AV.refs, this]
      · exact h0 u
  | sto id c => exact h0 u
end
end Go.Hl

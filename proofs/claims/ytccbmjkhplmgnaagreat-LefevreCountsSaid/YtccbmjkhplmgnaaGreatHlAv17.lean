/- Regions that draw their order: steps on slots and blocks as functions; when they commute. -/
import Derived.Orders
import Derived.Test.YtccbmjkhplmgnaaGreatHlB
set_option linter.unusedVariables false
set_option linter.unusedSimpArgs false
namespace Go.Hl
open Go Go.RowKit
def bsV (T : Tab) (F : Nat → AV) (t : TypeId) (len : Nat) (parts : List (Nat × Operand)) : Prop × AV :=
  match T.sl t with
  | some (_, s, _) =>
    match T.nk t with
    | some k => match numsOf k (parts.map fun p => ev F p.2) with
      | some xs => (seqFrom 0 parts = true ∧ parts.length = len ∧ len * s ≤ 16777216, .ns k xs)
      | none => (False, .any)
    | none => match cellsOfL (parts.map fun p => ev F p.2) with
      | some cs => (seqFrom 0 parts = true ∧ parts.length = len ∧ len * s ≤ 16777216 ∧ cs.length = len * s ∧
          ((parts.map fun p => ev F p.2).all fun v => match v.cells with | some c => c.length == s | none => false) = true, .sl s len cs)
      | none => (False, .any)
  | none => (False, .any)
def comes : Op → Bool
  | .load _ _ => true
  | .extract _ _ => true
  | .call _ => true
  | _ => false
def qd (T : Tab) (S : FuncId → Option Sp) (F : Nat → AV) (G : Nat → Option Blk) (o : Oper) : Prop × AV :=
  match o.op with
  | .buildSlice t n ps => bsV T F t n ps.toList
  | _ => ((qv T S F G o).1 ∧ (comes o.op = true → (qv T S F G o).2.im = true), (qv T S F G o).2)
section
variable {P : Program} {T : Tab} {S : FuncId → Option Sp} {κ : Ctx} {β : Nat → Option (Nat × Nat)} {F F' : Nat → AV} {G G' : Nat → Option Blk} {a : Act} {w : World} {X : Nat → Prop}
theorem argsOf_congr : ∀ (xs : List Operand) (ts : List TypeId), (∀ x ∈ xs, ev F x = ev F' x) → argsOf T F xs ts = argsOf T F' xs ts
  | [], ts, _ => by cases ts <;> rfl
  | x :: xs, [], h => by simp only [argsOf]; rw [h x (.head _), argsOf_congr xs [] (fun y hy => h y (.tail _ hy))]
  | x :: xs, t :: ts, h => by simp only [argsOf]; rw [h x (.head _), argsOf_congr xs ts (fun y hy => h y (.tail _ hy))]
theorem cut_congr {t : TypeId} {x : AV} {lo hi mx : Option Operand} (h1 : ∀ y ∈ lo.toList, ev F y = ev F' y) (h2 : ∀ y ∈ hi.toList, ev F y = ev F' y) (h3 : ∀ y ∈ mx.toList, ev F y = ev F' y) :
    cutAV T t x (lo.map fun v => intOfAV (ev F v)) (hi.map fun v => intOfAV (ev F v)) (mx.map fun v => intOfAV (ev F v)) =
    cutAV T t x (lo.map fun v => intOfAV (ev F' v)) (hi.map fun v => intOfAV (ev F' v)) (mx.map fun v => intOfAV (ev F' v)) := by
  congr 1
  · cases lo with
    | none => rfl
    | some y => simp [h1 y (by simp)]
  · cases hi with
    | none => rfl
    | some y => simp [h2 y (by simp)]
  · cases mx with
    | none => rfl
    | some y => simp [h3 y (by simp)]
theorem idx_congr {t : TypeId} {x i : AV} (h : ∀ id, x.refs id = true → G id = G' id) : idx T G t x i = idx T G' t x i := by
  unfold idx
  cases T.sl t with
  | none => rfl
  | some q =>
    cases intOfAV i with
    | none => rfl
    | some n =>
      cases x with
      | os id s off len =>
        simp only
        rw [h id (by simp [AV.refs])]
      | _ => rfl
theorem qv_congr (o : Oper) (h : ∀ x ∈ o.op.operands, ev F x = ev F' x) (hG : ∀ x ∈ o.op.operands, ∀ id, (ev F x).refs id = true → G id = G' id) :
    qv T S F G o = qv T S F' G' o := by
  unfold qv
  cases hop : o.op <;> simp only [hop, Op.operands] at h hG ⊢
  case move x => rw [h x (by simp)]
  case assign x => rw [h x (by simp)]
  case pick c x y => rw [h c (by simp), h x (by simp), h y (by simp)]
  case load t x =>
    have e := h x (by simp)
    have g := hG x (by simp)
    rw [← e]
    generalize ev F x = v at *
    cases v with
    | ptr id off => simp only; rw [g id (by simp [AV.refs])]
    | _ => rfl
  case nilCheck x => rw [h x (by simp)]
  case binOp op t x y ty => rw [h x (by simp), h y (by simp)]
  case unOp op t x => rw [h x (by simp)]
  case convert s d x => rw [h x (by simp)]
  case fieldAddr s x f =>
    have e := h x (by simp)
    have g := hG x (by simp)
    rw [← e]
    generalize ev F x = v at *
    cases T.fo s f with
    | none => rfl
    | some d =>
      cases v with
      | ptr id off => simp only; rw [g id (by simp [AV.refs])]
      | _ => rfl
  case indexAddr t x i =>
    rw [← h x (by simp), ← h i (by simp)]
    exact idx_congr (fun id hid => hG x (by simp) id hid)
  case index t x i => rw [h x (by simp), h i (by simp)]
  case slice t x lo hi mx =>
    rw [h x (by simp)]
    exact cut_congr (fun y hy => h y (by simp at hy ⊢; simp [hy])) (fun y hy => h y (by simp at hy ⊢; simp [hy])) (fun y hy => h y (by simp at hy ⊢; simp [hy]))
  case extract x i => rw [h x (by simp)]
  case build t ps =>
    have : (ps.toList.map fun p => (p.1, ev F p.2)) = (ps.toList.map fun p => (p.1, ev F' p.2)) :=
      List.map_congr_left fun p hp => by rw [h p.2 (by simp; exact ⟨p.1, by simpa using hp⟩)]
    rw [this]
  case call c =>
    obtain ⟨callee, args, ts⟩ := c
    cases callee with
    | invoke r m => rfl
    | value f =>
      simp only [Call.operands] at h ⊢
      rw [h f (by simp), argsOf_congr args.toList ts.toList (fun x hx => h x (by simp; exact .inr (by simpa using hx)))]
    | builtin b =>
      simp only [Call.operands] at h ⊢
      have hx : ∀ x ∈ args.toList, ev F x = ev F' x := fun x hx => h x (by simpa using hx)
      cases b <;> try rfl
      · simp only
        split
        · rename_i x t e1 e2; rw [hx x (by rw [e1]; simp)]
        · rfl
      · simp only
        split
        · rename_i x y e1; rw [hx x (by rw [e1]; simp), hx y (by rw [e1]; simp)]
        · rfl
      · simp only
        split
        · rename_i x y e1; rw [hx x (by rw [e1]; simp), hx y (by rw [e1]; simp)]
        · rfl
theorem qd_congr (o : Oper) (h : ∀ x ∈ o.op.operands, ev F x = ev F' x) (hG : ∀ x ∈ o.op.operands, ∀ id, (ev F x).refs id = true → G id = G' id) :
    qd T S F G o = qd T S F' G' o := by
  unfold qd
  rw [qv_congr o h hG]
  cases hop : o.op <;> try rfl
  case buildSlice t n ps =>
    simp only [hop, Op.operands] at h ⊢
    unfold bsV
    have : (ps.toList.map fun p => ev F p.2) = (ps.toList.map fun p => ev F' p.2) :=
      List.map_congr_left fun p hp => by rw [h p.2 (by simp; exact ⟨p.1, by simpa using hp⟩)]
    rw [this]
theorem refs_im {v : AV} {id : Nat} (h : v.refs id = true) : v.im = false := by
  cases v <;> simp_all [AV.refs, AV.im]
theorem qd_refs (o : Oper) (hp : (qd T S F G o).1) {id : Nat} (hr : (qd T S F G o).2.refs id = true) : ∃ x ∈ o.op.operands, (ev F x).refs id = true := by
  unfold qd at hp hr
  cases hop : o.op <;> simp only [hop] at hp hr
  case buildSlice t n ps =>
    exfalso
    unfold bsV at hr
    split at hr
    · split at hr
      · split at hr <;> simp [AV.refs] at hr
      · split at hr <;> simp [AV.refs] at hr
    · simp [AV.refs] at hr
  all_goals
    have hc := hp.2
    have hq := hp.1
    simp only [comes] at hc
  case load => have := hc trivial; rw [refs_im hr] at this; cases this
  case extract => have := hc trivial; rw [refs_im hr] at this; cases this
  case call => have := hc trivial; rw [refs_im hr] at this; cases this
  all_goals (unfold qv at hr hq; simp only [hop] at hr hq <;> simp only [Op.operands])
  case move x => exact ⟨x, by simp, hr⟩
  case assign x => exact ⟨x, by simp, hr⟩
  case pick c x y =>
    split at hr
    · rename_i t _
      cases t
      · exact ⟨y, by simp, hr⟩
      · exact ⟨x, by simp, hr⟩
    · simp [AV.refs] at hr
  case nilCheck x => split at hr <;> simp [AV.refs] at hr
  case binOp op t x y ty =>
    exfalso
    unfold bin at hr
    split at hr <;> (try split at hr) <;> simp [AV.refs] at hr
  case unOp op t x =>
    exfalso
    unfold un at hr
    split at hr <;> simp [AV.refs] at hr
  case convert s d x => split at hr <;> simp [AV.refs] at hr
  case fieldAddr s x f =>
    refine ⟨x, by simp, ?_⟩
    split at hr
    · simp [AV.refs] at hr
    · split at hr
      · rename_i i off e2
        rw [e2]; simpa [AV.refs] using hr
      · simp [AV.refs] at hr
      · simp [AV.refs] at hr
  case indexAddr t x i =>
    refine ⟨x, by simp, ?_⟩
    unfold idx at hr
    split at hr
    · simp [AV.refs] at hr
    · split at hr
      · simp [AV.refs] at hr
      · split at hr
        · simp [AV.refs] at hr
        · simp [AV.refs] at hr
        · rename_i e2; rw [e2]; simpa [AV.refs] using hr
        · simp [AV.refs] at hr
  case index t x i => split at hr <;> simp [AV.refs] at hr
  case slice t x lo hi mx =>
    refine ⟨x, by simp, ?_⟩
    unfold cutAV at hr
    simp only at hr
    split at hr
    · split at hr <;> simp [AV.refs] at hr
    · split at hr <;> simp [AV.refs] at hr
    · rename_i e2; rw [e2]; simpa [AV.refs] using hr
    · split at hr <;> simp [AV.refs] at hr
    · simp [AV.refs] at hr
  case build t ps =>
    exfalso
    split at hr
    · split at hr <;> simp [AV.refs] at hr
    · simp [AV.refs] at hr
  all_goals (simp [AV.refs] at hr)
end
end Go.Hl

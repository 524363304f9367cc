/- One theorem for all operations that write no block. Blocks renamed, dropped; slots forgotten. Operations that make or write blocks. Slices made of parts, appended to. append append is sound What is handed on settles; one step of an operation list. One step of an operation list in the abstract state, and that it is sound. -/
import Derived.Laws.CopyRow
import Derived.Laws.IdiomCopy
import Derived.Test.YtccbmjkhplmgnaaGreatHlA
set_option linter.unusedVariables false
set_option linter.unusedSimpArgs false
namespace Go.Hl
open Go Go.RowKit
section
variable {P : Program} {T : Tab} {S : FuncId → Option Sp} {κ : Ctx} {β : Nat → Option (Nat × Nat)} {F : Nat → AV} {G : Nat → Option Blk} {a : Act} {w : World} {X : Nat → Prop}
theorem arg_sound {t : TypeId} {x : AV} {u : Value} (hx : RV κ β G w x u) (h : (argAV T t x).im = true) : RI w (XG κ β G) (argAV T t x) u := by
  unfold argAV at *
  split at h
  · cases hk : T.nk t with
    | none => exact hx
    | some k =>
      simp only
      cases hx with
      | nul ad => exact RI.ns k [] ad 0 0 0 (by simp) (by simp) (by simp)
  · exact hx.ri h
theorem args_sound (hC : Conc κ β F G a w) : ∀ (xs : List Operand) (ts : List TypeId), (argsOf T F xs ts).all AV.im = true →
    (argsOf T F xs ts).length = xs.length ∧ ∀ (j : Nat) (c : AV), (argsOf T F xs ts)[j]? = some c → ∃ v : Value, (xs.map a.eval)[j]? = some v ∧ RI w (XG κ β G) c v
  | [], ts, _ => by cases ts <;> simp [argsOf]
  | x :: xs, [], h => by
    simp only [argsOf, List.all_cons, Bool.and_eq_true] at h ⊢
    have ih := args_sound hC xs [] h.2
    refine ⟨by simp [ih.1], fun j c hj => ?_⟩
    cases j with
    | zero => simp at hj; subst hj; exact ⟨_, rfl, (hC.ev x).ri h.1⟩
    | succ j => simpa using ih.2 j c (by simpa using hj)
  | x :: xs, t :: ts, h => by
    simp only [argsOf, List.all_cons, Bool.and_eq_true] at h ⊢
    have ih := args_sound hC xs ts h.2
    refine ⟨by simp [ih.1], fun j c hj => ?_⟩
    cases j with
    | zero => simp at hj; subst hj; exact ⟨_, rfl, arg_sound (hC.ev x) h.1⟩
    | succ j => simpa using ih.2 j c (by simpa using hj)
theorem Conc.xlt (hC : Conc κ β F G a w) {b : Nat} (h : XG κ β G b) : b < w.heap.size := by
  rcases h with h | ⟨id, c, base, h1, h2⟩
  · exact Nat.lt_of_lt_of_le (hC.x0 b h) hC.chg.size
  · exact (hC.hp id _ h1).lt h2
theorem call_sound (hS : SOK P S) (hC : Conc κ β F G a w) {f : AV} {fv : Value} (hf : RV κ β G w f fv) {args : List AV} {vs : Array Value} (hl : vs.size = args.length)
    (hr : args.all AV.im = true → ∀ (j : Nat) (c : AV), args[j]? = some c → ∃ v : Value, vs[j]? = some v ∧ RI w (XG κ β G) c v)
    (h : (callAV S f args).1) : QR P κ β G w (callAV S f args).2 (((do let d ← Deferred.ofValue fv vs; invoke d.target d.args) : Sem Next).run P w) := by
  unfold callAV at *
  cases f <;> try (simp at h; done)
  rename_i g caps
  simp only at h ⊢
  cases hg : S g with
  | none => simp [hg] at h
  | some sp =>
    simp only [hg] at h ⊢
    obtain ⟨h0, h1, h2⟩ := h
    have hr := hr h1
    cases hf with
    | fn _ _ cv f hlc hfc hrc =>
      have hA := (hS g sp hg _ h2).1 h0 w (XG κ β G) (vs ++ cv) (fun b hb => hC.xlt hb) (by simp [hl, hlc]) (fun j c hj => by
        by_cases hlt : j < args.length
        · rw [List.getElem?_append_left hlt] at hj
          obtain ⟨v, k1, k2⟩ := hr j c hj
          exact ⟨v, by rw [Array.getElem?_append_left (by omega)]; exact k1, k2⟩
        · rw [List.getElem?_append_right (by omega)] at hj
          refine ⟨f (j - args.length), ?_, hrc _ c hj⟩
          rw [Array.getElem?_append_right (by omega), hl]
          exact hfc _ c hj)
      have hrun : ((do let d ← Deferred.ofValue (.func (.func g) #[] cv) vs; invoke d.target d.args) : Sem Next).run P w = (callFunc g (vs ++ cv)).run P w := by
        simp [Deferred.ofValue, invoke]
      rw [hrun]
      generalize hres : sp.res (args ++ caps) = r at *
      rcases hA with ⟨v, k1, k2⟩ | ⟨k1, k2⟩
      · rw [k1]
        refine ⟨rfl, ?_⟩
        cases r with
        | os => cases k2
        | ptr => cases k2
        | _ => exact k2
      · rw [k1]
        exact ⟨rfl, k2⟩
theorem qr_value {r : AV} {s : Sem Value} (h : ∃ z, s.run P w = .ok z w ∧ RV κ β G w r z) : QR P κ β G w r (((do pure (.value (← s))) : Sem Next).run P w) := by
  obtain ⟨z, h1, h2⟩ := h
  simp only [Sem.run_bind, h1, Result.andThen_ok, Sem.run_pure]
  exact ⟨rfl, h2⟩
theorem run_mapM_list {α γ : Type} (f : α → Sem γ) : ∀ (l : List α) (r : List γ), l.length = r.length → (∀ (j : Nat) (y : γ), r[j]? = some y → ∀ w, ∃ x : α, l[j]? = some x ∧ (f x).run P w = .ok y w) →
    ∀ w, (l.mapM f).run P w = .ok r w
  | [], [], _, _, w => by simp
  | [], _ :: _, h, _, _ => by simp at h
  | _ :: _, [], h, _, _ => by simp at h
  | x :: l, y :: r, h, hf, w => by
    obtain ⟨x', h1, h2⟩ := hf 0 y rfl w
    simp only [List.getElem?_cons_zero, Option.some.injEq] at h1
    subst h1
    have ih := run_mapM_list f l r (by simpa using h) (fun j y hj w => by simpa using hf (j + 1) y (by simpa using hj) w) w
    simp [List.mapM_cons, h2, ih]
theorem run_mapM_array {α γ : Type} {f : α → Sem γ} (l : Array α) (r : List γ) (hl : l.size = r.length)
    (hf : ∀ (j : Nat) (y : γ), r[j]? = some y → ∀ w, ∃ x : α, l[j]? = some x ∧ (f x).run P w = .ok y w) (w : World) : (l.mapM f).run P w = .ok r.toArray w := by
  rw [Array.mapM_eq_mapM_toList]
  have := run_mapM_list (P := P) f l.toList r (by simpa using hl) (fun j y hj w => by simpa using hf j y hj w) w
  simp [this]
theorem qv_sound (hT : TabOK P T) (hS : SOK P S) (hC : Conc κ β F G a w) (o : Oper) (h : (qv T S F G o).1) :
    QR P κ β G w (qv T S F G o).2 ((execOp a.eval o).run P w) := by
  unfold qv at *
  cases hop : o.op <;> simp only [hop] at h ⊢ <;> try (exact False.elim h)
  case move x => simp only [execOp, hop, Sem.run_pure]; exact ⟨rfl, hC.ev x⟩
  case assign x => simp only [execOp, hop, Sem.run_pure]; exact ⟨rfl, hC.ev x⟩
  case pick c x y =>
    have hc := hC.ev c
    simp only [execOp, hop]
    generalize ev F c = q at *
    generalize a.eval c = u at *
    split at h
    · rename_i t
      have e1 := RI.raw_inv hc
      subst e1
      simp only [asBool, Sem.run_bind, Sem.run_pure, Result.andThen_ok]
      cases t
      · exact ⟨rfl, hC.ev y⟩
      · exact ⟨rfl, hC.ev x⟩
    · exact False.elim h
  case load t x =>
    simp only [execOp, hop]
    exact qr_value (load_sound hT hC rfl h)
  case nilCheck x =>
    have hx := hC.ev x
    simp only [execOp, hop]
    generalize ev F x = q at *
    generalize a.eval x = u at *
    split at h
    · obtain ⟨b, o, rfl, _⟩ := RI.vp_inv hx
      simp only [Sem.run_pure]
      exact ⟨rfl, hx⟩
    · cases hx with
      | fn _ _ cv f hlc hfc hrc =>
        simp only [Sem.run_pure]
        exact ⟨rfl, RI.fn _ _ cv f hlc hfc hrc⟩
    · exact False.elim h
  case binOp op t x y ty =>
    simp only [execOp, hop]
    exact qr_value (bin_sound hT (hC.ev x) (hC.ev y) x y h)
  case unOp op t x =>
    simp only [execOp, hop]
    exact qr_value (un_sound (hC.ev x) h)
  case convert s d x =>
    have hx := hC.ev x
    simp only [execOp, hop]
    generalize ev F x = q at *
    generalize a.eval x = u at *
    split at h
    · rename_i k n ks kd h1 h2
      have e1 := RI.raw_inv hx
      subst e1
      exact qr_value ⟨_, conv_sound hT h1 h2 w, RI.raw _⟩
    · exact False.elim h
  case fieldAddr s x f =>
    simp only [execOp, hop]
    exact qr_value (fieldAddr_sound hT hC rfl h)
  case indexAddr t x i =>
    simp only [execOp, hop]
    exact qr_value (index_sound hT (hC.ev x) (hC.ev i) h)
  case index t x i =>
    have hx := hC.ev x
    have hi := hC.ev i
    simp only [execOp, hop]
    generalize ev F x = q at *
    generalize a.eval x = u at *
    generalize ev F i = qi at *
    generalize a.eval i = ui at *
    split at h
    · rename_i s n h1
      obtain ⟨k, rfl⟩ := hi.int_inv h1
      have e1 := RI.raw_inv hx
      subst e1
      obtain ⟨g1, g2, g3⟩ := h
      refine qr_value ⟨_, ?_, RI.raw _⟩
      have e3 : s[n.toNat]? = some s[n.toNat] := by simp [g3]
      have e4 : s.data[n.toNat]? = some s[n.toNat] := by
        rw [Array.getElem?_eq_getElem (show n.toNat < s.data.size from g3)]
        rfl
      simp [Instr.index, asIntOf, run_underlying (hT.str t g1), g2, e3, e4]
    · exact False.elim h
  case slice t x lo hi mx =>
    simp only [execOp, hop]
    exact qr_value (cut_sound hT hC rfl rfl rfl h)
  case extract x i =>
    have hx := hC.ev x
    simp only [execOp, hop]
    generalize ev F x = q at *
    generalize a.eval x = u at *
    split at h
    · rename_i cs
      cases hx with
      | tup _ vs f hl hf hr =>
        simp only at h ⊢
        have h1 := hf i cs[i] (by simp [h])
        have h2 := hr i cs[i] (by simp [h])
        refine qr_value ⟨f i, by simp [Instr.extract, h1], ?_⟩
        have e : cs.getD i AV.any = cs[i] := by simp [List.getD, h]
        rw [e]
        generalize cs[i] = r at *
        cases r with
        | os => cases h2
        | ptr => cases h2
        | _ => exact h2
    · exact False.elim h
  case build t ps =>
    simp only [execOp, hop]
    cases hz : T.zr t with
    | none => simp [hz] at h
    | some z =>
      cases hst : T.st t with
      | none => simp [hz, hst] at h
      | some places =>
        simp only [hz, hst] at h ⊢
        cases hfl : fillAV places z (ps.toList.map fun p => (p.1, ev F p.2)) with
        | none => simp [hfl] at h
        | some cs =>
          simp only
          obtain ⟨i, v, h1, h2, h3, h4⟩ := hT.zr t z hz
          obtain ⟨fs, k1, k2, k3⟩ := hT.st t places hst
          have hmap : ∀ w, (fs.mapM (fun f => (do pure (f.offset, ← sizeOf f.type) : Sem (Nat × Nat)))).run P w = .ok places.toArray w := by
            intro w
            rw [run_mapM_array (f := fun f => (do pure (f.offset, ← sizeOf f.type) : Sem (Nat × Nat))) (P := P) fs places k2 ?_ w]
            intro j p hp w
            obtain ⟨o, s⟩ := p
            obtain ⟨fd, i, m1, m2, m3, m4⟩ := k3 j o s hp
            refine ⟨fd, m1, ?_⟩
            simp [run_sizeOf m3, m2, m4]
          obtain ⟨C', f1, f2, f3⟩ := fill_sound (w := w) (X := XG κ β G) (pl := fun i => places.toArray[i]?) (places := places) (fun i p hp => by simpa using hp)
            (ps.toList.map fun p => (p.1, ev F p.2)) (ps.toList.map fun p => (p.1, a.eval p.2)) z cs v.cells (by simp)
            (fun j p q hp hq => by
              rw [List.getElem?_map] at hp hq
              cases hj : ps.toList[j]? with
              | none => rw [hj] at hp; cases hp
              | some pq =>
                rw [hj] at hp hq
                simp only [Option.map_some, Option.some.injEq] at hp hq
                subst hp; subst hq
                exact ⟨rfl, fun him => (hC.ev _).ri him⟩) h3 (fun j c hj => h4 w _ j c hj) hfl
          refine qr_value ⟨.agg C', ?_, ?_⟩
          · have hz' : (zeroValue t).run P w = .ok v w := by simp [zeroValue, run_typeInfo h1, h2]
            have e1 : (Array.map (fun x => match x with | (i, x) => (i, a.eval x)) ps).toList = ps.toList.map fun p => (p.1, a.eval p.2) := by simp
            simp only [Instr.build, Sem.run_bind, hz', Result.andThen_ok, run_underlying k1, hmap, e1, f1, Sem.run_pure]
          · have hex : ∀ j : Nat, ∃ u : Value, ∀ c : AV, cs[j]? = some c → C'[j]? = some u ∧ RI w (XG κ β G) c u := by
              intro j
              cases hj : cs[j]? with
              | none => exact ⟨undef, fun c hc => by cases hc⟩
              | some c =>
                obtain ⟨u, q1, q2⟩ := f3 j c hj
                exact ⟨u, fun c' hc' => by simp only [Option.some.injEq] at hc'; subst hc'; exact ⟨q1, q2⟩⟩
            obtain ⟨g, hg⟩ := Classical.axiomOfChoice hex
            exact RI.agg cs C' g f2 (fun j c hj => (hg j c hj).1) (fun j c hj => (hg j c hj).2)
  case call c =>
    obtain ⟨callee, args, argTypes⟩ := c
    simp only [execOp, hop, resolve]
    cases callee with
    | invoke r m => simp at h
    | value f =>
      simp only at h ⊢
      have hargs := args_sound (T := T) hC args.toList argTypes.toList
      have := call_sound (vs := args.map a.eval) hS hC (hC.ev f) (by
        have : ∀ (xs : List Operand) (ts : List TypeId), (argsOf T F xs ts).length = xs.length := by
          intro xs
          induction xs with
          | nil => intro ts; cases ts <;> rfl
          | cons x xs ih => intro ts; cases ts <;> simp [argsOf, ih]
        simp [this]) (fun him j c hj => by
          obtain ⟨v, h1, h2⟩ := (hargs him).2 j c hj
          exact ⟨v, by simpa using h1, h2⟩) h
      simpa using this
    | builtin b =>
      cases b <;> try (exact False.elim h)
      case len =>
        simp only at h ⊢
        split at h
        · rename_i x t e1 e2
          have e1' : args = #[x] := by apply Array.ext'; simpa using e1
          have e2' : argTypes = #[t] := by apply Array.ext'; simpa using e2
          subst e1'; subst e2'
          obtain ⟨z, k1, k2⟩ := run_len (ty := o.type) hT (hC.ev x) h
          simp only [Sem.run_bind, Sem.run_pure, Result.andThen_ok, invoke, builtin, List.map_toArray, List.map_cons, List.map_nil, k1]
          exact ⟨rfl, k2⟩
        · exact False.elim h
      case min =>
        simp only at h ⊢
        split at h
        · rename_i x y e1
          have e1' : args = #[x, y] := by apply Array.ext'; simpa using e1
          subst e1'
          have hx := hC.ev x
          have hy := hC.ev y
          simp only [Sem.run_bind, Sem.run_pure, Result.andThen_ok, invoke, builtin]
          simp only [List.map_toArray, List.map_cons, List.map_nil]
          generalize ev F x = qx at *
          generalize a.eval x = ux at *
          generalize ev F y = qy at *
          generalize a.eval y = uy at *
          split at h
          · rename_i k n k' m
            have e3 := RI.raw_inv hx
            have e4 := RI.raw_inv hy
            subst e3; subst e4
            simp only [Builtin.min_, Builtin.min2, List.foldlM_cons, List.foldlM_nil, Sem.run_bind, Sem.run_pure, Result.andThen_ok]
            exact ⟨rfl, RI.raw _⟩
          · exact False.elim h
        · exact False.elim h
      case max =>
        simp only at h ⊢
        split at h
        · rename_i x y e1
          have e1' : args = #[x, y] := by apply Array.ext'; simpa using e1
          subst e1'
          have hx := hC.ev x
          have hy := hC.ev y
          simp only [Sem.run_bind, Sem.run_pure, Result.andThen_ok, invoke, builtin]
          simp only [List.map_toArray, List.map_cons, List.map_nil]
          generalize ev F x = qx at *
          generalize a.eval x = ux at *
          generalize ev F y = qy at *
          generalize a.eval y = uy at *
          split at h
          · rename_i k n k' m
            have e3 := RI.raw_inv hx
            have e4 := RI.raw_inv hy
            subst e3; subst e4
            simp only [Builtin.max_, Builtin.max2, List.foldlM_cons, List.foldlM_nil, Sem.run_bind, Sem.run_pure, Result.andThen_ok]
            exact ⟨rfl, RI.raw _⟩
          · exact False.elim h
        · exact False.elim h
end
end Go.Hl

namespace Go.Hl
open Go Go.RowKit
def kil : List (Nat × AV) → Nat → List (Nat × AV)
  | [], _ => []
  | (t, v) :: l, id => (t, if v.refs id = true then .any else v) :: kil l id
def St.kill (σ : St) (id : Nat) : St := ⟨kil σ.fr id, del σ.hp id⟩
theorem lk_kil (l : List (Nat × AV)) (id t : Nat) : lk (kil l id) t = (lk l t).map fun v => if v.refs id = true then .any else v := by
  induction l with
  | nil => rfl
  | cons p l ih =>
    obtain ⟨k, v⟩ := p
    simp only [kil, lk]
    split
    · rfl
    · exact ih
theorem kil_aux (o : Option AV) (id : Nat) : (o.map fun v => if v.refs id = true then AV.any else v).getD .any = if (o.getD .any).refs id = true then .any else o.getD .any := by
  cases o with
  | none => simp [AV.refs]
  | some v => simp
theorem get_kill (σ : St) (id t : Nat) : (σ.kill id).get t = if (σ.get t).refs id = true then .any else σ.get t := by
  simp only [St.kill, St.get, lk_kil]
  exact kil_aux _ id
theorem get_kill_or (σ : St) (id t : Nat) : (σ.kill id).get t = σ.get t ∨ (σ.kill id).get t = .any := by
  rw [get_kill]; split
  · exact .inr rfl
  · exact .inl rfl
theorem refs_kill (σ : St) (id t : Nat) : ((σ.kill id).get t).refs id = false := by
  rw [get_kill]; split
  · rfl
  · rename_i h; simpa using h
theorem refs_kill_of (σ : St) (id j t : Nat) (h : (σ.get t).refs j = false) : ((σ.kill id).get t).refs j = false := by
  rw [get_kill]; split
  · rfl
  · exact h
section
variable {κ : Ctx} {β : Nat → Option (Nat × Nat)} {F : Nat → AV} {G : Nat → Option Blk} {a : Act} {w w' : World}
theorem Conc.weak (h : Conc κ β F G a w) {F' : Nat → AV} (hF : ∀ t, F' t = F t ∨ F' t = .any) : Conc κ β F' G a w := by
  refine ⟨h.sz, fun t => ?_, h.dfr, h.hp, h.sep, h.chg, h.x0⟩
  rcases hF t with e | e
  · rw [e]; exact h.rel t
  · rw [e]; exact RI.any _
theorem Conc.drop (h : Conc κ β F G a w) {G' : Nat → Option Blk} (hG : ∀ i, G' i = G i ∨ G' i = none) : Conc κ β F G' a w := by
  have hs : ∀ i b, G' i = some b → G i = some b := fun i b hi => by
    rcases hG i with e | e
    · rw [← e]; exact hi
    · rw [e] at hi; cases hi
  have hX : ∀ b, XG κ β G' b → XG κ β G b := fun b hb => XG.weak (fun i c hi => ⟨c, hs i _ hi⟩) hb
  refine ⟨h.sz, fun t => ?_, h.dfr, fun i blk hi => ?_, fun i j b c x y hij hx hy => h.sep i j b c x y hij (hs i x hx) (hs j y hy), h.chg, h.x0⟩
  · have ht := h.rel t
    generalize F t = v at *
    cases v with
    | os i s off len =>
      obtain ⟨ad, cap, h1, h2, h3⟩ := ht
      exact ⟨ad, cap, h1, h2, fun blk hb => h3 blk (hs i blk hb)⟩
    | ptr i off => exact fun blk hb => ht blk (hs i blk hb)
    | _ => exact RI.keep (Keep.refl _ _) (fun b _ hb => hX b hb) ht
  · rcases h.hp i blk (hs i blk hi) with h6 | ⟨b, base, C, e, h1, h2, h3, h4, h5⟩
    · exact .inl h6
    · exact .inr ⟨b, base, C, e, h1, h2, h3, fun j c hj => by
        obtain ⟨v, hv, hr⟩ := h4 j c hj
        exact ⟨v, hv, hr.keep (Keep.refl _ _) (fun b _ hb => hX b hb)⟩, h5⟩
theorem blk_kill (σ : St) (id : Nat) : (σ.kill id).blk = upd σ.blk id none := by
  funext u
  simp only [St.kill, St.blk, lk_del, upd]
theorem Conc.rename (h : Conc κ β F G a w) {id d : Nat} {blk : Blk} (hdn : d ≠ κ.nt) (hG : G id = some blk) (h1 : ∀ t, (F t).refs id = false) (h2 : ∀ t, (F t).refs d = false) :
    Conc κ (upd β d (β id)) F (upd (upd G id none) d (some blk)) a w := by
  have hX : ∀ b, XG κ (upd β d (β id)) (upd (upd G id none) d (some blk)) b → XG κ β G b := by
    intro b hb
    rcases hb with hb | ⟨i, c, base, g1, g2⟩
    · exact .inl hb
    · by_cases e : d = i
      · subst e
        rw [upd_same] at g1 g2
        simp only [Option.some.injEq] at g1
        exact .inr ⟨id, c, base, by rw [hG, g1], g2⟩
      · rw [upd_other _ _ e] at g1 g2
        by_cases e' : id = i
        · subst e'; rw [upd_same] at g1; cases g1
        · rw [upd_other _ _ e'] at g1
          exact .inr ⟨i, c, base, g1, g2⟩
  have hri : ∀ c v, RI w (XG κ β G) c v → RI w (XG κ (upd β d (β id)) (upd (upd G id none) d (some blk))) c v :=
    fun c v hr => hr.keep (Keep.refl _ _) (fun b _ hb => hX b hb)
  have hblk : ∀ i b, BlkOK κ β G w i b → (upd β d (β id)) = (upd β d (β id)) → ∀ j, (j = i ∨ j ≠ κ.nt) → upd β d (β id) j = β i → BlkOK κ (upd β d (β id)) (upd (upd G id none) d (some blk)) w j b := by
    intro i b hb _ j hji hj
    rcases hb with h6 | ⟨b2, base, C, e, g1, g2, g3, g4, g5⟩
    · exact .inl ⟨by rw [hj]; exact h6.1, h6.2⟩
    · exact .inr ⟨b2, base, C, e, by rw [hj]; exact g1, g2, g3, fun j c hj => by
        obtain ⟨v, hv, hr⟩ := g4 j c hj
        exact ⟨v, hv, hri _ _ hr⟩, by
          rcases hji with rfl | hji
          · exact g5
          · rcases g5 with g5 | ⟨lo, hi, q1, q2, q3, q4, _⟩
            · exact .inl ⟨g5.1, hji⟩
            · exact .inr ⟨lo, hi, q1, q2, q3, q4, fun e => absurd e hji⟩⟩
  refine ⟨h.sz, fun t => ?_, h.dfr, fun i b hi => ?_, fun i j b c x y hij hx hy hbi e hbj => ?_, h.chg, h.x0⟩
  · have ht := h.rel t
    have r1 := h1 t
    have r2 := h2 t
    generalize F t = v at *
    cases v with
    | os i s off len =>
      have e1 : id ≠ i := by intro e; subst e; simp [AV.refs] at r1
      have e2 : d ≠ i := by intro e; subst e; simp [AV.refs] at r2
      obtain ⟨ad, cap, g1, g2, g3⟩ := ht
      refine ⟨ad, cap, g1, g2, fun b hb => ?_⟩
      rw [upd_other _ _ e2, upd_other _ _ e1] at hb
      rw [upd_other _ _ e2]
      exact g3 b hb
    | ptr i off =>
      have e1 : id ≠ i := by intro e; subst e; simp [AV.refs] at r1
      have e2 : d ≠ i := by intro e; subst e; simp [AV.refs] at r2
      intro b hb
      rw [upd_other _ _ e2, upd_other _ _ e1] at hb
      rw [upd_other _ _ e2]
      exact ht b hb
    | _ => exact hri _ _ ht
  · by_cases e : d = i
    · subst e
      rw [upd_same] at hi
      simp only [Option.some.injEq] at hi
      subst hi
      exact hblk id _ (h.hp id _ hG) rfl d (.inr hdn) (upd_same _ _ _)
    · rw [upd_other _ _ e] at hi
      by_cases e' : id = i
      · subst e'; rw [upd_same] at hi; cases hi
      · rw [upd_other _ _ e'] at hi
        exact hblk i _ (h.hp i _ hi) rfl i (.inl rfl) (upd_other _ _ e)
  · have key : ∀ i x, upd (upd G id none) d (some blk) i = some x → ∃ i', G i' = some x ∧ upd β d (β id) i = β i' ∧ ((d = i ∧ i' = id) ∨ (d ≠ i ∧ id ≠ i ∧ i' = i)) := by
      intro i x hx
      by_cases e : d = i
      · subst e
        rw [upd_same] at hx
        simp only [Option.some.injEq] at hx
        subst hx
        exact ⟨id, hG, upd_same _ _ _, .inl ⟨rfl, rfl⟩⟩
      · rw [upd_other _ _ e] at hx
        by_cases e' : id = i
        · subst e'; rw [upd_same] at hx; cases hx
        · rw [upd_other _ _ e'] at hx
          exact ⟨i, hx, upd_other _ _ e, .inr ⟨e, e', rfl⟩⟩
    obtain ⟨i', a1, a2, a3⟩ := key i x hx
    obtain ⟨j', b1, b2, b3⟩ := key j y hy
    rw [a2] at hbi
    rw [b2] at hbj
    refine h.sep i' j' b c x y ?_ a1 b1 hbi e hbj
    intro e
    rcases a3 with ⟨a3, a4⟩ | ⟨a3, a4, a5⟩ <;> rcases b3 with ⟨b3, b4⟩ | ⟨b3, b4, b5⟩ <;> omega
theorem Conc.bare (h : Conc κ β F G a w) {id : Nat} (hid : ∀ t, (F t).refs id = false) {con : Con} (hl : con.len = 0) :
    Conc κ (upd β id none) F (upd G id (some ⟨true, con⟩)) a w := by
  have hX : ∀ b, XG κ (upd β id none) (upd G id (some ⟨true, con⟩)) b → XG κ β G b := by
    intro b hb
    rcases hb with hb | ⟨i, c, base, g1, g2⟩
    · exact .inl hb
    · by_cases e : id = i
      · subst e; rw [upd_same] at g2; cases g2
      · rw [upd_other _ _ e] at g1 g2
        exact .inr ⟨i, c, base, g1, g2⟩
  have hri : ∀ c v, RI w (XG κ β G) c v → RI w (XG κ (upd β id none) (upd G id (some ⟨true, con⟩))) c v :=
    fun c v hr => hr.keep (Keep.refl _ _) (fun b _ hb => hX b hb)
  refine ⟨h.sz, fun t => ?_, h.dfr, fun i b hi => ?_, fun i j b c x y hij hx hy hbi e hbj => ?_, h.chg, h.x0⟩
  · have ht := h.rel t
    have r1 := hid t
    generalize F t = v at *
    cases v with
    | os i s off len =>
      have e1 : id ≠ i := by intro e; subst e; simp [AV.refs] at r1
      obtain ⟨ad, cap, g1, g2, g3⟩ := ht
      refine ⟨ad, cap, g1, g2, fun b hb => ?_⟩
      rw [upd_other _ _ e1] at hb ⊢
      exact g3 b hb
    | ptr i off =>
      have e1 : id ≠ i := by intro e; subst e; simp [AV.refs] at r1
      intro b hb
      rw [upd_other _ _ e1] at hb ⊢
      exact ht b hb
    | _ => exact hri _ _ ht
  · by_cases e : id = i
    · subst e
      rw [upd_same] at hi
      simp only [Option.some.injEq] at hi
      subst hi
      exact .inl ⟨upd_same _ _ _, hl⟩
    · rw [upd_other _ _ e] at hi
      rcases h.hp i b hi with h6 | ⟨b2, base, C, f, g1, g2, g3, g4, g5⟩
      · exact .inl ⟨by rw [upd_other _ _ e]; exact h6.1, h6.2⟩
      · exact .inr ⟨b2, base, C, f, by rw [upd_other _ _ e]; exact g1, g2, g3, fun j c hj => by
          obtain ⟨v, hv, hr⟩ := g4 j c hj
          exact ⟨v, hv, hri _ _ hr⟩, g5⟩
  · by_cases e1 : id = i
    · subst e1; rw [upd_same] at hbi; cases hbi
    · by_cases e2 : id = j
      · subst e2; rw [upd_same] at hbj; cases hbj
      · rw [upd_other _ _ e1] at hx hbi
        rw [upd_other _ _ e2] at hy hbj
        exact h.sep i j b c x y hij hx hy hbi e hbj
end
end Go.Hl

namespace Go.Hl
open Go Go.RowKit
section
variable {P : Program} {T : Tab} {S : FuncId → Option Sp} {κ : Ctx} {β : Nat → Option (Nat × Nat)} {F : Nat → AV} {G : Nat → Option Blk} {a : Act} {w : World} {X : Nat → Prop}
theorem Conc.made {σ : St} (h : Conc κ β σ.get σ.blk a w) (d : Nat) (hd : d < κ.nt) (C : Array Value) (e : TypeId) (con : Con) (hl : con.len ≤ C.size)
    (hc : ∀ j c, con.val j = some c → ∃ v, C[j]? = some v ∧ RI w (XG κ β σ.blk) c v) {v : AV} {x : Value}
    (hv : ∀ β' G' w', β' d = some (w.heap.size, 0) → w'.heap[w.heap.size]? = some (.cells C e (0, 0)) → RV κ β' G' w' v x) :
    ∃ β', Conc κ β' (((σ.kill d).setB d ⟨true, con⟩).put (some d) v).get (((σ.kill d).setB d ⟨true, con⟩).put (some d) v).blk (a.put (some d) x) (w.alloc (.cells C e)) := by
  have h1 : Conc κ β (σ.kill d).get (σ.kill d).blk a w := by
    refine (h.weak (get_kill_or σ d)).drop (fun i => ?_)
    rw [blk_kill]
    by_cases e : d = i
    · subst e; exact .inr (upd_same _ _ _)
    · exact .inl (upd_other _ _ e)
  have h2 := h1.fresh (id := d) (by omega) (refs_kill σ d) C e con hl (fun j c hj => by
    obtain ⟨v, g1, g2⟩ := hc j c hj
    refine ⟨v, g1, g2.keep (Keep.refl _ _) (fun b _ hb => ?_)⟩
    refine XG.weak (fun i c hi => ?_) hb
    rw [blk_kill] at hi
    by_cases e : d = i
    · subst e; rw [upd_same] at hi; cases hi
    · rw [upd_other _ _ e] at hi; exact ⟨c, hi⟩)
  refine ⟨upd β d (some (w.heap.size, 0)), ?_⟩
  rw [St.get_put, St.blk_put, St.get_setB, St.blk_setB]
  refine h2.put (fun t ht => by cases ht; exact hd) (hv _ _ _ (upd_same _ _ _) ?_)
  show (w.heap.push _)[w.heap.size]? = _
  simp
theorem RV.ptr_made {β' : Nat → Option (Nat × Nat)} {G' : Nat → Option Blk} {w' : World} {d n : Nat} (h : β' d = some (n, 0)) : RV κ β' G' w' (.ptr d 0) (.pointer (some ⟨n, 0, none⟩)) :=
  fun _ _ => ⟨n, 0, h, rfl⟩
theorem RV.os_made {β' : Nat → Option (Nat × Nat)} {G' : Nat → Option Blk} {w' : World} {d n s len cap : Nat} {C : Array Value} {e : TypeId} (h : β' d = some (n, 0))
    (hw : w'.heap[n]? = some (.cells C e (0, 0))) (hl : len ≤ cap) (hs : cap * s ≤ C.size) : RV κ β' G' w' (.os d s 0 len) (.slice (some ⟨n, 0, none⟩) len cap) :=
  ⟨_, cap, rfl, hl, fun _ _ => .inr ⟨n, 0, C, e, h, rfl, hw, by simpa using hs⟩⟩
def allocS (T : Tab) (σ : St) (d : Option Nat) (t : TypeId) : Prop × St :=
  match d, T.zr t with
  | some d, some z => (True, ((σ.kill d).setB d ⟨true, .c z⟩).put (some d) (.ptr d 0))
  | _, _ => (False, σ)
def boxS (σ : St) (d : Option Nat) (v : AV) : Prop × St :=
  match d, v.cells with
  | some d, some z => (True, ((σ.kill d).setB d ⟨true, .c z⟩).put (some d) (.ptr d 0))
  | _, _ => (False, σ)
theorem alloc_sound (hT : TabOK P T) {σ : St} (h : Conc κ β σ.get σ.blk a w) {d : Option Nat} (hd : ∀ t, d = some t → t < κ.nt) {t : TypeId} (hp : (allocS T σ d t).1) :
    ∃ x w', (Instr.alloc t true (.tuple #[])).run P w = .ok x w' ∧ ∃ β', Conc κ β' (allocS T σ d t).2.get (allocS T σ d t).2.blk (a.put d x) w' := by
  unfold allocS at *
  cases d with
  | none => exact False.elim hp
  | some d =>
    cases hz : T.zr t with
    | none => simp [hz] at hp
    | some z =>
      simp only
      obtain ⟨i, v, h1, h2, h3, h4⟩ := hT.zr t z hz
      have hz' : (zeroValue t).run P w = .ok v w := by simp [zeroValue, run_typeInfo h1, h2]
      refine ⟨.pointer (some ⟨w.heap.size, 0, none⟩), w.alloc (.cells v.cells t), ?_, ?_⟩
      · simp [Instr.alloc, hz', newVar, newRow]
      · exact h.made d (hd d rfl) _ _ (.c z) (by simp [Con.len, h3]) (fun j c hj => h4 w _ j c hj) (fun _ _ _ hb _ => RV.ptr_made hb)
theorem box_sound {σ : St} (h : Conc κ β σ.get σ.blk a w) {d : Option Nat} (hd : ∀ t, d = some t → t < κ.nt) {t : TypeId} {v : AV} {u : Value} (hv : RV κ β σ.blk w v u) (hp : (boxS σ d v).1) :
    ∃ x w', (Instr.box t u).run P w = .ok x w' ∧ ∃ β', Conc κ β' (boxS σ d v).2.get (boxS σ d v).2.blk (a.put d x) w' := by
  unfold boxS at *
  cases d with
  | none => exact False.elim hp
  | some d =>
    cases hz : v.cells with
    | none => simp [hz] at hp
    | some z =>
      simp only
      obtain ⟨h1, h2⟩ := RI.cells (hv.ri (AV.cells_im hz)) hz
      refine ⟨.pointer (some ⟨w.heap.size, 0, none⟩), w.alloc (.cells u.cells t), ?_, ?_⟩
      · simp [Instr.box, newVar, newRow]
      · exact h.made d (hd d rfl) _ _ (.c z) (by simp [Con.len, h1]) (fun j c hj => h2 j c hj) (fun _ _ _ hb _ => RV.ptr_made hb)
def makeS (T : Tab) (σ : St) (d : Option Nat) (t : TypeId) (l c : AV) : Prop × St :=
  match d, T.nk t, intOfAV l, intOfAV c with
  | some d, some k, some l, some c => (l = c ∧ 0 ≤ l ∧ (∃ e b, T.sl t = some (e, 1, b) ∧ (b : Int) * l ≤ 281474976710656 ∧ l ≤ 9223372036854775807),
      ((σ.kill d).setB d ⟨true, .n k (List.replicate l.toNat 0)⟩).put (some d) (.os d 1 0 l.toNat))
  | _, _, _, _ => (False, σ)
theorem make_sound (hT : TabOK P T) {σ : St} (h : Conc κ β σ.get σ.blk a w) {d : Option Nat} (hd : ∀ t, d = some t → t < κ.nt) {t : TypeId} {l c : AV} {lu cu : Value}
    (hl : RV κ β σ.blk w l lu) (hc : RV κ β σ.blk w c cu) (hp : (makeS T σ d t l c).1) :
    ∃ x w', (Instr.makeSlice t lu cu).run P w = .ok x w' ∧ ∃ β', Conc κ β' (makeS T σ d t l c).2.get (makeS T σ d t l c).2.blk (a.put d x) w' := by
  unfold makeS at *
  split at hp
  · rename_i d k n m e1 e2 e3
    simp only at hp ⊢
    obtain ⟨rfl, h0, e, b, g1, g2, g3⟩ := hp
    obtain ⟨kl, rfl⟩ := hl.int_inv e2
    obtain ⟨kc, rfl⟩ := hc.int_inv e3
    obtain ⟨q1, i, q2, q3, q4, z, q5, q6⟩ := hT.sl _ _ _ _ g1
    obtain ⟨e', by', i', r1, r2, r3⟩ := hT.nk _ _ e1
    rw [g1] at r1
    simp only [Option.some.injEq, Prod.mk.injEq, true_and] at r1
    obtain ⟨rfl, rfl⟩ := r1
    rw [q2] at r2
    simp only [Option.some.injEq] at r2
    subst r2
    rw [q5] at r3
    simp only [Option.some.injEq] at r3
    subst r3
    have hr := run_make (P := P) w t e i _ q1 q2 q5 kl kc n n h0 (Int.le_refl _) (by rw [q4]; exact g2) g3
    refine ⟨_, _, hr, ?_⟩
    refine h.made d (hd d rfl) _ _ (.n k (List.replicate n.toNat 0)) (by simp [Con.len, size_madeCells, q3]) (fun j c hj => ?_) (fun _ _ _ hb hw => RV.os_made hb hw (Nat.le_refl _) (by simp [size_madeCells, q3]))
    simp only [Con.val, List.getElem?_replicate] at hj
    split at hj
    · simp only [Option.map_some, Option.some.injEq] at hj
      subst hj
      refine ⟨.int k 0, ?_, RI.raw _⟩
      rename_i hlt
      simp [madeCells, q3, hlt, Value.cells]
      rw [Nat.mod_one]; rfl
    · cases hj
  · exact False.elim hp
def Con.puts : Con → Nat → List AV → Option Con
  | con, _, [] => some con
  | con, j, v :: vs => match con.put j v with
    | some con' => con'.puts (j + 1) vs
    | none => none
theorem puts_len : ∀ (vs : List AV) (con con' : Con) (j : Nat), con.puts j vs = some con' → con'.len = con.len
  | [], con, con', j, h => by simp only [Con.puts, Option.some.injEq] at h; rw [h]
  | v :: vs, con, con', j, h => by
    simp only [Con.puts] at h
    cases hp : con.put j v with
    | none => simp [hp] at h
    | some c1 =>
      simp only [hp] at h
      rw [puts_len vs c1 con' (j + 1) h, (Con.put_spec hp).2.1]
def storeS (T : Tab) (σ : St) (t : TypeId) (p v : AV) : Prop × St :=
  match p, v.cells with
  | .ptr id off, some vs => match σ.blk id with
    | some ⟨true, con⟩ => match con.puts off vs with
      | some con' => (off + vs.length ≤ con.len ∧ (T.vr t = some none ∧ vs.length = 1 ∨ T.vr t = some (some vs.length)), σ.setB id ⟨true, con'⟩)
      | none => (False, σ)
    | _ => (False, σ)
  | _, _ => (False, σ)
theorem upd_upd {α : Type} (f : Nat → α) (t : Nat) (u v : α) : upd (upd f t u) t v = upd f t v := by
  funext i; simp only [upd]; split <;> rfl
theorem stores_sound {id b base : Nat} (hβ : β id = some (b, base)) : ∀ (vs : List AV) (us : List Value) (j i : Nat) (con con' : Con) (G : Nat → Option Blk) (w : World),
    Conc κ β F G a w → G id = some ⟨true, con⟩ → us.length = vs.length → (∀ (k : Nat) (c : AV), vs[k]? = some c → ∃ u : Value, us[k]? = some u ∧ RI w (XG κ β G) c u) →
    con.puts (j + i) vs = some con' → j + i + vs.length ≤ con.len →
    ∃ w', (storeCells ⟨b, base + j, none⟩ us i).run P w = .ok () w' ∧ Conc κ β F (upd G id (some ⟨true, con'⟩)) a w'
  | [], [], j, i, con, con', G, w, h, hG, _, _, hp, _ => by
    simp only [Con.puts, Option.some.injEq] at hp
    subst hp
    refine ⟨w, rfl, ?_⟩
    have : upd G id (some ⟨true, con⟩) = G := by
      funext t; simp only [upd]; split
      · rename_i e; subst e; exact hG.symm
      · rfl
    rw [this]; exact h
  | [], _ :: _, _, _, _, _, _, _, _, _, hl, _, _, _ => by simp at hl
  | _ :: _, [], _, _, _, _, _, _, _, _, hl, _, _, _ => by simp at hl
  | v :: vs, u :: us, j, i, con, con', G, w, h, hG, hl, hr, hp, hj => by
    simp only [Con.puts] at hp
    cases hq : con.put (j + i) v with
    | none => simp [hq] at hp
    | some c1 =>
      simp only [hq] at hp
      obtain ⟨u', e1, e2⟩ := hr 0 v rfl
      simp only [List.getElem?_cons_zero, Option.some.injEq] at e1
      subst e1
      simp only [List.length_cons] at hj
      obtain ⟨⟨u0, k1⟩, k2, k3, k4⟩ := h.store hG hβ (j := j + i) (by omega) hq e2
      have hlen := (Con.put_spec hq).2.1
      have hbX : XG κ β G b := .inr ⟨id, con, base, hG, hβ⟩
      have ih := stores_sound hβ vs us j (i + 1) c1 con' (upd G id (some ⟨true, c1⟩)) (w.setCell ⟨b, base + (j + i), none⟩ u) k4 (upd_same _ _ _) (by simpa using hl)
        (fun k c hk => by
          obtain ⟨u', g1, g2⟩ := hr (k + 1) c (by simpa using hk)
          refine ⟨u', by simpa using g1, g2.keep ⟨by simp, fun m hm hx => ?_⟩ (fun m _ hm => ?_)⟩
          · exact Below.heap_setCell _ _ _ _ (fun e => hx (e ▸ hbX))
          · refine XG.weak (fun i c hi => ?_) hm
            by_cases e : id = i
            · subst e; exact ⟨con, hG⟩
            · rw [upd_other _ _ e] at hi; exact ⟨c, hi⟩) (by rw [← hp, Nat.add_assoc]) (by rw [hlen]; omega)
      obtain ⟨w', g1, g2⟩ := ih
      rw [upd_upd] at g2
      refine ⟨w', ?_, g2⟩
      simp only [storeCells, Sem.run_bind, Addr.add_lit]
      rw [run_store P w _ u _ k3]
      have e5 : base + j + i = base + (j + i) := by omega
      rw [e5]
      simp only [k1, k2, Bool.false_eq_true, if_false, Result.andThen_ok]
      exact g1
theorem store_sound (hT : TabOK P T) {σ : St} (h : Conc κ β σ.get σ.blk a w) {t : TypeId} {p v : AV} {pu vu : Value} (hpv : RV κ β σ.blk w p pu) (hv : RV κ β σ.blk w v vu)
    (hp : (storeS T σ t p v).1) : ∃ w', (Instr.storeAt t pu vu).run P w = .ok () w' ∧ Conc κ β (storeS T σ t p v).2.get (storeS T σ t p v).2.blk a w' := by
  unfold storeS at *
  split at hp
  · rename_i id off vs hvs
    split at hp
    · rename_i con hG
      split at hp
      · rename_i con' hput
        simp only at hp
        simp only
        obtain ⟨h1, h2⟩ := hp
        obtain ⟨b, base, hβ, rfl⟩ := hpv _ hG
        obtain ⟨c1, c2⟩ := RI.cells (hv.ri (AV.cells_im hvs)) hvs
        obtain ⟨w', g1, g2⟩ := stores_sound (P := P) hβ vs vu.cells.toList off 0 con con' σ.blk w h hG (by simpa using c1) (fun k c hk => by
          obtain ⟨u, q1, q2⟩ := c2 k c hk
          exact ⟨u, by simpa using q1, q2⟩) hput (by omega)
        refine ⟨w', ?_, ?_⟩
        · have hsz : ∀ w, (sizeOf t).run P w = .ok vs.length w := by
            intro w
            rcases h2 with ⟨h2, h3⟩ | h2
            · obtain ⟨_, i, q1, q2⟩ := hT.vr1 t h2
              rw [run_sizeOf q1, q2, h3]
            · obtain ⟨_, i, q1, q2⟩ := hT.vrn t _ h2
              rw [run_sizeOf q1, q2]
          simp only [Instr.storeAt, Instr.sureAddr, storeVar, Sem.run_bind, Sem.run_pure, Result.andThen_ok, hsz, c1]
          simpa using g1
        · rw [St.get_setB, St.blk_setB]; exact g2
      · exact False.elim hp
    · exact False.elim hp
  · exact False.elim hp
end
end Go.Hl

namespace Go.Hl
open Go Go.RowKit
def numsOf (k : IntKind) : List AV → Option (List Int)
  | [] => some []
  | .raw (.int k' x) :: l => if k = k' then (numsOf k l).map (x :: ·) else none
  | _ :: _ => none
def cellsOfL : List AV → Option (List AV)
  | [] => some []
  | v :: l => match v.cells, cellsOfL l with
    | some cs, some ds => some (cs ++ ds)
    | _, _ => none
def seqFrom (i : Nat) : List (Nat × Operand) → Bool
  | [] => true
  | p :: l => (p.1 == i) && seqFrom (i + 1) l
def bsliceS (T : Tab) (σ : St) (d : Option Nat) (t : TypeId) (len : Nat) (parts : List (Nat × Operand)) : Prop × St :=
  match d, T.sl t with
  | some d, some (_, s, _) =>
    let vs := parts.map fun p => ev σ.get p.2
    match T.nk t with
    | some k => match numsOf k vs with
      | some xs => (seqFrom 0 parts = true ∧ parts.length = len ∧ len * s ≤ 16777216, ((σ.kill d).setB d ⟨true, .n k xs⟩).put (some d) (.os d 1 0 len))
      | none => (False, σ)
    | none => match cellsOfL vs with
      | some cs => (seqFrom 0 parts = true ∧ parts.length = len ∧ len * s ≤ 16777216 ∧ (vs.all fun v => match v.cells with | some c => c.length == s | none => false) = true,
          ((σ.kill d).setB d ⟨true, .c cs⟩).put (some d) (.os d s 0 len))
      | none => (False, σ)
  | _, _ => (False, σ)
section
variable {P : Program} {T : Tab} {S : FuncId → Option Sp} {κ : Ctx} {β : Nat → Option (Nat × Nat)} {F : Nat → AV} {G : Nat → Option Blk} {a : Act} {w : World} {X : Nat → Prop}
theorem fill_seq (size : Nat) : ∀ (vals : List (Nat × Value)) (i : Nat) (C : Array Value), (∀ (j : Nat) (p : Nat × Value), vals[j]? = some p → p.1 = i + j ∧ p.2.cells.size = size) →
    (i + vals.length) * size ≤ C.size →
    ∃ C', Instr.fill (fun i => some (i * size, size)) C vals = some C' ∧ C'.size = C.size ∧
      ∀ m : Nat, C'[m]? = if i * size ≤ m ∧ m < (i + vals.length) * size then ((vals.flatMap fun p => p.2.cells.toList)[m - i * size]?) else C[m]?
  | [], i, C, _, _ => ⟨C, rfl, rfl, fun m => by rw [if_neg]; simp⟩
  | (i', x) :: vals, i, C, hv, hs => by
    have h0 := hv 0 (i', x) rfl
    simp only [Nat.add_zero] at h0
    obtain ⟨rfl, hx⟩ := h0
    have hm1 : (i' + (vals.length + 1)) * size = (i' + 1 + vals.length) * size := by congr 1; omega
    have hm2 : (i' + 1) * size = i' * size + size := Nat.succ_mul _ _
    have hm3 : (i' + 1) * size ≤ (i' + 1 + vals.length) * size := Nat.mul_le_mul_right _ (by omega)
    simp only [List.length_cons] at hs
    have hg := foldl_set x.cells (i' * size) x.cells.size (Nat.le_refl _) C (by omega)
    have hfold : (x.cells.zipIdx.foldl (fun cs (p : Value × Nat) => cs.setIfInBounds (i' * size + p.2) p.1) C) = (x.cells.toList.zipIdx.take x.cells.size).foldl (fun cs (p : Value × Nat) => cs.setIfInBounds (i' * size + p.2) p.1) C := by
      rw [← Array.foldl_toList]
      simp [Array.toList_zipIdx, List.take_of_length_le]
    have hsz : ∀ (l : List (Value × Nat)) (c : Array Value), (l.foldl (fun cs (p : Value × Nat) => cs.setIfInBounds (i' * size + p.2) p.1) c).size = c.size := by
      intro l
      induction l with
      | nil => intro c; rfl
      | cons p l ih => intro c; simp [ih]
    obtain ⟨C', k1, k2, k3⟩ := fill_seq size vals (i' + 1) ((x.cells.toList.zipIdx.take x.cells.size).foldl (fun cs (p : Value × Nat) => cs.setIfInBounds (i' * size + p.2) p.1) C)
      (fun j p hp => by have := hv (j + 1) p (by simpa using hp); exact ⟨by omega, this.2⟩) (by rw [hsz]; omega)
    refine ⟨C', ?_, by rw [k2, hsz], fun m => ?_⟩
    · simp only [Instr.fill]
      rw [if_neg (by simp [hx]; omega), hfold]
      exact k1
    · rw [k3 m, hg]
      simp only [List.length_cons, List.flatMap_cons]
      by_cases h1 : (i' + 1) * size ≤ m ∧ m < (i' + 1 + vals.length) * size
      · rw [if_pos h1, if_pos (by omega), List.getElem?_append_right (by simp; omega)]
        congr 1
        simp [hx]; omega
      · rw [if_neg h1]
        by_cases h2 : i' * size ≤ m ∧ m < i' * size + x.cells.size
        · rw [if_pos h2, if_pos (by omega), List.getElem?_append_left (by simp; omega)]
          simp
        · rw [if_neg h2, if_neg (by omega)]
theorem numsOf_spec {k : IntKind} : ∀ (vs : List AV) (xs : List Int), numsOf k vs = some xs → xs.length = vs.length ∧ ∀ (j : Nat) (x : Int), xs[j]? = some x → vs[j]? = some (AV.raw (.int k x))
  | [], xs, h => by simp only [numsOf, Option.some.injEq] at h; subst h; simp
  | v :: vs, xs, h => by
    unfold numsOf at h
    split at h
    · rename_i he; cases he
    · rename_i k' x l he
      simp only [List.cons.injEq] at he
      obtain ⟨rfl, rfl⟩ := he
      split at h
      · rename_i e
        subst e
        simp only [Option.map_eq_some_iff] at h
        obtain ⟨ys, h1, rfl⟩ := h
        obtain ⟨i1, i2⟩ := numsOf_spec vs ys h1
        refine ⟨by simp [i1], fun j x hj => ?_⟩
        cases j with
        | zero => simp at hj; subst hj; rfl
        | succ j => simpa using i2 j x (by simpa using hj)
      · cases h
    · cases h
theorem cellsOfL_spec : ∀ (vs cs : List AV), cellsOfL vs = some cs → ∀ (us : List Value), us.length = vs.length →
    (∀ (j : Nat) (v : AV), vs[j]? = some v → ∃ u : Value, us[j]? = some u ∧ (v.im = true → RI w X v u)) →
    (us.flatMap fun u => u.cells.toList).length = cs.length ∧ ∀ (m : Nat) (c : AV), cs[m]? = some c → ∃ u : Value, (us.flatMap fun u => u.cells.toList)[m]? = some u ∧ RI w X c u
  | [], cs, h, us, hl, _ => by
    simp only [cellsOfL, Option.some.injEq] at h; subst h
    have : us = [] := List.eq_nil_of_length_eq_zero (by simpa using hl)
    subst this
    simp
  | v :: vs, cs, h, [], hl, _ => by simp at hl
  | v :: vs, cs, h, u :: us, hl, hr => by
    simp only [cellsOfL] at h
    split at h
    · rename_i c1 c2 e1 e2
      simp only [Option.some.injEq] at h
      subst h
      obtain ⟨u', g1, g2⟩ := hr 0 v rfl
      simp only [List.getElem?_cons_zero, Option.some.injEq] at g1
      subst g1
      obtain ⟨k1, k2⟩ := RI.cells (g2 (AV.cells_im e1)) e1
      obtain ⟨i1, i2⟩ := cellsOfL_spec vs c2 e2 us (by simpa using hl) (fun j v hj => by simpa using hr (j + 1) v (by simpa using hj))
      refine ⟨by simp only [List.flatMap_cons, List.length_append, i1, Array.length_toList, k1], fun m c hm => ?_⟩
      simp only [List.flatMap_cons]
      by_cases hlt : m < c1.length
      · rw [List.getElem?_append_left hlt] at hm
        rw [List.getElem?_append_left (by simp [k1, hlt])]
        obtain ⟨u', q1, q2⟩ := k2 m c hm
        exact ⟨u', by simpa using q1, q2⟩
      · rw [List.getElem?_append_right (by omega)] at hm
        rw [List.getElem?_append_right (by simp [k1]; omega)]
        obtain ⟨u', q1, q2⟩ := i2 _ c hm
        exact ⟨u', by simpa [k1] using q1, q2⟩
    · cases h
theorem seqFrom_spec : ∀ (l : List (Nat × Operand)) (i : Nat), seqFrom i l = true → ∀ (j : Nat) (p : Nat × Operand), l[j]? = some p → p.1 = i + j
  | [], _, _, _, _, h => by simp at h
  | p :: l, i, h, j, q, hj => by
    simp only [seqFrom, Bool.and_eq_true, beq_iff_eq] at h
    cases j with
    | zero => simp at hj; subst hj; simpa using h.1
    | succ j => have := seqFrom_spec l (i + 1) h.2 j q (by simpa using hj); omega
theorem flatMap_one (us : List Value) (h : ∀ u ∈ us, u.cells.toList = [u]) : us.flatMap (fun u => u.cells.toList) = us := by
  induction us with
  | nil => rfl
  | cons u us ih =>
    simp only [List.flatMap_cons, h u (.head _), ih (fun x hx => h x (.tail _ hx))]
    rfl
theorem bslice_run (hT : TabOK P T) {t e : TypeId} {s by_ len : Nat} (h1 : T.sl t = some (e, s, by_)) {vals : List (Nat × Value)} (hlen : vals.length = len) (hb : len * s ≤ 16777216)
    (hv : ∀ (j : Nat) (p : Nat × Value), vals[j]? = some p → p.1 = j ∧ p.2.cells.size = s) (w : World) :
    ∃ C : Array Value, (Instr.buildSlice t len vals.toArray).run P w = .ok (.slice (some ⟨w.heap.size, 0, none⟩) len len) (w.alloc (.cells C e)) ∧ C.size = len * s ∧
      ∀ m : Nat, C[m]? = (vals.flatMap fun p => p.2.cells.toList)[m]? := by
  obtain ⟨h2, i, h3, h4, h5, z, h6, h7⟩ := hT.sl t e s by_ h1
  have hfl : (vals.flatMap fun p => p.2.cells.toList).length = vals.length * s := by
    clear hlen
    have : ∀ l : List (Nat × Value), (∀ p ∈ l, p.2.cells.size = s) → (l.flatMap fun p => p.2.cells.toList).length = l.length * s := by
      intro l
      induction l with
      | nil => intro _; simp
      | cons p l ih =>
        intro hp
        simp only [List.flatMap_cons, List.length_append, List.length_cons, Nat.succ_mul, Array.length_toList, hp p (.head _)]
        rw [ih (fun q hq => hp q (.tail _ hq))]
        omega
    exact this vals (fun p hp => by
      obtain ⟨j, hj⟩ := List.getElem?_of_mem hp
      exact (hv j p hj).2)
  have key : ∀ Z : Array Value, Z.size = len * s → ∃ C : Array Value, Instr.fill (fun i => some (i * s, s)) Z vals = some C ∧ C.size = len * s ∧ ∀ m : Nat, C[m]? = (vals.flatMap fun p => p.2.cells.toList)[m]? := by
    intro Z hZ
    obtain ⟨C', k1, k2, k3⟩ := fill_seq s vals 0 Z (fun j p hp => by simpa using hv j p hp) (by simp [hlen, hZ])
    refine ⟨C', k1, by rw [k2, hZ], fun m => ?_⟩
    rw [k3]
    by_cases hm : m < vals.length * s
    · rw [if_pos (by simpa using hm)]; simp
    · rw [if_neg (by simpa using hm), List.getElem?_eq_none (by rw [hfl]; omega)]
      simp
      rw [hZ, ← hlen]; omega
  by_cases hz : len * s = 0
  · obtain ⟨C, k1, k2, k3⟩ := key (Array.map (fun x => (#[] : Array Value)[x % (#[] : Array Value).size]!) (Array.range (len * s))) (by simp)
    refine ⟨C, ?_, k2, k3⟩
    simp only [Instr.buildSlice, Sem.run_bind, run_underlying h2, Result.andThen_ok, run_sizeOf h3, h4]
    rw [if_neg (by omega), if_pos hz]
    simp only [pure_bind, k1]
    simp [newRow]
  · obtain ⟨C, k1, k2, k3⟩ := key (Array.map (fun x => z.cells[x % z.cells.size]!) (Array.range (len * s))) (by simp)
    refine ⟨C, ?_, k2, k3⟩
    have hz' : ∀ w, (zeroValue e).run P w = .ok z w := fun w => by simp [zeroValue, run_typeInfo h3, h6]
    simp only [Instr.buildSlice, Sem.run_bind, run_underlying h2, Result.andThen_ok, run_sizeOf h3, h4]
    rw [if_neg (by omega), if_neg hz]
    simp only [Sem.run_bind, hz', Sem.run_pure, Result.andThen_ok, k1]
    simp [newRow]
theorem bslice_sound (hT : TabOK P T) {σ : St} (h : Conc κ β σ.get σ.blk a w) {d : Option Nat} (hd : ∀ t, d = some t → t < κ.nt) {t : TypeId} {len : Nat} {parts : List (Nat × Operand)}
    (hp : (bsliceS T σ d t len parts).1) :
    ∃ x w', (Instr.buildSlice t len (parts.map fun p => (p.1, a.eval p.2)).toArray).run P w = .ok x w' ∧
      ∃ β', Conc κ β' (bsliceS T σ d t len parts).2.get (bsliceS T σ d t len parts).2.blk (a.put d x) w' := by
  have hus : ∀ (j : Nat) (v : AV), (parts.map fun p => ev σ.get p.2)[j]? = some v → ∃ u : Value, (parts.map fun p => a.eval p.2)[j]? = some u ∧ (v.im = true → RI w (XG κ β σ.blk) v u) := by
    intro j v hj
    rw [List.getElem?_map] at hj ⊢
    cases hq : parts[j]? with
    | none => rw [hq] at hj; cases hj
    | some p =>
      rw [hq] at hj
      simp only [Option.map_some, Option.some.injEq] at hj
      subst hj
      exact ⟨_, rfl, fun him => (h.ev p.2).ri him⟩
  have hfm : (parts.map fun p => (p.1, a.eval p.2)).flatMap (fun p => p.2.cells.toList) = (parts.map fun p => a.eval p.2).flatMap fun u => u.cells.toList := by
    simp [List.flatMap_map]
  unfold bsliceS at *
  split at hp
  · rename_i d e s by_ h1
    cases hk : T.nk t with
    | some k =>
      simp only [hk] at hp ⊢
      cases hn : numsOf k (parts.map fun p => ev σ.get p.2) with
      | none => simp [hn] at hp
      | some xs =>
        simp only [hn] at hp ⊢
        obtain ⟨g1, g2, g3⟩ := hp
        obtain ⟨q1, q2⟩ := numsOf_spec _ _ hn
        obtain ⟨e', by', i', r1, r2, r3⟩ := hT.nk _ _ hk
        rw [h1] at r1
        simp only [Option.some.injEq, Prod.mk.injEq] at r1
        obtain ⟨rfl, rfl, rfl⟩ := r1
        have hval : ∀ (j : Nat) (x : Int), xs[j]? = some x → (parts.map fun p => a.eval p.2)[j]? = some (.int k x) := by
          intro j x hx
          obtain ⟨u, k1, k2⟩ := hus j _ (q2 j x hx)
          rw [k1, RI.raw_inv (k2 rfl)]
        have hxl : xs.length = len := by rw [q1, ← g2]; simp
        have hval' : ∀ (j : Nat) (p : Nat × Value), (parts.map fun p => (p.1, a.eval p.2))[j]? = some p → p.1 = j ∧ p.2.cells.size = 1 ∧ p.2.cells.toList = [p.2] := by
          intro j p hp
          rw [List.getElem?_map] at hp
          cases hq : parts[j]? with
          | none => rw [hq] at hp; cases hp
          | some q =>
            rw [hq] at hp
            simp only [Option.map_some, Option.some.injEq] at hp
            subst hp
            have hj : j < xs.length := by
              rw [q1]; simp
              rcases Nat.lt_or_ge j parts.length with h' | h'
              · exact h'
              · simp [List.getElem?_eq_none h'] at hq
            have e9 := hval j xs[j] (by simp [hj])
            rw [List.getElem?_map, hq] at e9
            simp only [Option.map_some, Option.some.injEq] at e9
            have e8 := seqFrom_spec _ _ g1 j q hq
            refine ⟨by simpa using e8, ?_, ?_⟩ <;> simp [e9, Value.cells]
        obtain ⟨C, k1, k2, k3⟩ := bslice_run (P := P) hT h1 (vals := parts.map fun p => (p.1, a.eval p.2)) (by simpa using g2) g3 (fun j p hp => ⟨(hval' j p hp).1, (hval' j p hp).2.1⟩) w
        refine ⟨_, _, k1, h.made d (hd d rfl) C e (.n k xs) (by simp [Con.len, k2, hxl]) (fun j c hj => ?_) (fun _ _ _ hb hw => RV.os_made hb hw (Nat.le_refl _) (by simp [k2]))⟩
        simp only [Con.val, Option.map_eq_some_iff] at hj
        obtain ⟨x, hx, rfl⟩ := hj
        refine ⟨.int k x, ?_, RI.raw _⟩
        rw [k3, hfm, flatMap_one]
        · exact hval j x hx
        · intro u hu
          obtain ⟨j', hj'⟩ := List.getElem?_of_mem hu
          rw [List.getElem?_map] at hj'
          cases hq : parts[j']? with
          | none => rw [hq] at hj'; cases hj'
          | some q =>
            rw [hq] at hj'
            simp only [Option.map_some, Option.some.injEq] at hj'
            subst hj'
            exact (hval' j' (q.1, a.eval q.2) (by simp [hq])).2.2
    | none =>
      simp only [hk] at hp ⊢
      cases hn : cellsOfL (parts.map fun p => ev σ.get p.2) with
      | none => simp [hn] at hp
      | some cs =>
        simp only [hn] at hp ⊢
        obtain ⟨g1, g2, g3, g4⟩ := hp
        obtain ⟨q1, q2⟩ := cellsOfL_spec (w := w) (X := XG κ β σ.blk) _ _ hn (parts.map fun p => a.eval p.2) (by simp) hus
        have hval' : ∀ (j : Nat) (p : Nat × Value), (parts.map fun p => (p.1, a.eval p.2))[j]? = some p → p.1 = j ∧ p.2.cells.size = s := by
          intro j p hp
          rw [List.getElem?_map] at hp
          cases hq : parts[j]? with
          | none => rw [hq] at hp; cases hp
          | some q =>
            rw [hq] at hp
            simp only [Option.map_some, Option.some.injEq] at hp
            subst hp
            have h9 := seqFrom_spec _ _ g1 j q hq
            refine ⟨by simpa using h9, ?_⟩
            have h8 := List.all_eq_true.1 g4 (ev σ.get q.2) (List.mem_map.2 ⟨q, List.mem_of_getElem? hq, rfl⟩)
            cases hc : (ev σ.get q.2).cells with
            | none => simp [hc] at h8
            | some c =>
              simp only [hc, beq_iff_eq] at h8
              obtain ⟨m1, _⟩ := RI.cells ((h.ev q.2).ri (AV.cells_im hc)) hc
              simp only
              omega
        obtain ⟨C, k1, k2, k3⟩ := bslice_run (P := P) hT h1 (vals := parts.map fun p => (p.1, a.eval p.2)) (by simpa using g2) g3 hval' w
        have hcl : cs.length ≤ C.size := by
          rcases Nat.lt_or_ge C.size cs.length with h' | h'
          · obtain ⟨u, m1, _⟩ := q2 C.size cs[C.size] (by simp [h'])
            rw [← hfm, ← k3] at m1
            simp at m1
          · exact h'
        refine ⟨_, _, k1, h.made d (hd d rfl) C e (.c cs) (by simpa [Con.len] using hcl) (fun j c hj => ?_) (fun _ _ _ hb hw => RV.os_made hb hw (Nat.le_refl _) (by simp [k2]))⟩
        obtain ⟨u, m1, m2⟩ := q2 j c hj
        exact ⟨u, by rw [k3, hfm]; exact m1, m2⟩
  · exact False.elim hp
end
end Go.Hl

namespace Go.Hl
open Go Go.RowKit
def viewS (G : Nat → Option Blk) (s : Nat) (x : AV) : Option (Con × Nat) :=
  match x with
  | .nul => some (.c [], 0)
  | .ns k ys => if s = 1 then some (.n k ys, ys.length) else none
  | .sl s' n cs => if s' = s then some (.c cs, n) else none
  | .os id s' off len => if s' = s then match G id with
      | some ⟨_, .n k xs⟩ => some (.n k ((xs.drop off).take len), len)
      | some ⟨_, .c cs⟩ => some (.c ((cs.drop off).take (len * s)), len)
      | none => none
    else none
  | _ => none
def Con.app : Con → Con → Option Con
  | .c [], .n k ys => some (.n k ys)
  | .n k xs, .c [] => some (.n k xs)
  | .n k xs, .n k' ys => if k = k' then some (.n k (xs ++ ys)) else none
  | .c cs, .c ds => if ds.all AV.one = true then some (.c (cs ++ ds)) else none
  | _, _ => none
theorem Con.app_spec {a b c : Con} (h : a.app b = some c) : c.len = a.len + b.len ∧ (∀ j v, b.val j = some v → v.one = true) ∧
    ∀ j v, c.val j = some v → (j < a.len ∧ a.val j = some v) ∨ (a.len ≤ j ∧ b.val (j - a.len) = some v) := by
  unfold Con.app at h
  split at h
  · rename_i k ys
    simp only [Option.some.injEq] at h
    subst h
    refine ⟨by simp [Con.len], fun j v hj => ?_, fun j v hj => .inr ⟨by simp [Con.len], by simpa [Con.len] using hj⟩⟩
    simp only [Con.val, Option.map_eq_some_iff] at hj
    obtain ⟨x, _, rfl⟩ := hj
    rfl
  · rename_i k xs
    simp only [Option.some.injEq] at h
    subst h
    refine ⟨by simp [Con.len], fun j v hj => by simp [Con.val] at hj, fun j v hj => .inl ⟨?_, hj⟩⟩
    simp only [Con.val, Option.map_eq_some_iff] at hj
    obtain ⟨x, hx, rfl⟩ := hj
    rcases Nat.lt_or_ge j xs.length with h' | h'
    · exact h'
    · simp [List.getElem?_eq_none h'] at hx
  · rename_i k xs k' ys
    split at h
    · rename_i e
      subst e
      simp only [Option.some.injEq] at h
      subst h
      refine ⟨by simp [Con.len], fun j v hj => ?_, fun j v hj => ?_⟩
      · simp only [Con.val, Option.map_eq_some_iff] at hj
        obtain ⟨x, _, rfl⟩ := hj
        rfl
      · simp only [Con.val, Con.len] at hj ⊢
        by_cases hlt : j < xs.length
        · rw [List.getElem?_append_left hlt] at hj; exact .inl ⟨hlt, hj⟩
        · rw [List.getElem?_append_right (by omega)] at hj; exact .inr ⟨by omega, hj⟩
    · cases h
  · rename_i cs ds
    split at h
    · rename_i e
      simp only [Option.some.injEq] at h
      subst h
      refine ⟨by simp [Con.len], fun j v hj => ?_, fun j v hj => ?_⟩
      · exact List.all_eq_true.1 e v (List.mem_of_getElem? hj)
      · simp only [Con.val, Con.len] at hj ⊢
        by_cases hlt : j < cs.length
        · rw [List.getElem?_append_left hlt] at hj; exact .inl ⟨hlt, hj⟩
        · rw [List.getElem?_append_right (by omega)] at hj; exact .inr ⟨by omega, hj⟩
    · cases h
  · cases h
def appendS (T : Tab) (σ : St) (d : Option Nat) (t : TypeId) (s x : AV) : Prop × St :=
  match d, T.sl t with
  | some d, some (_, sz, by_) => match viewS σ.blk sz x with
    | some (nw, m) => match s with
      | .nul => match (Con.c []).app nw with
        | some con' => (nw.len = m * sz ∧ 0 < sz ∧ m * by_ ≤ 140737488355328 ∧ m ≤ 9223372036854775807,
            ((σ.kill d).setB d ⟨true, con'⟩).put (some d) (.os d sz 0 m))
        | none => (False, σ)
      | .os id s' off len => match σ.blk id with
        | some ⟨true, con⟩ => match con.app nw with
          | some con' => (s' = sz ∧ off = 0 ∧ con.len = len * sz ∧ nw.len = m * sz ∧ 0 < sz ∧ (len + m) * by_ ≤ 140737488355328 ∧ len + m ≤ 9223372036854775807 ∧ T.mu = false,
              (((σ.kill id).kill d).setB d ⟨true, con'⟩).put (some d) (.os d sz 0 (len + m)))
          | none => (False, σ)
        | _ => (False, σ)
      | _ => (False, σ)
    | none => (False, σ)
  | _, _ => (False, σ)
section
variable {P : Program} {T : Tab} {S : FuncId → Option Sp} {κ : Ctx} {β : Nat → Option (Nat × Nat)} {F : Nat → AV} {G : Nat → Option Blk} {a : Act} {w : World} {X : Nat → Prop}
theorem vals_of {n : Nat} {P : Nat → Value → Prop} (h : ∀ j, j < n → ∃ v, P j v) : ∃ vs : List Value, vs.length = n ∧ ∀ j v, vs[j]? = some v → P j v := by
  have : ∀ j, ∃ v, j < n → P j v := fun j => by
    by_cases hj : j < n
    · obtain ⟨v, hv⟩ := h j hj; exact ⟨v, fun _ => hv⟩
    · exact ⟨undef, fun h => absurd h hj⟩
  obtain ⟨f, hf⟩ := Classical.axiomOfChoice this
  refine ⟨(List.range n).map f, by simp, fun j v hj => ?_⟩
  rw [List.getElem?_map] at hj
  by_cases hlt : j < n
  · rw [List.getElem?_range hlt] at hj
    simp only [Option.map_some, Option.some.injEq] at hj
    subst hj
    exact hf j hlt
  · rw [List.getElem?_eq_none (by simpa using hlt)] at hj; cases hj
theorem Con.val_lt {con : Con} {j : Nat} {c : AV} (h : con.val j = some c) : j < con.len := by
  cases con with
  | n k xs =>
    simp only [Con.val, Option.map_eq_some_iff] at h
    obtain ⟨x, hx, _⟩ := h
    rcases Nat.lt_or_ge j xs.length with h' | h'
    · exact h'
    · simp [List.getElem?_eq_none h'] at hx
  | c cs =>
    simp only [Con.val] at h
    rcases Nat.lt_or_ge j cs.length with h' | h'
    · exact h'
    · simp [List.getElem?_eq_none h'] at h
theorem Con.val_ex {con : Con} {j : Nat} (h : j < con.len) : ∃ c, con.val j = some c := by
  cases con with
  | n k xs => exact ⟨_, by simp only [Con.val, Con.len] at *; rw [List.getElem?_eq_getElem h]; rfl⟩
  | c cs => exact ⟨_, by simp only [Con.val, Con.len] at *; rw [List.getElem?_eq_getElem h]⟩
theorem view_sound (hC : Conc κ β F G a w) {x : AV} {u : Value} (hx : RV κ β G w x u) {s m : Nat} {nw : Con} (hv : viewS G s x = some (nw, m)) (hs : 0 < s) (hl : nw.len = m * s) :
    ∃ ad cap, u = .slice ad m cap ∧ (0 < nw.len → ∃ b o, ad = some ⟨b, o, none⟩ ∧ ∀ j c, nw.val j = some c → ∃ v, w.cell? ⟨b, o + j, none⟩ = some v ∧ RI w (XG κ β G) c v) := by
  unfold viewS at hv
  split at hv
  · simp only [Option.some.injEq, Prod.mk.injEq] at hv
    obtain ⟨rfl, rfl⟩ := hv
    cases hx with
    | nul ad => exact ⟨ad, 0, rfl, fun h => by simp [Con.len] at h⟩
  · rename_i k ys
    split at hv
    · simp only [Option.some.injEq, Prod.mk.injEq] at hv
      obtain ⟨rfl, rfl⟩ := hv
      cases hx with
      | ns _ _ ad b o cap hc ha h =>
        refine ⟨ad, cap, rfl, fun h0 => ⟨b, o, (ha h0).1, fun j c hj => ?_⟩⟩
        simp only [Con.val, Option.map_eq_some_iff] at hj
        obtain ⟨y, hy, rfl⟩ := hj
        exact ⟨_, h j y hy, RI.raw _⟩
    · cases hv
  · rename_i s' n cs
    split at hv
    · simp only [Option.some.injEq, Prod.mk.injEq] at hv
      obtain ⟨rfl, rfl⟩ := hv
      cases hx with
      | sl _ _ _ ad b o cap f hc hl ha h hr =>
        exact ⟨ad, cap, rfl, fun h0 => ⟨b, o, (ha h0).1, fun j c hj => ⟨f j, h j c hj, hr j c hj⟩⟩⟩
    · cases hv
  · rename_i id s' off len
    split at hv
    · rename_i e
      subst e
      obtain ⟨ad, cap, rfl, h1, h2⟩ := hx
      have key : ∀ (wr : Bool) (con : Con), G id = some ⟨wr, con⟩ → ∀ b base C e, β id = some (b, base) → w.heap[b]? = some (.cells C e (0, 0)) →
          ∀ j c, con.val (off + j) = some c → ∃ v, w.cell? ⟨b, base + off + j, none⟩ = some v ∧ RI w (XG κ β G) c v := by
        intro wr con hG b base C e hβ hC' j c hj
        rcases hC.hp id _ hG with h6 | ⟨b2, base2, C2, e2, g1, g2, g3, g4, g5⟩
        · rw [hβ] at h6; cases h6.1
        · rw [hβ] at g1
          simp only [Option.some.injEq, Prod.mk.injEq] at g1
          obtain ⟨rfl, rfl⟩ := g1
          obtain ⟨v, hv, hr⟩ := g4 (off + j) c hj
          exact ⟨v, by rw [cell_of_block g2, Nat.add_assoc]; exact hv, hr⟩
      split at hv
      · rename_i wr k xs hG
        simp only [Option.some.injEq, Prod.mk.injEq] at hv
        obtain ⟨rfl, rfl⟩ := hv
        refine ⟨ad, cap, rfl, fun h0 => ?_⟩
        rcases h2 _ hG with h3 | ⟨b, base, C, e, k1, k2, k3, k4⟩
        · subst h3
          rw [hl] at h0
          have : len = 0 := by omega
          subst this; simp at h0
        · refine ⟨b, base + off, k2, fun j c hj => key wr _ hG b base C e k1 k3 j c ?_⟩
          simp only [Con.val, List.getElem?_take, List.getElem?_drop] at hj ⊢
          split at hj
          · exact hj
          · cases hj
      · rename_i wr cs hG
        simp only [Option.some.injEq, Prod.mk.injEq] at hv
        obtain ⟨rfl, rfl⟩ := hv
        refine ⟨ad, cap, rfl, fun h0 => ?_⟩
        rcases h2 _ hG with h3 | ⟨b, base, C, e, k1, k2, k3, k4⟩
        · subst h3
          rw [hl] at h0
          have : len = 0 := by omega
          subst this; simp at h0
        · refine ⟨b, base + off, k2, fun j c hj => key wr _ hG b base C e k1 k3 j c ?_⟩
          simp only [Con.val, List.getElem?_take, List.getElem?_drop] at hj ⊢
          split at hj
          · exact hj
          · cases hj
      · cases hv
    · cases hv
  · cases hv
end
end Go.Hl

namespace Go.Hl
open Go Go.RowKit
section
variable {P : Program} {T : Tab} {S : FuncId → Option Sp} {κ : Ctx} {β : Nat → Option (Nat × Nat)} {F : Nat → AV} {G : Nat → Option Blk} {a : Act} {w : World} {X : Nat → Prop}
theorem run_append_zero {t ty e : TypeId} {i : TypeInfo} (ht : P.underlying t = some (.slice e)) (hi : P.info? e = some i) (base ad : Option Addr) (n c cap : Nat) (h : n ≤ c) :
    (Builtin.append_ #[t, t] ty #[.slice base n c, .slice ad 0 cap]).run P w = .ok (.slice base n c) w := by
  cases base <;> cases ad <;> simp [Builtin.append_, run_underlying ht, sizeOf, typeInfo, hi, Builtin.lenOf, h, Builtin.firstCells, loadCells, loadCellsFrom, storeCells]
theorem run_append_in {t ty e e' : TypeId} {i : TypeInfo} (ht : P.underlying t = some (.slice e)) (hi : P.info? e = some i)
    (g o sLen sCap : Nat) (cur : Array Value) (hg : w.heap[g]? = some (.cells cur e' (0, 0)))
    (ad : Addr) (m c : Nat) (news : List Value) (hl : news.length = m * i.size) (hnews : ∀ j u, news[j]? = some u → w.cell? (ad.add j) = some u) (h1 : ∀ u ∈ news, u.oneCell' = true)
    (hroom : sLen + m ≤ sCap) (hfit : o + sLen * i.size + news.length ≤ cur.size) :
    (Builtin.append_ #[t, t] ty #[.slice (some ⟨g, o, none⟩) sLen sCap, .slice (some ad) m c]).run P w =
      .ok (.slice (some ⟨g, o, none⟩) (sLen + m) sCap) (w.setRow g (cur.toList.take (o + sLen * i.size) ++ news ++ cur.toList.drop (o + sLen * i.size + news.length)).toArray) := by
  have hf := run_firstCells_some (P := P) w i.size m ad m c news hl hnews
  have hst := run_storeCells_at P g (o + sLen * i.size) e' news 0 cur w hg (by simpa using hfit) h1
  simp only [Nat.add_zero] at hst
  simp [Builtin.append_, run_underlying ht, sizeOf, typeInfo, hi, Builtin.lenOf, hroom, hf, Addr.add_lit, hst]
theorem run_append_new {t ty e : TypeId} {i : TypeInfo} {z : Value} (ht : P.underlying t = some (.slice e)) (hi : P.info? e = some i) (hz : i.zero = some z)
    (base : Option Addr) (sLen sCap : Nat) (olds : List Value) (hlo : olds.length = sLen * i.size) (hb : base = none → sLen = 0 ∧ sCap = 0)
    (holds : ∀ b, base = some b → ∀ j v, olds[j]? = some v → w.cell? (b.add j) = some v)
    (ad : Addr) (n c : Nat) (news : List Value) (hl : news.length = n * i.size) (hnews : ∀ j v, news[j]? = some v → w.cell? (ad.add j) = some v)
    (hg : sCap < sLen + n) (h63 : sLen + n ≤ 9223372036854775807) (hby : (sLen + n) * i.bytes ≤ 140737488355328) :
    ∃ cap r, (Builtin.append_ #[t, t] ty #[.slice base sLen sCap, .slice (some ad) n c]).run P w =
      .ok (.slice (some ⟨w.heap.size, 0, none⟩) (sLen + n) cap) (w.drew.alloc (.cells (olds ++ news ++ r).toArray e)) ∧ sLen + n ≤ cap ∧ (olds ++ news ++ r).length = (olds.length + news.length) + (cap - (sLen + n)) * z.cells.size := by
  cases base with
  | some b =>
    have hr := run_append_grow (P := P) w t ty e i z ht hi hz b sLen sCap olds hlo (holds b rfl) ad n c news hl hnews hg (by omega) (growslice_fits hg hby)
    refine ⟨grownCap w (sLen + n) sCap e, (Builtin.zeroCells z.cells (grownCap w (sLen + n) sCap e - (sLen + n))).toList, ?_, grownCap_ge w _ _ _, ?_⟩
    · rw [hr]; congr 3; simp
    · simp [size_zeroCells]; omega
  | none =>
    obtain ⟨rfl, rfl⟩ := hb rfl
    have ho : olds = [] := List.eq_nil_of_length_eq_zero (by simpa using hlo)
    subst ho
    simp only [Nat.zero_add] at *
    have hr := run_append_nil (P := P) w t ty e i z ht hi hz ad n c news hl hnews (by omega) (by omega) (by omega)
    refine ⟨grownCap w n 0 e, (Builtin.zeroCells z.cells (grownCap w n 0 e - n)).toList, ?_, grownCap_ge w _ _ _, ?_⟩
    · rw [hr]; congr 3; simp
    · simp [size_zeroCells]
theorem setRow_wrote {g lo hi : Nat} {cur : Array Value} {e : TypeId} (hg : w.heap[g]? = some (.cells cur e (0, 0))) {cs : Array Value} (hs : cs.size = cur.size)
    (ho : ∀ j, ¬ (lo ≤ j ∧ j < hi) → cs[j]? = cur[j]?) : Wrote w (w.setRow g cs) g lo hi := by
  refine ⟨rfl, rfl, rfl, by simp [World.setRow], fun k hk hb => setRow_other w g k _ hb, fun C e' hC => ?_⟩
  rw [hg] at hC
  simp only [Option.some.injEq, Obj.cells.injEq] at hC
  obtain ⟨rfl, rfl, _⟩ := hC
  exact ⟨cs, setRow_heap w g cur cs e (0, 0) hg, hs, ho⟩
theorem Conc.unref {σ : St} (h : Conc κ β σ.get σ.blk a w) (id d : Nat) : Conc κ β ((σ.kill id).kill d).get σ.blk a w :=
  h.weak (fun t => by
    rcases get_kill_or (σ.kill id) d t with e | e
    · rcases get_kill_or σ id t with e' | e'
      · exact .inl (e.trans e')
      · exact .inr (e.trans e')
    · exact .inr e)
theorem Conc.killed {σ : St} (h : Conc κ β σ.get σ.blk a w) (d : Nat) : Conc κ β (σ.kill d).get (σ.kill d).blk a w := by
  refine (h.weak (get_kill_or σ d)).drop (fun i => ?_)
  rw [blk_kill]
  by_cases e : d = i
  · subst e; exact .inr (upd_same _ _ _)
  · exact .inl (upd_other _ _ e)
theorem RI.drew {X' : Nat → Prop} (hX : ∀ b, X' b → X b) {c : AV} {v : Value} (h : RI w X c v) : RI w.drew X' c v := by
  have hk : Keep X w w.drew := ⟨Nat.le_refl _, fun _ _ _ => rfl⟩
  exact h.keep hk (fun b _ hx => hX b hx)
theorem drew_below (w : World) : Below w.heap.size w w.drew := ⟨rfl, rfl, rfl, Nat.le_refl _, fun _ _ => rfl⟩
theorem blk_of (σ : St) (id d : Nat) (b : Blk) : (((σ.kill id).kill d).setB d b).blk = upd (upd σ.blk id none) d (some b) := by
  rw [St.blk_setB, blk_kill, blk_kill, upd_upd]
theorem append_sound (hT : TabOK P T) {σ : St} (h : Conc κ β σ.get σ.blk a w) (hmu : T.mu = false → κ.mu = none) {d : Option Nat} (hd : ∀ t, d = some t → t < κ.nt) {t ty : TypeId} {s x : AV} {su xu : Value}
    (hs : RV κ β σ.blk w s su) (hx : RV κ β σ.blk w x xu) (hp : (appendS T σ d t s x).1) :
    ∃ y w', (Builtin.append_ #[t, t] ty #[su, xu]).run P w = .ok y w' ∧ ∃ β', Conc κ β' (appendS T σ d t s x).2.get (appendS T σ d t s x).2.blk (a.put d y) w' := by
  unfold appendS at *
  split at hp
  · rename_i d e sz by_ hsl
    obtain ⟨h2, inf, h3, h4, h5, z, h6, h7⟩ := hT.sl t e sz by_ hsl
    split at hp
    · rename_i nw m hview
      split at hp
      · -- nul
        split at hp
        · rename_i con' happ
          obtain ⟨g1, g2, g3, g4⟩ := hp
          obtain ⟨a1, a2, a3⟩ := Con.app_spec happ
          obtain ⟨ad, cap, rfl, hv⟩ := view_sound h hx hview g2 g1
          cases hs with
          | nul ad0 =>
            by_cases hm : m = 0
            · subst hm
              refine ⟨_, _, run_append_zero h2 h3 ad0 ad 0 0 cap (Nat.le_refl _), upd β d none, ?_⟩
              simp only
              rw [St.get_put, St.blk_put, St.get_setB, St.blk_setB]
              refine ((h.killed d).bare (refs_kill σ d) (con := con') (by rw [a1, g1, Nat.zero_mul]; rfl)).put (fun t ht => by cases ht; exact hd d rfl) ?_
              exact ⟨ad0, 0, rfl, Nat.le_refl _, fun _ _ => .inl rfl⟩
            · have hpos : 0 < nw.len := by rw [g1]; exact Nat.mul_pos (by omega) g2
              obtain ⟨b, o, rfl, hcell⟩ := hv hpos
              obtain ⟨vs, v1, v2⟩ := vals_of (n := nw.len) (P := fun j v => w.cell? ⟨b, o + j, none⟩ = some v ∧ ∀ c, nw.val j = some c → RI w (XG κ β σ.blk) c v) (fun j hj => by
                obtain ⟨c, hc⟩ := Con.val_ex hj
                obtain ⟨v, q1, q2⟩ := hcell j c hc
                exact ⟨v, q1, fun c' hc' => by rw [hc] at hc'; simp only [Option.some.injEq] at hc'; subst hc'; exact q2⟩)
              obtain ⟨cap', r, r1, r2, r3⟩ := run_append_new (P := P) (w := w) (ty := ty) h2 h3 h6 ad0 0 0 [] (by simp) (fun _ => ⟨rfl, rfl⟩) (fun _ _ j v hj => by simp at hj)
                ⟨b, o, none⟩ m cap vs (by rw [v1, g1, h4]) (fun j v hj => by rw [Addr.add_lit]; exact (v2 j v hj).1) (by omega) (by omega) (by rw [h5, Nat.zero_add]; exact g3)
              refine ⟨_, _, r1, ?_⟩
              have hdr := h.below (drew_below w)
              refine hdr.made d (hd d rfl) _ e con' (by
                simp only [List.size_toArray]
                rw [a1, r3, v1]
                show 0 + nw.len ≤ 0 + nw.len + _
                omega) (fun j c hj => ?_) (fun β2 G2 w2 hb hw => ?_)
              · rcases a3 j c hj with ⟨q1, q2⟩ | ⟨q1, q2⟩
                · simp [Con.len] at q1
                · simp only [Con.len, List.length_nil, Nat.sub_zero] at q2
                  have hlt := Con.val_lt q2
                  have hv2 := v2 j vs[j] (by simp [v1, hlt])
                  refine ⟨vs[j]'(by omega), ?_, RI.drew (fun _ hx => hx) (hv2.2 c q2)⟩
                  simp [List.getElem?_append_left, v1, hlt]
              · have := RV.os_made (κ := κ) (G' := G2) (s := sz) hb hw r2 (by
                  simp only [List.size_toArray]
                  rw [r3]
                  simp only [List.length_nil, v1, g1, h7]
                  rw [Nat.zero_add, Nat.zero_add, ← Nat.add_mul]
                  exact Nat.mul_le_mul_right _ (by omega))
                simpa using this
        · exact False.elim hp
      · -- own
        rename_i id s' off len
        split at hp
        · rename_i con hG
          split at hp
          · rename_i con' happ
            obtain ⟨rfl, rfl, g0, g1, g2, g3, g4, g5⟩ := hp
            simp only
            obtain ⟨a1, a2, a3⟩ := Con.app_spec happ
            obtain ⟨ad, cap, rfl, hv⟩ := view_sound h hx hview g2 g1
            obtain ⟨ad0, cap0, rfl, k1, k2⟩ := hs
            have k2 := k2 _ hG
            have hnomu := hmu g5
            rw [St.get_put, St.blk_put, blk_of, St.get_setB]
            by_cases hroom : len + m ≤ cap0
            · -- stays where it is
              rcases k2 with k2 | ⟨b, base, C, e', q1, rfl, q3, q4⟩
              · subst k2
                have hl0 : len = 0 := by omega
                have hm0 : m = 0 := by omega
                subst hl0; subst hm0
                refine ⟨_, _, run_append_zero h2 h3 ad0 ad 0 0 cap (Nat.le_refl _), upd β d none, ?_⟩
                have hc := ((h.unref id d).drop (G' := upd σ.blk id none) (fun i => by
                  by_cases e : id = i
                  · subst e; exact .inr (upd_same _ _ _)
                  · exact .inl (upd_other _ _ e))).bare (id := d) (refs_kill (σ.kill id) d) (con := con') (by rw [a1, g0, g1]; simp)
                exact hc.put (fun t ht => by cases ht; exact hd d rfl) ⟨ad0, 0, rfl, Nat.le_refl _, fun _ _ => .inl rfl⟩
              · have hold : κ.w0.heap.size ≤ b := by
                  rcases h.hp id _ hG with h8 | ⟨b2, base2, C2, e2, w1, w2, w3, w4, w5⟩
                  · rw [q1] at h8; cases h8.1
                  · rw [q1] at w1
                    simp only [Option.some.injEq, Prod.mk.injEq] at w1
                    obtain ⟨rfl, rfl⟩ := w1
                    rcases w5 with w5 | ⟨lo, hi, w5, _⟩
                    · exact w5.1
                    · rw [hnomu] at w5; cases w5
                simp only [Nat.add_zero] at q4 ⊢
                have hmul : cap0 * s' = len * s' + (cap0 - len) * s' := by rw [← Nat.add_mul]; congr 1; omega
                have hmul2 : m * s' ≤ (cap0 - len) * s' := Nat.mul_le_mul_right _ (by omega)
                have hvals : ∃ vs : List Value, vs.length = nw.len ∧ (0 < nw.len → ∃ b o, ad = some ⟨b, o, none⟩ ∧ ∀ j v, vs[j]? = some v → w.cell? ⟨b, o + j, none⟩ = some v) ∧
                    ∀ (j : Nat) (v : Value), vs[j]? = some v → ∀ c, nw.val j = some c → RI w (XG κ β σ.blk) c v := by
                  by_cases h0 : 0 < nw.len
                  · obtain ⟨b, o, rfl, hcell⟩ := hv h0
                    obtain ⟨vs, v1, v2⟩ := vals_of (n := nw.len) (P := fun j v => w.cell? ⟨b, o + j, none⟩ = some v ∧ ∀ c, nw.val j = some c → RI w (XG κ β σ.blk) c v) (fun j hj => by
                      obtain ⟨c, hc⟩ := Con.val_ex hj
                      obtain ⟨v, q1, q2⟩ := hcell j c hc
                      exact ⟨v, q1, fun c' hc' => by rw [hc] at hc'; simp only [Option.some.injEq] at hc'; subst hc'; exact q2⟩)
                    exact ⟨vs, v1, fun _ => ⟨b, o, rfl, fun j v hj => (v2 j v hj).1⟩, fun j v hj => (v2 j v hj).2⟩
                  · exact ⟨[], by simp; omega, fun h => absurd h h0, fun j v hj => by simp at hj⟩
                obtain ⟨vs, v1, v2, v3⟩ := hvals
                have hone : ∀ u ∈ vs, u.oneCell' = true := by
                  intro u hu
                  obtain ⟨j, hj⟩ := List.getElem?_of_mem hu
                  have hlt : j < nw.len := by
                    rcases Nat.lt_or_ge j vs.length with h' | h'
                    · omega
                    · simp [List.getElem?_eq_none h'] at hj
                  obtain ⟨c, hc⟩ := Con.val_ex hlt
                  exact (v3 j u hj c hc).one (a2 j c hc)
                have hrun : (Builtin.append_ #[t, t] ty #[.slice (some ⟨b, base, none⟩) len cap0, .slice ad m cap]).run P w =
                    .ok (.slice (some ⟨b, base, none⟩) (len + m) cap0) (w.setRow b (C.toList.take (base + len * s') ++ vs ++ C.toList.drop (base + len * s' + vs.length)).toArray) := by
                  by_cases h0 : 0 < nw.len
                  · obtain ⟨b', o', rfl, hcell⟩ := v2 h0
                    have := run_append_in (P := P) (w := w) (ty := ty) h2 h3 b base len cap0 C q3 ⟨b', o', none⟩ m cap vs (by rw [v1, g1, h4]) (fun j v hj => by rw [Addr.add_lit]; exact hcell j v hj) hone hroom
                      (by rw [v1, g1, h4]; omega)
                    rw [h4] at this
                    exact this
                  · have hm0 : m = 0 := by
                      rcases Nat.eq_zero_or_pos m with e | e
                      · exact e
                      · exact absurd (by rw [g1]; exact Nat.mul_pos e g2) h0
                    subst hm0
                    have hvn : vs = [] := List.eq_nil_of_length_eq_zero (by omega)
                    subst hvn
                    rw [run_append_zero h2 h3 _ ad len cap0 cap k1]
                    simp only [List.append_nil, List.length_nil, Nat.add_zero, List.take_append_drop, Array.toArray_toList]
                    rw [setRow_self w b C e' (0, 0) q3]
                refine ⟨_, _, hrun, upd β d (β id), ?_⟩
                have hsz : (C.toList.take (base + len * s') ++ vs ++ C.toList.drop (base + len * s' + vs.length)).toArray.size = C.size := by
                  simp only [List.size_toArray, List.length_append, List.length_take, List.length_drop, Array.length_toList]
                  omega
                have hget : ∀ j : Nat, (C.toList.take (base + len * s') ++ vs ++ C.toList.drop (base + len * s' + vs.length)).toArray[j]? =
                    if base + len * s' ≤ j ∧ j < base + len * s' + vs.length then vs[j - (base + len * s')]? else C[j]? := by
                  intro j
                  simp only [List.getElem?_toArray]
                  have hlt : (C.toList.take (base + len * s')).length = base + len * s' := by simp; omega
                  by_cases h1 : j < base + len * s'
                  · rw [if_neg (by omega), List.append_assoc, List.getElem?_append_left (by omega), List.getElem?_take, if_pos h1]; simp
                  · by_cases h2 : j < base + len * s' + vs.length
                    · rw [if_pos (by omega), List.getElem?_append_left (by simp; omega), List.getElem?_append_right (by omega), hlt]
                    · rw [if_neg (by omega), List.getElem?_append_right (by simp; omega), List.getElem?_drop]
                      simp only [List.length_append, hlt, Array.getElem?_toList]
                      congr 1; omega
                have hwr : Wrote w (w.setRow b (C.toList.take (base + len * s') ++ vs ++ C.toList.drop (base + len * s' + vs.length)).toArray) b (base + len * s') (base + len * s' + vs.length) :=
                  setRow_wrote q3 hsz (fun j hj => by rw [hget, if_neg hj])
                have hown := (h.unref id d).own (id := id) (con' := con') hG q1 hwr (by omega) (by rw [a1, g0, v1]; omega)
                  ⟨by omega, .inr ⟨hold, fun C' e'' hC' => by
                    rw [q3] at hC'
                    simp only [Option.some.injEq, Obj.cells.injEq] at hC'
                    obtain ⟨rfl, _, _⟩ := hC'
                    rw [a1, g0, g1]; omega⟩⟩
                  (fun C' ⟨e'', hC'⟩ j c hj => by
                    rw [setRow_heap w b C _ e' (0, 0) q3] at hC'
                    simp only [Option.some.injEq, Obj.cells.injEq] at hC'
                    obtain ⟨rfl, _, _⟩ := hC'
                    rw [hget]
                    rcases a3 j c hj with ⟨z1, z2⟩ | ⟨z1, z2⟩
                    · rw [if_neg (by omega)]
                      rcases h.hp id _ hG with h8 | ⟨b2, base2, C2, e2, w1, w2, w3, w4, w5⟩
                      · rw [q1] at h8; cases h8.1
                      · rw [q1] at w1
                        simp only [Option.some.injEq, Prod.mk.injEq] at w1
                        obtain ⟨rfl, rfl⟩ := w1
                        rw [q3] at w2
                        simp only [Option.some.injEq, Obj.cells.injEq] at w2
                        obtain ⟨rfl, _, _⟩ := w2
                        exact w4 j c z2
                    · have hlt := Con.val_lt z2
                      rw [if_pos (by omega)]
                      have e9 : base + j - (base + len * s') = j - con.len := by omega
                      rw [e9]
                      exact ⟨vs[j - con.len]'(by omega), by simp [v1, hlt], v3 _ _ (by simp [v1, hlt]) c z2⟩)
                have hren := hown.rename (id := id) (d := d) (by have := hd d rfl; omega) (upd_same _ _ _) (fun t => refs_kill_of _ _ _ _ (refs_kill σ id t)) (fun t => refs_kill (σ.kill id) d t)
                rw [upd_upd] at hren
                refine hren.put (fun t ht => by cases ht; exact hd d rfl) ⟨_, cap0, rfl, hroom, fun _ _ => .inr ⟨b, base, _, e', by rw [upd_same]; exact q1, rfl, setRow_heap w b C _ e' (0, 0) q3, ?_⟩⟩
                rw [hsz]; simpa using q4
            · -- moves
              have hm : 0 < m := by omega
              have hpos : 0 < nw.len := by rw [g1]; exact Nat.mul_pos hm g2
              obtain ⟨b, o, rfl, hcell⟩ := hv hpos
              obtain ⟨vs, v1, v2⟩ := vals_of (n := nw.len) (P := fun j v => w.cell? ⟨b, o + j, none⟩ = some v ∧ ∀ c, nw.val j = some c → RI w (XG κ β σ.blk) c v) (fun j hj => by
                obtain ⟨c, hc⟩ := Con.val_ex hj
                obtain ⟨v, q1, q2⟩ := hcell j c hc
                exact ⟨v, q1, fun c' hc' => by rw [hc] at hc'; simp only [Option.some.injEq] at hc'; subst hc'; exact q2⟩)
              have holds : ∃ os : List Value, os.length = len * s' ∧ (ad0 = none → len = 0 ∧ cap0 = 0) ∧ (∀ b, ad0 = some b → ∀ j v, os[j]? = some v → w.cell? (b.add j) = some v) ∧
                  ∀ (j : Nat) (v : Value), os[j]? = some v → ∀ c, con.val j = some c → RI w (XG κ β σ.blk) c v := by
                rcases k2 with k2 | ⟨b, base, C, e', q1, rfl, q3, q4⟩
                · have hl0 : len = 0 := by omega
                  subst hl0
                  exact ⟨[], by simp, fun _ => ⟨rfl, k2⟩, fun _ _ j v hj => by simp at hj, fun j v hj => by simp at hj⟩
                · rcases h.hp id _ hG with h8 | ⟨b2, base2, C2, e2, w1, w2, w3, w4, w5⟩
                  · rw [q1] at h8; cases h8.1
                  · rw [q1] at w1
                    simp only [Option.some.injEq, Prod.mk.injEq] at w1
                    obtain ⟨rfl, rfl⟩ := w1
                    obtain ⟨os, o1, o2⟩ := vals_of (n := con.len) (P := fun j v => w.cell? ⟨b, base + j, none⟩ = some v ∧ ∀ c, con.val j = some c → RI w (XG κ β σ.blk) c v) (fun j hj => by
                      obtain ⟨c, hc⟩ := Con.val_ex hj
                      obtain ⟨v, q1, q2⟩ := w4 j c hc
                      exact ⟨v, by rw [cell_of_block w2]; exact q1, fun c' hc' => by rw [hc] at hc'; simp only [Option.some.injEq] at hc'; subst hc'; exact q2⟩)
                    refine ⟨os, by rw [o1, g0], fun h => (by cases h), fun b' hb' j v hj => ?_, fun j v hj => (o2 j v hj).2⟩
                    simp only [Option.some.injEq] at hb'
                    subst hb'
                    rw [Addr.add_lit]
                    exact (o2 j v hj).1
              obtain ⟨os, o1, o2, o3, o4⟩ := holds
              obtain ⟨cap', r, r1, r2, r3⟩ := run_append_new (P := P) (w := w) (ty := ty) h2 h3 h6 ad0 len cap0 os (by rw [o1, h4]) o2 o3
                ⟨b, o, none⟩ m cap vs (by rw [v1, g1, h4]) (fun j v hj => by rw [Addr.add_lit]; exact (v2 j v hj).1) (by omega) g4 (by rw [h5]; exact g3)
              refine ⟨_, _, r1, ?_⟩
              have hdr := (h.killed id).below (drew_below w)
              have hX : ∀ b, XG κ β (σ.kill id).blk b → XG κ β σ.blk b := fun b hb => XG.weak (fun i c hi => by
                rw [blk_kill] at hi
                by_cases e : id = i
                · subst e; rw [upd_same] at hi; cases hi
                · rw [upd_other _ _ e] at hi; exact ⟨c, hi⟩) hb
              have hmade := hdr.made d (hd d rfl) (os ++ vs ++ r).toArray e con' (by simp [a1, g0, o1, v1]) (fun j c hj => ?_) (x := .slice (some ⟨w.heap.size, 0, none⟩) (len + m) cap') (fun _ _ _ hb hw => RV.os_made (s := s') hb hw r2 (by
                simp only [List.size_toArray]
                rw [r3]
                rw [o1, v1, g1, h7, ← Nat.add_mul, ← Nat.add_mul]
                exact Nat.mul_le_mul_right _ (by omega)))
              · obtain ⟨β', hβ'⟩ := hmade
                refine ⟨β', ?_⟩
                rw [St.get_put, St.blk_put, blk_of, St.get_setB] at hβ'
                exact hβ'
              · rcases a3 j c hj with ⟨z1, z2⟩ | ⟨z1, z2⟩
                · have hlt : j < os.length := by omega
                  have q9 := o4 j os[j] (by simp [hlt]) c z2
                  refine ⟨os[j]'(by omega), ?_, RI.drew hX q9⟩
                  simp only [List.getElem?_toArray, List.append_assoc]
                  rw [List.getElem?_append_left (by omega)]
                  simp [show j < os.length by omega]
                · have hlt := Con.val_lt z2
                  have q9 := (v2 (j - con.len) (vs[j - con.len]'(by omega)) (by simp [v1, hlt])).2 c z2
                  refine ⟨vs[j - con.len]'(by omega), ?_, RI.drew hX q9⟩
                  simp only [List.getElem?_toArray, List.append_assoc]
                  rw [List.getElem?_append_right (by omega), List.getElem?_append_left (by omega)]
                  have e9 : j - os.length = j - con.len := by omega
                  rw [e9]
                  simp [v1, hlt]
          · exact False.elim hp
        · exact False.elim hp
      · exact False.elim hp
    · exact False.elim hp
  · exact False.elim hp
end
end Go.Hl

namespace Go.Hl
open Go Go.RowKit
def St.settle (σ : St) (id : Nat) : St :=
  match lk σ.hp id with
  | some b => σ.setB id ⟨false, b.con⟩
  | none => σ
theorem get_settle (σ : St) (id : Nat) : (σ.settle id).get = σ.get := by
  unfold St.settle; split <;> rfl
theorem blk_settle (σ : St) (id : Nat) : (σ.settle id).blk = Hl.settle σ.blk id := by
  unfold St.settle Hl.settle
  split
  · rename_i b hb
    rw [St.blk_setB]
    funext i
    simp only [upd]
    by_cases e : id = i
    · subst e
      rw [if_pos rfl, if_pos rfl]
      show _ = (lk σ.hp id).map _
      rw [hb]; rfl
    · rw [if_neg e, if_neg (fun h => e h.symm)]
  · rename_i hb
    funext i
    split
    · rename_i e; subst e
      show lk σ.hp i = (lk σ.hp i).map _
      rw [hb]; rfl
    · rfl
def expoT (T : Tab) (σ : St) (x : Operand) : Prop × St :=
  match x with
  | .tmp t => match σ.get t with
    | .os id s off len => match σ.blk id with
      | some ⟨_, .n k xs⟩ => (s = 1 ∧ off + len ≤ xs.length ∧ T.mu = false, (σ.settle id).put (some t) (.ns k ((xs.drop off).take len)))
      | some ⟨_, .c cs⟩ => (off + len * s ≤ cs.length ∧ T.mu = false, (σ.settle id).put (some t) (.sl s len ((cs.drop off).take (len * s))))
      | none => (False, σ)
    | .ptr id off => match σ.blk id with
      | some ⟨_, .c cs⟩ => (T.mu = false ∧ off < cs.length, (σ.settle id).put (some t) (.vp (cs.drop off)))
      | _ => (False, σ)
    | _ => (True, σ)
  | _ => (True, σ)
def expoL (T : Tab) (σ : St) : List Operand → Prop × St
  | [] => (True, σ)
  | x :: xs => ((expoT T σ x).1 ∧ (expoL T (expoT T σ x).2 xs).1, (expoL T (expoT T σ x).2 xs).2)
section
variable {P : Program} {T : Tab} {S : FuncId → Option Sp} {κ : Ctx} {β : Nat → Option (Nat × Nat)} {F : Nat → AV} {G : Nat → Option Blk} {a : Act} {w : World} {X : Nat → Prop}
theorem Conc.reput (h : Conc κ β F G a w) {t : Nat} {v : AV} (hv : RV κ β G w v (a.tmps.getD t undef)) : Conc κ β (upd F t v) G a w := by
  refine ⟨h.sz, fun u => ?_, h.dfr, h.hp, h.sep, h.chg, h.x0⟩
  simp only [upd]
  split
  · rename_i e; subst e; exact hv
  · exact h.rel u
theorem Conc.notX (h : Conc κ β F G a w) (hmu : κ.mu = none) {id : Nat} {blk : Blk} {b base : Nat} (hG : G id = some blk) (hβ : β id = some (b, base)) : ¬ XG κ β (Hl.settle G id) b := by
  intro hx
  have hb : κ.w0.heap.size ≤ b := by
    rcases h.hp id _ hG with h8 | ⟨b2, base2, C2, e2, w1, w2, w3, w4, w5⟩
    · rw [hβ] at h8; cases h8.1
    · rw [hβ] at w1
      simp only [Option.some.injEq, Prod.mk.injEq] at w1
      obtain ⟨rfl, rfl⟩ := w1
      rcases w5 with w5 | ⟨lo, hi, w5, _⟩
      · exact w5.1
      · rw [hmu] at w5; cases w5
  rcases hx with hx | ⟨i, c, base', h1, h2⟩
  · have := h.x0 b hx; omega
  · obtain ⟨b', g1, g2, g3⟩ := settle_some h1
    by_cases e : i = id
    · subst e
      unfold Hl.settle at h1
      rw [if_pos rfl, hG] at h1
      simp at h1
    · exact h.sep i id b base' b' blk e g1 hG h2 base hβ
theorem expo_sound (hmu : T.mu = false → κ.mu = none) {σ : St} (h : Conc κ β σ.get σ.blk a w) {x : Operand} (hp : (expoT T σ x).1) :
    Conc κ β (expoT T σ x).2.get (expoT T σ x).2.blk a w := by
  unfold expoT at *
  split at hp
  · rename_i t
    have ht := h.rel t
    split at hp
    · rename_i id s off len hv
      rw [hv] at ht
      obtain ⟨ad, cap, e1, e2, e3⟩ := ht
      split at hp
      · rename_i wr k xs hG
        obtain ⟨rfl, g2, g3⟩ := hp
        have hmu := hmu g3
        simp only
        rw [St.get_put, St.blk_put, get_settle, blk_settle]
        refine (h.settle id).reput ?_
        rw [e1]
        have hlen : ((xs.drop off).take len).length = len := by simp; omega
        have hri : ∀ q, q = (xs.drop off).take len → RI w (XG κ β (Hl.settle σ.blk id)) (.ns k q) (.slice ad len cap) := by
          intro q hq
          have hql : q.length = len := by rw [hq]; exact hlen
          rw [← hql]
          rcases e3 _ hG with e4 | ⟨b, base, C, e', q1, q2, q3, q4⟩
          · exact RI.ns k q ad 0 0 cap (by omega) (fun h => by omega) (fun i x hx => by
              have : q = [] := List.eq_nil_of_length_eq_zero (by omega)
              subst this; simp at hx)
          · refine RI.ns k q ad b (base + off) cap (by omega) (fun _ => ⟨q2, h.notX hmu hG q1⟩) (fun i x hx => ?_)
            rw [hq, List.getElem?_take] at hx
            split at hx
            · rw [List.getElem?_drop] at hx
              rcases h.hp id _ hG with h8 | ⟨b2, base2, C2, e2, w1, w2, w3, w4, w5⟩
              · rw [q1] at h8; cases h8.1
              · rw [q1] at w1
                simp only [Option.some.injEq, Prod.mk.injEq] at w1
                obtain ⟨rfl, rfl⟩ := w1
                obtain ⟨v, hv1, hv2⟩ := w4 (off + i) (.raw (.int k x)) (by simp [Con.val, hx])
                rw [cell_of_block w2, Nat.add_assoc, hv1, RI.raw_inv hv2]
            · cases hx
        exact hri _ rfl
      · rename_i wr cs hG
        obtain ⟨g2, g3⟩ := hp
        have hmu := hmu g3
        simp only
        rw [St.get_put, St.blk_put, get_settle, blk_settle]
        refine (h.settle id).reput ?_
        rw [e1]
        have hlen : ((cs.drop off).take (len * s)).length = len * s := by simp; omega
        rcases e3 _ hG with e4 | ⟨b, base, C, e', q1, q2, q3, q4⟩
        · have hl0 : len = 0 := by omega
          subst hl0
          exact RI.sl s 0 _ ad 0 0 cap (fun _ => undef) (by omega) (by simp) (fun h => by simp at h) (fun j c hj => by simp at hj) (fun j c hj => by simp at hj)
        · rcases h.hp id _ hG with h8 | ⟨b2, base2, C2, e2', w1, w2, w3, w4, w5⟩
          · rw [q1] at h8; cases h8.1
          · rw [q1] at w1
            simp only [Option.some.injEq, Prod.mk.injEq] at w1
            obtain ⟨rfl, rfl⟩ := w1
            have hex : ∀ j : Nat, ∃ v : Value, ∀ c : AV, ((cs.drop off).take (len * s))[j]? = some c → w.cell? ⟨b, base + off + j, none⟩ = some v ∧ RI w (XG κ β (Hl.settle σ.blk id)) c v := by
              intro j
              cases hj : ((cs.drop off).take (len * s))[j]? with
              | none => exact ⟨undef, fun c hc => by cases hc⟩
              | some c =>
                rw [List.getElem?_take] at hj
                split at hj
                · rw [List.getElem?_drop] at hj
                  obtain ⟨v, v1, v2⟩ := w4 (off + j) c hj
                  refine ⟨v, fun c' hc' => ?_⟩
                  simp only [Option.some.injEq] at hc'
                  subst hc'
                  exact ⟨by rw [cell_of_block w2, Nat.add_assoc]; exact v1, v2.keep (Keep.refl _ _) (fun _ _ hx => hx.settle)⟩
                · cases hj
            obtain ⟨f, hf⟩ := Classical.axiomOfChoice hex
            exact RI.sl s len _ ad b (base + off) cap f e2 hlen (fun _ => ⟨q2, h.notX hmu hG q1⟩) (fun j c hj => (hf j c hj).1) (fun j c hj => (hf j c hj).2)
      · exact False.elim hp
    · rename_i id off hv
      rw [hv] at ht
      split at hp
      · rename_i wr cs hG
        obtain ⟨g3, g2⟩ := hp
        have hmu := hmu g3
        simp only
        rw [St.get_put, St.blk_put, get_settle, blk_settle]
        refine (h.settle id).reput ?_
        obtain ⟨b, base, q1, q2⟩ := ht _ hG
        rw [q2]
        rcases h.hp id _ hG with h8 | ⟨b2, base2, C2, e2', w1, w2, w3, w4, w5⟩
        · rw [q1] at h8; cases h8.1
        · rw [q1] at w1
          simp only [Option.some.injEq, Prod.mk.injEq] at w1
          obtain ⟨rfl, rfl⟩ := w1
          have hex : ∀ j : Nat, ∃ v : Value, ∀ c : AV, (cs.drop off)[j]? = some c → w.cell? ⟨b, base + off + j, none⟩ = some v ∧ RI w (XG κ β (Hl.settle σ.blk id)) c v := by
            intro j
            cases hj : (cs.drop off)[j]? with
            | none => exact ⟨undef, fun c hc => by cases hc⟩
            | some c =>
              rw [List.getElem?_drop] at hj
              obtain ⟨v, v1, v2⟩ := w4 (off + j) c hj
              refine ⟨v, fun c' hc' => ?_⟩
              simp only [Option.some.injEq] at hc'
              subst hc'
              exact ⟨by rw [cell_of_block w2, Nat.add_assoc]; exact v1, v2.keep (Keep.refl _ _) (fun _ _ hx => hx.settle)⟩
          obtain ⟨f, hf⟩ := Classical.axiomOfChoice hex
          exact RI.vp _ b (base + off) f (fun _ => h.notX hmu hG q1) (fun j c hj => (hf j c hj).1) (fun j c hj => (hf j c hj).2)
      · exact False.elim hp
    · exact h
  · exact h
theorem expoL_sound (hmu : T.mu = false → κ.mu = none) : ∀ (xs : List Operand) {σ : St}, Conc κ β σ.get σ.blk a w → (expoL T σ xs).1 →
    Conc κ β (expoL T σ xs).2.get (expoL T σ xs).2.blk a w
  | [], _, h, _ => h
  | _ :: xs, _, h, hp => expoL_sound hmu xs (expo_sound hmu h hp.1) hp.2
end
end Go.Hl

namespace Go.Hl
open Go Go.RowKit
def freshS (σ : St) (d : Option Nat) (r : AV) : Prop × St :=
  match d, r with
  | some d, .ns k xs => (True, ((σ.kill d).setB d ⟨true, .n k xs⟩).put (some d) (.os d 1 0 xs.length))
  | _, _ => (False, σ)
def splice (xs ys : List Int) (off len : Nat) : List Int := xs.take off ++ ys ++ xs.drop (off + len)
def mutS (S : FuncId → Option Sp) (σ : St) (d : Option Nat) (g : FuncId) (x0 : AV) (rest : List AV) : Prop × St :=
  match x0, S g with
  | .os id 1 off len, some sp => match σ.blk id with
    | some ⟨true, .n k xs⟩ => match sp.res (.ns k ((xs.drop off).take len) :: rest) with
      | .tup [r0, .ns _ ys] => (rest.all AV.im = true ∧ r0.im = true ∧ sp.kind = 2 ∧ off + len ≤ xs.length ∧ 0 < len ∧ sp.pre (.ns k ((xs.drop off).take len) :: rest),
          (σ.setB id ⟨true, .n k (splice xs ys off len)⟩).put d r0)
      | _ => (False, σ)
    | _ => (False, σ)
  | _, _ => (False, σ)
def copyS (T : Tab) (σ : St) (d : Option Nat) (t : TypeId) (x s : AV) : Prop × St :=
  match x, s with
  | .os id 1 off len, .ns k ys => match σ.blk id with
    | some ⟨true, .n k' xs⟩ => (k = k' ∧ off + len ≤ xs.length ∧ (∃ e b, T.sl t = some (e, 1, b)),
        (σ.setB id ⟨true, .n k' (splice xs (ys.take len) off (min len ys.length))⟩).put d (.raw (.int .i64 (min len ys.length : Nat))))
    | _ => (False, σ)
  | _, _ => (False, σ)
def kindOf (S : FuncId → Option Sp) : AV → Nat
  | .fn g _ => match S g with | some sp => sp.kind | none => 0
  | _ => 0
def st1 (T : Tab) (S : FuncId → Option Sp) (o : Oper) (σ : St) : Prop × St :=
  match o.op with
  | .alloc t => allocS T σ o.dst t
  | .box _ v => ((expoT T σ v).1 ∧ (boxS (expoT T σ v).2 o.dst (ev (expoT T σ v).2.get v)).1, (boxS (expoT T σ v).2 o.dst (ev (expoT T σ v).2.get v)).2)
  | .buildSlice t n ps => bsliceS T σ o.dst t n ps.toList
  | .makeSlice t l c => makeS T σ o.dst t (ev σ.get l) (ev σ.get c)
  | .store t p v => ((expoT T σ v).1 ∧ (storeS T (expoT T σ v).2 t (ev (expoT T σ v).2.get p) (ev (expoT T σ v).2.get v)).1,
      (storeS T (expoT T σ v).2 t (ev (expoT T σ v).2.get p) (ev (expoT T σ v).2.get v)).2.put o.dst .any)
  | .build _ ps => ((expoL T σ (ps.toList.map (·.2))).1 ∧ (qv T S (expoL T σ (ps.toList.map (·.2))).2.get (expoL T σ (ps.toList.map (·.2))).2.blk o).1,
      (expoL T σ (ps.toList.map (·.2))).2.put o.dst (qv T S (expoL T σ (ps.toList.map (·.2))).2.get (expoL T σ (ps.toList.map (·.2))).2.blk o).2)
  | .call c => match c.callee with
    | .builtin .append => match c.args.toList, c.argTypes.toList with
      | [s, x], [t, t'] => (t = t' ∧ (appendS T σ o.dst t (ev σ.get s) (ev σ.get x)).1, (appendS T σ o.dst t (ev σ.get s) (ev σ.get x)).2)
      | _, _ => (False, σ)
    | .builtin .copy => match c.args.toList, c.argTypes.toList with
      | [x, s], [t, t'] => copyS T σ o.dst t (ev σ.get x) (ev σ.get s)
      | _, _ => (False, σ)
    | .value f => match kindOf S (ev σ.get f) with
      | 0 => ((expoL T σ c.args.toList).1 ∧ (qv T S (expoL T σ c.args.toList).2.get (expoL T σ c.args.toList).2.blk o).1,
          (expoL T σ c.args.toList).2.put o.dst (qv T S (expoL T σ c.args.toList).2.get (expoL T σ c.args.toList).2.blk o).2)
      | 1 => match ev σ.get f with
        | .fn g [] => match S g with
          | some sp => ((expoL T σ c.args.toList).1 ∧ (argsOf T (expoL T σ c.args.toList).2.get c.args.toList c.argTypes.toList).all AV.im = true ∧
              sp.kind = 1 ∧ sp.pre (argsOf T (expoL T σ c.args.toList).2.get c.args.toList c.argTypes.toList) ∧
              (freshS (expoL T σ c.args.toList).2 o.dst (sp.res (argsOf T (expoL T σ c.args.toList).2.get c.args.toList c.argTypes.toList))).1,
            (freshS (expoL T σ c.args.toList).2 o.dst (sp.res (argsOf T (expoL T σ c.args.toList).2.get c.args.toList c.argTypes.toList))).2)
          | none => (False, σ)
        | _ => (False, σ)
      | 2 => match ev σ.get f, c.args.toList, c.argTypes.toList with
        | .fn g [], x0 :: xs, _ :: ts => ((expoL T σ xs).1 ∧ (mutS S (expoL T σ xs).2 o.dst g (ev (expoL T σ xs).2.get x0) (argsOf T (expoL T σ xs).2.get xs ts)).1,
            (mutS S (expoL T σ xs).2 o.dst g (ev (expoL T σ xs).2.get x0) (argsOf T (expoL T σ xs).2.get xs ts)).2)
        | _, _, _ => (False, σ)
      | _ => (False, σ)
    | _ => ((qv T S σ.get σ.blk o).1, σ.put o.dst (qv T S σ.get σ.blk o).2)
  | _ => ((qv T S σ.get σ.blk o).1, σ.put o.dst (qv T S σ.get σ.blk o).2)
section
variable {P : Program} {T : Tab} {S : FuncId → Option Sp} {κ : Ctx} {β : Nat → Option (Nat × Nat)} {F : Nat → AV} {G : Nat → Option Blk} {a : Act} {w : World} {X : Nat → Prop}
def ER (P : Program) (κ : Ctx) (σ : St) (a : Act) (d : Option Nat) : Result Next → Prop
  | .ok (.value x) w' => ∃ β', Conc κ β' σ.get σ.blk (a.put d x) w'
  | .ok .skip w' => ∃ β', Conc κ β' σ.get σ.blk (a.put d undef) w'
  | .ok (.enter f vs) w' => Calls P f vs w' fun e w'' => ∃ v, e = .returned v ∧ ∃ β', Conc κ β' σ.get σ.blk (a.put d v) w''
  | _ => False
theorem er_value {σ : St} {d : Option Nat} {s : Sem Value} (h : ∃ x w', s.run P w = .ok x w' ∧ ∃ β', Conc κ β' σ.get σ.blk (a.put d x) w') :
    ER P κ σ a d (((do pure (.value (← s))) : Sem Next).run P w) := by
  obtain ⟨x, w', h1, h2⟩ := h
  simp only [Sem.run_bind, h1, Result.andThen_ok, Sem.run_pure]
  exact h2
theorem quiet_step (hT : TabOK P T) (hS : SOK P S) {σ : St} (h : Conc κ β σ.get σ.blk a w) (o : Oper) (hd : ∀ t, o.dst = some t → t < κ.nt) (hp : (qv T S σ.get σ.blk o).1) :
    ER P κ (σ.put o.dst (qv T S σ.get σ.blk o).2) a o.dst ((execOp a.eval o).run P w) := by
  have hq := qv_sound hT hS h o hp
  generalize (execOp a.eval o).run P w = r at *
  generalize (qv T S σ.get σ.blk o).2 = v at *
  cases r with
  | halt _ _ => exact False.elim hq
  | ok n w' =>
    cases n <;> try (exact False.elim hq)
    case value x =>
      obtain ⟨rfl, hv⟩ := hq
      refine ⟨β, ?_⟩
      rw [St.get_put, St.blk_put]
      exact h.put hd hv
    case enter f vs =>
      obtain ⟨rfl, hc⟩ := hq
      refine hc.mono fun e w'' ⟨u, he, hr, hb⟩ => ⟨u, he, β, ?_⟩
      rw [St.get_put, St.blk_put]
      refine (h.below hb).put hd ?_
      cases v with
      | os => cases hr
      | ptr => cases hr
      | _ => exact hr
theorem callFunc_exec (o : Oper) {f : Operand} {args : Array Operand} {ts : Array TypeId} (hop : o.op = .call ⟨.value f, args, ts⟩) {g : FuncId} (hf : a.eval f = .func (.func g) #[] #[]) (w : World) :
    (execOp a.eval o).run P w = (callFunc g (args.map a.eval)).run P w := by
  simp [execOp, hop, resolve, hf, Deferred.ofValue, invoke]
theorem argsOf_len (T : Tab) (F : Nat → AV) : ∀ (xs : List Operand) (ts : List TypeId), (argsOf T F xs ts).length = xs.length := by
  intro xs
  induction xs with
  | nil => intro ts; cases ts <;> rfl
  | cons x xs ih => intro ts; cases ts <;> simp [argsOf, ih]
theorem RI.fn_nil {g : FuncId} {x : Value} (h : RI w X (.fn g []) x) : x = .func (.func g) #[] #[] := by
  cases h with
  | fn _ _ vs f hl _ _ =>
    have : vs = #[] := by simpa using hl
    rw [this]
theorem copy_sound (hT : TabOK P T) {σ : St} (h : Conc κ β σ.get σ.blk a w) {d : Option Nat} (hd : ∀ t, d = some t → t < κ.nt) {t t' ty : TypeId} {x s : AV} {xu su : Value}
    (hx : RV κ β σ.blk w x xu) (hs : RV κ β σ.blk w s su) (hp : (copyS T σ d t x s).1) :
    ∃ v w', (Builtin.copy_ #[t, t'] ty #[xu, su]).run P w = .ok v w' ∧ ∃ β', Conc κ β' (copyS T σ d t x s).2.get (copyS T σ d t x s).2.blk (a.put d v) w' := by
  unfold copyS at *
  split at hp
  · rename_i id off len k ys
    split at hp
    · rename_i k' xs hG
      obtain ⟨rfl, p1, e, by_, p2⟩ := hp
      simp only
      obtain ⟨q1, i, q2, q3, _⟩ := hT.sl _ _ _ _ p2
      have hsz : (P.info? e).map (·.size) = some 1 := by rw [q2]; simp [q3]
      obtain ⟨ad, cap, hxu, c1, c2⟩ := hx
      generalize hsu : su = su' at hs
      cases hs with
      | ns _ _ ad2 b2 o2 cap2 hc2 ha2 hcell2 =>
        subst hxu; subst hsu
        by_cases hm : min len ys.length = 0
        · refine ⟨_, w, run_copy_none w t t' ty e ad ad2 len cap ys.length cap2 q1 hsz (by rw [Nat.min_comm] at hm; exact hm), β, ?_⟩
          have hsp : splice xs (ys.take len) off (min len ys.length) = xs := by
            have : ys.take len = [] := by
              refine List.eq_nil_of_length_eq_zero ?_
              rw [List.length_take]; exact hm
            rw [hm, this]
            simp [splice]
          rw [hsp, hm, St.get_put, St.blk_put, St.get_setB, St.blk_setB]
          have hupd : upd σ.blk id (some ⟨true, .n k xs⟩) = σ.blk := by
            funext j
            simp only [upd]
            split
            · rename_i e; subst e; exact hG.symm
            · rfl
          rw [hupd]
          exact h.put hd (RI.raw _)
        · rcases c2 _ hG with c2 | ⟨b, base, C, e', d1, rfl, d3, d4⟩
          · omega
          obtain ⟨rfl, hnX⟩ := ha2 (by omega)
          rcases h.hp id _ hG with h8 | ⟨b3, base3, C3, e3, w1, w2, w3, w4, w5⟩
          · rw [d1] at h8; cases h8.1
          rw [d1] at w1
          simp only [Option.some.injEq, Prod.mk.injEq] at w1
          obtain ⟨rfl, rfl⟩ := w1
          rw [d3] at w2
          simp only [Option.some.injEq, Obj.cells.injEq] at w2
          obtain ⟨rfl, rfl, _⟩ := w2
          simp only [Con.len] at w3
          have hlen : ((ys.take len).map (Value.int k)).length = min len ys.length := by simp
          have hrun := run_copy_row (P := P) w t t' ty e b (base + off) len cap ⟨b2, o2, none⟩ ys.length cap2 C e' ((ys.take len).map (Value.int k)) q1 hsz d3 (by rw [hlen]; exact Nat.min_comm ..)
            (fun j v hv => by
              simp only [List.getElem?_map, Option.map_eq_some_iff] at hv
              obtain ⟨z, hz, rfl⟩ := hv
              rw [List.getElem?_take] at hz
              split at hz
              · have := hcell2 j z hz
                have hadd : (⟨b2, o2, none⟩ : Addr).add j = ⟨b2, o2 + j, none⟩ := by unfold Addr.add; split <;> simp_all
                rw [hadd]; exact this
              · cases hz) (by rw [hlen]; omega) (fun v hv => by
              simp only [List.mem_map] at hv
              obtain ⟨z, _, rfl⟩ := hv
              rfl)
          rw [hlen] at hrun
          refine ⟨_, _, hrun, β, ?_⟩
          have hCsz : ((C.toList.take (base + off) ++ (ys.take len).map (Value.int k) ++ C.toList.drop (base + off + min len ys.length)).toArray).size = C.size := by
            simp; omega
          have hget : ∀ j, ((C.toList.take (base + off) ++ (ys.take len).map (Value.int k) ++ C.toList.drop (base + off + min len ys.length)).toArray)[j]? =
              if base + off ≤ j ∧ j < base + off + min len ys.length then ((ys.take len).map (Value.int k))[j - (base + off)]? else C[j]? := by
            intro j
            rw [List.getElem?_toArray]
            by_cases j1 : j < base + off
            · rw [if_neg (by omega), List.append_assoc, List.getElem?_append_left (by simp; omega), List.getElem?_take, if_pos j1, Array.getElem?_toList]
            · by_cases j2 : j < base + off + min len ys.length
              · rw [if_pos ⟨by omega, j2⟩, List.getElem?_append_left (by simp; omega), List.getElem?_append_right (by simp; omega)]
                congr 1
                simp; omega
              · rw [if_neg (by omega), List.getElem?_append_right (by simp; omega), List.getElem?_drop, Array.getElem?_toList]
                congr 1
                simp; omega
          have hwr : Wrote w (w.setRow b (C.toList.take (base + off) ++ (ys.take len).map (Value.int k) ++ C.toList.drop (base + off + min len ys.length)).toArray) b (base + off) (base + off + min len ys.length) :=
            setRow_wrote d3 hCsz (fun j hj => by rw [hget, if_neg hj])
          have hspl : (splice xs (ys.take len) off (min len ys.length)).length = xs.length := by simp [splice]; omega
          rw [St.get_put, St.blk_put, St.get_setB, St.blk_setB]
          refine (h.own (con' := .n k (splice xs (ys.take len) off (min len ys.length))) hG d1 hwr (by omega) (by simp only [Con.len]; omega) ⟨by simp only [Con.len]; omega, .inl (by simp only [Con.len]; exact hspl)⟩
            (fun C' ⟨e'', hC'⟩ j c hj => ?_)).put hd (RI.raw _)
          simp only [Con.val, Option.map_eq_some_iff] at hj
          obtain ⟨z, hz, rfl⟩ := hj
          refine ⟨.int k z, ?_, RI.raw _⟩
          rw [setRow_heap w b C _ e' (0, 0) d3] at hC'
          simp only [Option.some.injEq, Obj.cells.injEq] at hC'
          obtain ⟨rfl, _, _⟩ := hC'
          rw [hget]
          have hold : ∀ i y, xs[i]? = some y → C[base + i]? = some (.int k y) := by
            intro i y hy
            obtain ⟨v, v1, v2⟩ := w4 i (.raw (.int k y)) (by simp [Con.val, hy])
            rw [v1, RI.raw_inv v2]
          unfold splice at hz
          by_cases j1 : j < off
          · rw [if_neg (by omega)]
            rw [List.append_assoc, List.getElem?_append_left (by simp; omega), List.getElem?_take, if_pos j1] at hz
            exact hold j z hz
          · by_cases j2 : j < off + min len ys.length
            · rw [if_pos ⟨by omega, by omega⟩]
              rw [List.getElem?_append_left (by simp; omega), List.getElem?_append_right (by simp; omega)] at hz
              have e9 : j - (xs.take off).length = base + j - (base + off) := by simp; omega
              rw [e9] at hz
              rw [List.getElem?_map, hz]; rfl
            · rw [if_neg (by omega)]
              rw [List.getElem?_append_right (by simp; omega), List.getElem?_drop] at hz
              have e9 : off + min len ys.length + (j - (xs.take off ++ ys.take len).length) = j := by simp; omega
              rw [e9] at hz
              exact hold j z hz
    · exact False.elim hp
  · exact False.elim hp
theorem st1_sound (hT : TabOK P T) (hS : SOK P S) (hmu : T.mu = false → κ.mu = none) {σ : St} (h : Conc κ β σ.get σ.blk a w) (o : Oper) (hd : ∀ t, o.dst = some t → t < κ.nt)
    (hp : (st1 T S o σ).1) : ER P κ (st1 T S o σ).2 a o.dst ((execOp a.eval o).run P w) := by
  unfold st1 at *
  cases hop : o.op <;> simp only [hop] at hp ⊢ <;> try (exact quiet_step hT hS h o hd hp)
  case alloc t =>
    simp only [execOp, hop]
    exact er_value (alloc_sound hT h hd hp)
  case box t v =>
    have h1 := expo_sound hmu h hp.1
    simp only [execOp, hop]
    exact er_value (box_sound h1 hd (h1.ev v) hp.2)
  case buildSlice t n ps =>
    simp only [execOp, hop]
    have := bslice_sound hT h hd hp
    have e : (ps.map fun x => (x.1, a.eval x.2)) = (ps.toList.map fun p => (p.1, a.eval p.2)).toArray := by
      apply Array.ext'; simp
    refine er_value ?_
    rw [e]
    exact this
  case makeSlice t l c =>
    simp only [execOp, hop]
    exact er_value (make_sound hT h hd (h.ev l) (h.ev c) hp)
  case store t p v =>
    have h1 := expo_sound hmu h hp.1
    obtain ⟨w', h2, h3⟩ := store_sound hT h1 (h1.ev p) (h1.ev v) hp.2
    simp only [execOp, hop, Sem.run_bind, h2, Result.andThen_ok, Sem.run_pure]
    refine ⟨β, ?_⟩
    rw [St.get_put, St.blk_put]
    exact h3.put hd (RI.any _)
  case build t ps =>
    exact quiet_step hT hS (expoL_sound hmu _ h hp.1) o hd hp.2
  case call c =>
    obtain ⟨callee, args, ts⟩ := c
    cases callee with
    | invoke r m => exact quiet_step hT hS h o hd hp
    | builtin b =>
      cases b <;> try (exact quiet_step hT hS h o hd hp)
      case copy =>
        simp only at hp ⊢
        split at hp
        · rename_i x s t t' e1 e2
          have e1' : args = #[x, s] := by apply Array.ext'; simpa using e1
          have e2' : ts = #[t, t'] := by apply Array.ext'; simpa using e2
          subst e1'; subst e2'
          have := copy_sound (t' := t') (ty := o.type) hT h hd (h.ev x) (h.ev s) hp
          simp only [execOp, hop, resolve, Sem.run_bind, Sem.run_pure, Result.andThen_ok, invoke, builtin]
          simpa using er_value this
        · exact False.elim hp
      simp only at hp ⊢
      split at hp
      · rename_i s x t t' e1 e2
        obtain ⟨rfl, hp⟩ := hp
        have e1' : args = #[s, x] := by apply Array.ext'; simpa using e1
        have e2' : ts = #[t, t] := by apply Array.ext'; simpa using e2
        subst e1'; subst e2'
        have := append_sound (ty := o.type) hT h hmu hd (h.ev s) (h.ev x) hp
        simp only [execOp, hop, resolve, Sem.run_bind, Sem.run_pure, Result.andThen_ok, invoke, builtin]
        simpa using er_value this
      · exact False.elim hp
    | value f =>
      simp only at hp ⊢
      split at hp
      · exact quiet_step hT hS (expoL_sound hmu _ h hp.1) o hd hp.2
      · split at hp
        · rename_i g hg
          split at hp
          · rename_i sp hsp
            obtain ⟨p1, p2, p3, p4, p5⟩ := hp
            simp only
            have h1 := expoL_sound hmu _ h p1
            have hf := h.ev f
            rw [hg] at hf
            rw [callFunc_exec o hop hf.fn_nil]
            obtain ⟨k, xs, hr, hF⟩ := (hS g sp hsp _ p4).2.1 p3
            obtain ⟨q1, q2⟩ := args_sound (T := T) h1 args.toList ts.toList p2
            obtain ⟨r1, r2⟩ := hF w (XG κ β (expoL T σ args.toList).2.blk) (args.map a.eval) (fun b hb => h1.xlt hb) (by simp [argsOf_len]) (fun j c hj => by
              obtain ⟨v, v1, v2⟩ := q2 j c hj
              exact ⟨v, by simpa using v1, v2⟩)
            rw [r1]
            rw [hr] at p5 ⊢
            unfold freshS at *
            split at p5
            · rename_i d k' xs' hdd hx
              simp only [AV.ns.injEq] at hx
              obtain ⟨rfl, rfl⟩ := hx
              simp only
              refine r2.mono fun e w'' ⟨v, he, hb, hv⟩ => ⟨v, he, ?_⟩
              have h2 := h1.killed d
              rcases hv with ⟨nb, ob, cap, C, e', rfl, c1, c2, c3, c4, c5⟩ | ⟨rfl, ad, rfl⟩
              · have h3 := h2.adoptAt (id := d) (nb := nb) (o := ob) (Nat.ne_of_lt (hd d hdd)) (refs_kill _ d) hb c3 C e' (.n k xs) (by simp only [Con.len]; omega) c4 (fun j c hj => by
                  simp only [Con.val, Option.map_eq_some_iff] at hj
                  obtain ⟨x, hx, rfl⟩ := hj
                  exact ⟨_, c5 j x hx, RI.raw _⟩)
                refine ⟨upd β d (some (nb, ob)), ?_⟩
                rw [St.get_put, St.blk_put, St.get_setB, St.blk_setB, hdd]
                refine h3.put (v := .os d 1 0 xs.length) (d := some d) (fun t ht => hd t (by rw [hdd]; exact ht)) ⟨_, cap, rfl, c1, fun _ _ => .inr ⟨nb, ob, C, e', upd_same _ _ _, rfl, c4, by simpa using c2⟩⟩
              · have h3 := (h2.below hb).bare (id := d) (refs_kill _ d) (con := .n k []) rfl
                refine ⟨upd β d none, ?_⟩
                rw [St.get_put, St.blk_put, St.get_setB, St.blk_setB, hdd]
                exact h3.put (v := .os d 1 0 0) (d := some d) (fun t ht => hd t (by rw [hdd]; exact ht)) ⟨ad, 0, rfl, Nat.le_refl _, fun _ _ => .inl rfl⟩
            · exact False.elim p5
          · exact False.elim hp
        · exact False.elim hp
      · split at hp
        · rename_i g x0 xs t0 ts' hg e1 e2
          have e1' : args.toList = x0 :: xs := e1
          have e2' : ts.toList = t0 :: ts' := e2
          obtain ⟨p1, hp⟩ := hp
          simp only
          have h1 := expoL_sound hmu _ h p1
          have hf := h.ev f
          rw [hg] at hf
          rw [callFunc_exec o hop hf.fn_nil]
          generalize hσ : (expoL T σ xs).2 = σ1 at *
          unfold mutS at *
          split at hp
          · rename_i id off len sp hx0 hsp
            split at hp
            · rename_i k ys hG
              split at hp
              · rename_i r0 k' zs hres
                obtain ⟨m1, m2, m3, m4, m5, m6⟩ := hp
                simp only
                obtain ⟨k2, xs2, rest2, r2, ys2, a1, a2, a3, hM⟩ := (hS g sp hsp _ m6).2.2 m3
                simp only [List.cons.injEq, AV.ns.injEq] at a1
                obtain ⟨⟨rfl, rfl⟩, rfl⟩ := a1
                rw [hres] at a2
                simp only [AV.tup.injEq, List.cons.injEq, AV.ns.injEq, and_true] at a2
                obtain ⟨rfl, rfl, rfl⟩ := a2
                have hxl : ((ys.drop off).take len).length = len := by simp; omega
                rw [hxl] at a3 hM
                have hx := h1.ev x0
                rw [hx0] at hx
                obtain ⟨ad, cap, hv, c1, c2⟩ := hx
                rcases c2 _ hG with c2 | ⟨b, base, C, e', d1, rfl, d3, d4⟩
                · omega
                · obtain ⟨q1, q2⟩ := args_sound (T := T) h1 xs ts' m1
                  have hargs : args.map a.eval = (a.eval x0 :: xs.map a.eval).toArray := by
                    apply Array.ext'; simp [e1']
                  have hcells : ∀ (j : Nat) (x : Int), ((ys.drop off).take len)[j]? = some x → C[base + off + j]? = some (.int k' x) := by
                    intro j x hx
                    rw [List.getElem?_take] at hx
                    split at hx
                    · rw [List.getElem?_drop] at hx
                      rcases h1.hp id _ hG with h8 | ⟨b2, base2, C2, e2', w1, w2, w3, w4, w5⟩
                      · rw [d1] at h8; cases h8.1
                      · rw [d1] at w1
                        simp only [Option.some.injEq, Prod.mk.injEq] at w1
                        obtain ⟨rfl, rfl⟩ := w1
                        rw [d3] at w2
                        simp only [Option.some.injEq, Obj.cells.injEq] at w2
                        obtain ⟨rfl, _, _⟩ := w2
                        obtain ⟨v, v1, v2⟩ := w4 (off + j) (.raw (.int k' x)) (by simp [Con.val, hx])
                        rw [Nat.add_assoc, v1, RI.raw_inv v2]
                    · cases hx
                  obtain ⟨r1, r2⟩ := hM w (XG κ β σ1.blk) (args.map a.eval) b (base + off) cap C e' (fun b hb => h1.xlt hb) (.inr ⟨id, _, base, hG, d1⟩)
                    (by rw [hargs]; simp [argsOf_len]) (by rw [hargs]; simp [hv]) c1 d3 (by simpa using d4) hcells (fun j c hj => by
                      obtain ⟨v, v1, v2⟩ := q2 j c hj
                      exact ⟨v, by rw [hargs]; simpa using v1, v2⟩)
                  rw [r1]
                  refine r2.mono fun e w'' ⟨v, he, hr, hwr, hcc⟩ => ⟨v, he, β, ?_⟩
                  rw [St.get_put, St.blk_put, St.get_setB, St.blk_setB]
                  have hsl : (splice ys zs off len).length = ys.length := by simp [splice]; omega
                  have hown := h1.own (con' := .n k' (splice ys zs off len)) hG d1 hwr (by omega) (by simp only [Con.len]; omega) ⟨by simp only [Con.len]; omega, .inl (by simp only [Con.len]; exact hsl)⟩
                    (fun C' hC' j c hj => by
                      simp only [Con.val, Option.map_eq_some_iff] at hj
                      obtain ⟨x, hx, rfl⟩ := hj
                      refine ⟨.int k' x, ?_, RI.raw _⟩
                      obtain ⟨e'', hC'⟩ := hC'
                      obtain ⟨C2, g1, g2, g3⟩ := hwr.row C e' d3
                      rw [hC'] at g1
                      simp only [Option.some.injEq, Obj.cells.injEq] at g1
                      obtain ⟨rfl, _, _⟩ := g1
                      have hold : ∀ i y, ys[i]? = some y → C[base + i]? = some (.int k' y) := by
                        intro i y hy
                        rcases h1.hp id _ hG with h8 | ⟨b2, base2, C2, e2', w1, w2, w3, w4, w5⟩
                        · rw [d1] at h8; cases h8.1
                        · rw [d1] at w1
                          simp only [Option.some.injEq, Prod.mk.injEq] at w1
                          obtain ⟨rfl, rfl⟩ := w1
                          rw [d3] at w2
                          simp only [Option.some.injEq, Obj.cells.injEq] at w2
                          obtain ⟨rfl, _, _⟩ := w2
                          obtain ⟨v, v1, v2⟩ := w4 i (.raw (.int k' y)) (by simp [Con.val, hy])
                          rw [v1, RI.raw_inv v2]
                      unfold splice at hx
                      by_cases hlt : j < off
                      · rw [g3 _ (by omega)]
                        rw [List.append_assoc, List.getElem?_append_left (by simp; omega), List.getElem?_take, if_pos hlt] at hx
                        exact hold j x hx
                      · by_cases hlt2 : j < off + len
                        · rw [List.getElem?_append_left (by simp; omega), List.getElem?_append_right (by simp; omega)] at hx
                          have e9 : j - (ys.take off).length = j - off := by simp; omega
                          rw [e9] at hx
                          have := hcc C' ⟨e'', hC'⟩ (j - off) x hx
                          rw [← this]
                          congr 1; omega
                        · rw [g3 _ (by omega)]
                          rw [List.getElem?_append_right (by simp; omega), List.getElem?_drop] at hx
                          have e9 : off + len + (j - (ys.take off ++ zs).length) = j := by simp; omega
                          rw [e9] at hx
                          exact hold j x hx)
                  refine hown.put hd ?_
                  refine RV.of m2 (hr.keep (Keep.refl _ _) (fun k _ hk => ?_))
                  refine XG.weak (fun i c hi => ?_) hk
                  by_cases e : id = i
                  · subst e; exact ⟨_, hG⟩
                  · rw [upd_other _ _ e] at hi; exact ⟨c, hi⟩
              · exact False.elim hp
            · exact False.elim hp
          · exact False.elim hp
        · exact False.elim hp
      · exact False.elim hp
end
end Go.Hl

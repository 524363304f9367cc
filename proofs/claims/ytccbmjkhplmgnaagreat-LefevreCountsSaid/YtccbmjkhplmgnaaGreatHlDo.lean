/- From a contract to the statement's walk. The closed facts of a row, one by one. -/
import Derived.ProofKit
import Derived.Test.YtccbmjkhplmgnaaGreatProg
import Derived.Test.YtccbmjkhplmgnaaGreatHlT
import Derived.Test.YtccbmjkhplmgnaaGreatHlN
set_option linter.unusedVariables false
set_option linter.unusedSimpArgs false
namespace Go.Hl
open Go Go.RowKit Go.Proofs
theorem calls_of_acall {P : Program} {f : FuncId} {fn : Func} {c : Code} (hf : P.funcs[f]? = some fn) (hb : fn.body = some c) (hname : (fn.name == "runtime.NumGoroutine") = false) {args : List AV} {vs : Array Value} {w : World} {v : Value}
    (h : ACall P f args (.raw v)) (hl : vs.size = args.length) (hr : ∀ (j : Nat) (c : AV), args[j]? = some c → ∃ v : Value, vs[j]? = some v ∧ RI w (fun _ => False) c v) :
    Calls P f vs w fun e w' => e = .returned v ∧ Below w.heap.size w w' := by
  rcases h w (fun _ => False) vs (fun _ h => h.elim) hl hr with ⟨v, h1, _⟩ | ⟨_, h2⟩
  · rw [run_callFunc_body hf hb hname] at h1
    cases h1
  · refine Calls.mono h2 fun e w' ⟨v', he, hr', hbel⟩ => ?_
    cases hr'
    exact ⟨he, hbel⟩
def Row (k : IntKind) (w : World) (a : Option Addr) (len cap : Nat) (zs : List Int) : Prop :=
  (a = none ∧ len = 0 ∧ cap = 0 ∧ zs = []) ∨
  ∃ x, a = some x ∧ len ≤ cap ∧ cap ≤ maxLen ∧ zs.length = cap ∧ (∀ i, i < zs.length → w.cell? (x.add i) = some (.int k (zs.getD i 0))) ∧ ∀ n ∈ zs, (Lit.int k n).wf = true
theorem Row.ri {k : IntKind} {w : World} {a : Option Addr} {len cap : Nat} {zs : List Int} (h : Row k w a len cap zs) : RI w (fun _ => False) (.ns k (zs.take len)) (.slice a len cap) := by
  rcases h with ⟨rfl, rfl, rfl, rfl⟩ | ⟨x, rfl, hl, hm, hz, hcell, hwz⟩
  · exact RI.ns k [] none 0 0 0 (by simp) (by simp) (by simp)
  · have hlen : (zs.take len).length = len := by rw [List.length_take]; omega
    have := RI.ns (w := w) (X := fun _ => False) k (zs.take len) (some x) x.block x.off cap (by omega) (fun h0 => ⟨?_, fun h => h⟩) (fun i y hy => ?_)
    · rw [hlen] at this; exact this
    · have h1 := hcell 0 (by omega)
      obtain ⟨b, o, sp⟩ := x
      have := World.cell?_spot h1
      simp only [Addr.add] at this
      subst this
      rfl
    · rw [List.getElem?_take] at hy
      split at hy
      · obtain ⟨hi, hy⟩ := List.getElem?_eq_some_iff.1 hy
        have h1 := hcell i hi
        have h0 := World.cell?_spot (hcell 0 (by omega))
        rw [List.getD_eq_getElem?_getD, List.getElem?_eq_getElem hi, hy] at h1
        obtain ⟨b, o, sp⟩ := x
        simp only [Addr.add] at h0 h1
        subst h0
        simp only [Option.getD_some] at h1
        rw [← h1]
        by_cases hi0 : i = 0
        · subst hi0; rfl
        · rw [if_neg hi0]
      · cases hy
theorem wf_u64 {n : Int} (h : (Lit.int .u64 n).wf = true) : 0 ≤ n ∧ n < 18446744073709551616 := by
  simp [Lit.wf, IntKind.min, IntKind.max, IntKind.signed, IntKind.bits] at h
  omega
theorem Row.lim {w : World} {a : Option Addr} {len cap : Nat} {zs : List Int} (h : Row .u64 w a len cap zs) : Lim B64 (zs.take len) := by
  intro x hx
  rw [hB64]
  rcases h with ⟨_, _, _, rfl⟩ | ⟨_, _, _, _, _, _, hwz⟩
  · simp at hx
  · exact wf_u64 (hwz x (List.mem_of_mem_take hx))
end Go.Hl

namespace Go.Hl
open Go Go.RowKit
theorem joined_of {P : Program} {f : FuncId} {fn : Func} {s : ChangeSpec} {c : OpenClaim} (k0 : (c.wf (OpenSpec.ofChange s)) = true) (k1 : (laidOutB P) = true) (k2 : (mapsRowed P) = true) (k3 : (fn.params.all (P.readableRec ·)) = true) (k4 : (namedTie P c.named s.vars) = true) (k5 : ((c.stops == [])) = true) (k6 : ((P.stops == [])) = true) (k7 : ((c.knobs == [])) = true) (k8 : ((P.stopKnobs == [])) = true) (k9 : ((c.inPlace == P.inPlace f)) = true) (k10 : ((c.unfollowed == P.unfollowed f)) = true) (k11 : ((c.recurses == P.recurses f)) = true) (k12 : ((c.named == P.varsNamed f)) = true) (k13 : ((c.maps == (fn.params.toList ++ s.plain.varTypes P).any (P.mapsRec ·))) = true) (k14 : ((c.ifaces == (fn.params.toList ++ s.plain.varTypes P).any (P.ifacesRec ·))) = true) (k15 : ((c.mapsOut == P.mapsAmong fn.resultTypes.toList)) = true) (k16 : ((c.loops == (fn.params.toList ++ s.plain.varTypes P).any (P.loopsFrom ·))) = true) (k17 : ((c.wideKeys == (fn.params.toList ++ s.plain.varTypes P ++ fn.resultTypes.toList).any (P.wideKeysFrom ·))) = true) (k18 : (s.vars.all (P.varReadable ·)) = true) (k19 : (fn.resultTypes.all (fun t => P.readableRec t && decide (t < P.types.size))) = true) (k20 : ((c.ifacesOut == fn.resultTypes.toList.any (P.ifacesRec ·))) = true) (k21 : ((c.loopsOut == fn.resultTypes.toList.any (P.loopsFrom ·))) = true) (k22 : ((c.plainKeys == P.plainKeys)) = true) (k23 : (c.shortTexts.isNone) = true) (k24 : (P.stopsHeard) = true) (k25 : (P.mayEnter) = true) (k26 : ((c.lifted == P.liftsFinal)) = true) (k27 : ((P.make == some c.make)) = true) (k28 : ((c.kinds == (if c.domain.isEmpty then [] else fn.params.toList.map fun t => match P.underlying t with | some (.int k) => some k | _ => none))) = true) (k29 : ((c.pinned == c.pinnedBy)) = true) (k30 : ((c.veiled == (fn.params.toList ++ s.plain.varTypes P ++ fn.resultTypes.toList).any (P.veiledRec ·))) = true) (k31 : (c.veiledFits P fn.params.toList (fn.params.toList ++ s.plain.varTypes P ++ fn.resultTypes.toList)) = true) : joinedFacts P f fn s c = true := by
  unfold joinedFacts
  simp only [Bool.and_eq_true]
  exact ⟨⟨⟨⟨⟨⟨⟨⟨⟨⟨⟨⟨⟨⟨⟨⟨⟨⟨⟨⟨⟨⟨⟨⟨⟨⟨⟨⟨⟨⟨⟨k0, k1⟩, k2⟩, k3⟩, k4⟩, k5⟩, k6⟩, k7⟩, k8⟩, k9⟩, k10⟩, k11⟩, k12⟩, k13⟩, k14⟩, k15⟩, k16⟩, k17⟩, k18⟩, k19⟩, k20⟩, k21⟩, k22⟩, k23⟩, k24⟩, k25⟩, k26⟩, k27⟩, k28⟩, k29⟩, k30⟩, k31⟩
end Go.Hl

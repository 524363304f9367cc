/- LefevreArcs -/
import Derived.Test.YtccbmjkhplmgnaaHlK5
import Derived.Test.YtccbmjkhplmgnaaHlK
set_option linter.unusedVariables false
set_option linter.unusedSimpArgs false
namespace Go.Hl
open Go Go.RowKit Go.Proofs
set_option maxHeartbeats 8000000
set_option maxRecDepth 100000
def spXA : Sp where
  kind := 0
  pre | [.sl 2 n cs, .sl 2 m ds] => ∃ L : List Int, n = L.length ∧ m = n ∧ cs = cellsZ L ∧ ds = cs ∧ L.length < 1000 ∧ ∀ z ∈ L, lnP z
      | [.nul, .nul] => True
      | _ => False
  res | _ => .raw (.bool true)
theorem exactAllZ_ok : SpOK Try.prog 106 spXA := by
  refine SpOK.zero rfl fun args hp => ?_
  have hE := env (SOK.cons exact_ok (SOK.nil (P := Try.prog)))
  simp only [spXA] at hp ⊢
  split at hp
  · rename_i n cs m ds
    obtain ⟨L, rfl, rfl, rfl, rfl, hL, hz⟩ := hp
    have e0 : ((L.length : Int) != (L.length : Int)) = false := by simp
    refine ACall.body hE Try.func106 Try.ntmps106 Try.results106 ?_
    refine wk hE e0 ?_
    refine AWp.loop (ι := {i : Nat // i ≤ L.length}) (fun i => ⟨[(0, .sl 2 L.length (cellsZ L)), (1, .sl 2 L.length (cellsZ L)), (5, .raw (.int .i64 (i.1 : Nat)))], []⟩) (fun i => L.length - i.1) ⟨0, Nat.zero_le _⟩ (Le.mk trivial) ?_
    rintro ⟨i, hi⟩
    dsimp only
    by_cases hlt : i < L.length
    · have hat := cz_at hlt
      obtain ⟨o1, o2⟩ := hz _ (mem_getD hlt)
      obtain ⟨x, ex⟩ : ∃ x, L.getD i 0 = x := ⟨_, rfl⟩
      rw [ex] at hat o1 o2
      have d0 : decide (dg x.natAbs = dg x.natAbs) = true := decide_eq_true rfl
      have b0 : (decide (x < 0) == decide (x < 0)) = true := beq_self_eq_true _
      refine wk hE (And.intro (show (i : Int) < L.length by omega) (And.intro hat (And.intro d0 b0))) ?_
      exact ⟨⟨i + 1, hlt⟩, Le.mk trivial, by dsimp only; omega⟩
    · refine wk hE (show ¬ (i : Int) < L.length by omega) ?_
      exact PostL.mk trivial rfl
  · refine ACall.body hE Try.func106 Try.ntmps106 Try.results106 ?_
    refine wk hE trivial ?_
    refine AWp.loop (ι := Unit) (fun _ => ⟨[(0, .nul), (1, .nul), (5, .raw (.int .i64 0))], []⟩) (fun _ => 0) () (Le.mk trivial) ?_
    rintro ⟨⟩
    try dsimp only
    refine wk hE trivial ?_
    exact PostL.mk trivial rfl
  · exact hp.elim
theorem gok_small {m all n : Int} {l : List (Int × Int)} (h : GOK m all n l) : l.length ≤ 3 ∧ ∀ z ∈ l.map (·.1), 0 ≤ z ∧ z ≤ m := by
  cases h with
  | one x c h0 h1 h2 h3 h4 =>
    refine ⟨by simp, fun z hz => ?_⟩
    simp only [List.map_cons, List.map_nil, List.mem_cons, List.not_mem_nil, or_false] at hz
    omega
  | two x c y d h0 h1 h2 h3 h4 h5 h6 =>
    refine ⟨by simp, fun z hz => ?_⟩
    simp only [List.map_cons, List.map_nil, List.mem_cons, List.not_mem_nil, or_false] at hz
    omega
  | three x c y d e h0 h1 h2 h3 h4 h5 h6 h7 =>
    refine ⟨by simp, fun z hz => ?_⟩
    simp only [List.map_cons, List.map_nil, List.mem_cons, List.not_mem_nil, or_false] at hz
    omega
theorem lefevreArcs_ok {b0 b1 b2 : Bool} {x0 x1 x2 : List Int} {N : Int} (h0 : Lim B64 x0) (h1 : Lim B64 x1) (h2 : Lim B64 x2) (hN : (Lit.int .i64 N).wf = true) :
    ACall Try.prog 23 [.agg [.raw (.bool b0), .ns .u64 x0, .raw (.bool b1), .ns .u64 x1, .raw (.bool b2), .ns .u64 x2, .raw (.int .i64 N)]] (.raw (.bool true)) := by
  obtain ⟨N1, N2⟩ := rng64 hN
  have hE := env (SOK.cons shown15_ok (SOK.cons fits_ok (SOK.cons own_ok (SOK.cons rgaps_ok (SOK.cons gaps_ok (SOK.cons exactAllZ_ok (SOK.cons sameI_ok (SOK.cons kept_ok (SOK.nil (P := Try.prog))))))))))
  refine ACall.body hE Try.func23 Try.ntmps23 Try.results23 ?_
  obtain ⟨F, eF⟩ : ∃ F, fitB x0 x1 x2 2 = F := ⟨_, rfl⟩
  cases F
  · refine wk hE eF ?_
    exact PostL.mk trivial rfl
  obtain ⟨l0, l1, l2⟩ := fit_true eF
  have m0 := lm_of h0 (k := 2) (by omega) (by decide)
  have m1 := lm_of h1 (k := 2) (by omega) (by decide)
  have m2 := lm_of h2 (k := 2) (by omega) (by decide)
  by_cases hl : 200 < N
  · refine wk hE (And.intro eF hl) ?_
    exact PostL.mk trivial rfl
  have bM := zv_abs_lt (b := b2) m2 (l := 2) (by omega)
  obtain ⟨A, eA⟩ : ∃ A, zv b0 x0 = A := ⟨_, rfl⟩
  obtain ⟨M, eM⟩ : ∃ M, zv b2 x2 = M := ⟨_, rfl⟩
  rw [eM] at bM
  by_cases hb : badL M N
  · have eR : gRes A M N = .tup [.nul, .ns .i64 [], .raw (.int .i64 1)] := if_pos hb
    have hx : spXA.pre [.nul, .nul] := trivial
    have hr : spXA.res [.nul, .nul] = .raw (.bool true) := rfl
    have dn : decide (([] : List Int) = []) = true := decide_eq_true rfl
    refine wk hE (And.intro eF (And.intro hl (And.intro eA (And.intro eM (And.intro eR (And.intro hx (And.intro hr dn))))))) ?_
    exact PostL.mk trivial rfl
  have hG := gL_ok (a := A) (m := M) (n := N) (by unfold badL at hb; omega) (by unfold badL at hb; omega)
  obtain ⟨g1, g2⟩ := gok_small hG
  have eR : gRes A M N = .tup [.sl 2 (gL A M N).length (cellsZ ((gL A M N).map (·.1))), .ns .i64 ((gL A M N).map (·.2)), .raw (.int .i64 0)] := if_neg hb
  obtain ⟨l, el⟩ : ∃ l, gL A M N = l := ⟨_, rfl⟩
  rw [el] at eR g1 g2
  obtain ⟨L, eL⟩ : ∃ L, l.map (·.1) = L := ⟨_, rfl⟩
  obtain ⟨D, eD⟩ : ∃ D, l.map (·.2) = D := ⟨_, rfl⟩
  have hLl : l.length = L.length := by rw [← eL, List.length_map]
  have hDl : D.length ≤ 3 := by rw [← eD, List.length_map]; exact g1
  rw [eL, eD, hLl] at eR
  rw [eL] at g2
  have rL : ∀ z ∈ L, lnP z := fun z hz => by
    have := g2 z hz
    exact fit_of (k := 2) (by decide) (by omega)
  have hx : spXA.pre [.sl 2 L.length (cellsZ L), .sl 2 L.length (cellsZ L)] := ⟨L, rfl, rfl, rfl, rfl, by omega, rL⟩
  have hr : spXA.res [.sl 2 L.length (cellsZ L), .sl 2 L.length (cellsZ L)] = .raw (.bool true) := rfl
  obtain ⟨C, eC⟩ : ∃ C, cellsZ L = C := ⟨_, rfl⟩
  obtain ⟨c, ec⟩ : ∃ c, L.length = c := ⟨_, rfl⟩
  rw [eC, ec] at eR hx hr
  have dD : decide (D = D) = true := decide_eq_true rfl
  refine wk hE (And.intro eF (And.intro hl (And.intro eA (And.intro eM (And.intro eR (And.intro hx (And.intro hr dD))))))) ?_
  exact PostL.mk trivial rfl
end Go.Hl

/- ref15: put -/
import Derived.Test.YtccbmjkhplmgnaaHlK
import Derived.Test.YtccbmjkhplmgnaaHlVa
import Derived.Test.YtccbmjkhplmgnaaHlGd
set_option linter.unusedVariables false
set_option linter.unusedSimpArgs false
namespace Go.Hl
open Go Go.RowKit Go.Proofs
set_option maxHeartbeats 8000000
set_option maxRecDepth 100000
theorem cz_len : ∀ L : List Int, (cellsZ L).length = L.length * 2
  | [] => rfl
  | z :: t => by simp only [cellsZ, List.length_cons]; rw [cz_len t]; omega
theorem cz_app : ∀ L M : List Int, cellsZ (L ++ M) = cellsZ L ++ cellsZ M
  | [], _ => rfl
  | z :: t, M => by simp only [cellsZ, List.cons_append]; rw [cz_app t M]
theorem cz_one : ∀ L : List Int, (cellsZ L).all AV.one = true
  | [] => rfl
  | z :: t => by simp only [cellsZ, List.all_cons]; rw [cz_one t]; rfl
theorem cz_take : ∀ (i : Nat) (L : List Int), (cellsZ L).take (i * 2) = cellsZ (L.take i)
  | 0, L => by simp [cellsZ]
  | i + 1, [] => by simp [cellsZ]
  | i + 1, z :: t => by
    rw [show (i + 1) * 2 = i * 2 + 1 + 1 by omega]
    simp only [cellsZ, List.take_succ_cons]
    rw [cz_take i t]
theorem cz_drop : ∀ (i : Nat) (L : List Int), (cellsZ L).drop (i * 2) = cellsZ (L.drop i)
  | 0, L => by simp
  | i + 1, [] => by simp [cellsZ]
  | i + 1, z :: t => by
    rw [show (i + 1) * 2 = i * 2 + 1 + 1 by omega]
    simp only [cellsZ, List.drop_succ_cons]
    rw [cz_drop i t]
theorem cz_at {i : Nat} {L : List Int} (h : i < L.length) : ((cellsZ L).drop (i * 2)).take 2 = [.raw (.bool (decide (L.getD i 0 < 0))), .ns .u64 (dg (L.getD i 0).natAbs)] := by
  rw [cz_drop]
  have : L.drop i = L.getD i 0 :: L.drop (i + 1) := by
    rw [List.drop_eq_getElem_cons h, List.getD_eq_getElem?_getD, List.getElem?_eq_getElem h]; rfl
  rw [this]
  rfl
def unZ : List AV → List Int
  | .raw (.bool b) :: .ns _ x :: t => zv b x :: unZ t
  | _ => []
theorem un_cz : ∀ L : List Int, unZ (cellsZ L) = L
  | [] => rfl
  | z :: t => by simp only [cellsZ, unZ]; rw [un_cz t, zv_zi]
theorem ins_pre {x : Int} : ∀ {pre t : List Int}, (∀ y ∈ pre, y < x) → ins (pre ++ t) x = pre ++ ins t x
  | [], _, _ => rfl
  | y :: pre, t, h => by
    simp only [List.cons_append, ins]
    rw [if_pos (h y (.head _)), ins_pre (fun z hz => h z (.tail _ hz))]
theorem ins_at {L : List Int} {x : Int} {at_ : Nat} (hl : at_ ≤ L.length) (h : ∀ j, j < at_ → L.getD j 0 < x) :
    (at_ < L.length → L.getD at_ 0 = x → ins L x = L) ∧ ((at_ < L.length → x < L.getD at_ 0) → ins L x = L.take at_ ++ [x] ++ L.drop at_) := by
  have hp : ∀ y ∈ L.take at_, y < x := fun y hy => by
    obtain ⟨j, hj, e⟩ := List.getElem_of_mem hy
    rw [List.length_take] at hj
    have := h j (by omega)
    rw [List.getD_eq_getElem?_getD, List.getElem?_eq_getElem (by omega)] at this
    rw [← e, List.getElem_take]
    exact this
  have e := ins_pre (t := L.drop at_) hp
  rw [List.take_append_drop] at e
  refine ⟨fun hlt he => ?_, fun hgt => ?_⟩
  · rw [e]
    have hd : L.drop at_ = L.getD at_ 0 :: L.drop (at_ + 1) := by
      rw [List.drop_eq_getElem_cons hlt, List.getD_eq_getElem?_getD, List.getElem?_eq_getElem hlt]; rfl
    rw [hd, he]
    simp only [ins]
    rw [if_neg (Int.lt_irrefl _), if_pos trivial, ← he, ← hd, List.take_append_drop]
  · rw [e]
    rcases Nat.lt_or_ge at_ L.length with hlt | hge
    · have hd : L.drop at_ = L.getD at_ 0 :: L.drop (at_ + 1) := by
        rw [List.drop_eq_getElem_cons hlt, List.getD_eq_getElem?_getD, List.getElem?_eq_getElem hlt]; rfl
      have := hgt hlt
      rw [hd]
      simp only [ins]
      rw [if_neg (by omega), if_neg (by omega)]
      simp
    · rw [List.drop_eq_nil_of_le hge]
      simp [ins]
def lnP (z : Int) : Prop := Lm (dg z.natAbs) ∧ (dg z.natAbs).length < 1000
def spPut : Sp where
  kind := 0
  pre | [.sl 2 n cs, .agg [.raw (.bool b), .ns .u64 x]] => (∃ L : List Int, n = L.length ∧ cs = cellsZ L ∧ L.length < 1000 ∧ ∀ z ∈ L, lnP z) ∧ ∃ Z : Int, b = decide (Z < 0) ∧ x = dg Z.natAbs ∧ lnP Z
      | _ => False
  res | [.sl 2 _ cs, .agg [.raw (.bool b), .ns .u64 x]] => .sl 2 (ins (unZ cs) (zv b x)).length (cellsZ (ins (unZ cs) (zv b x)))
      | _ => .any
theorem mem_getD {L : List Int} {i : Nat} (h : i < L.length) : L.getD i 0 ∈ L := by
  rw [List.getD_eq_getElem?_getD, List.getElem?_eq_getElem h]; exact List.getElem_mem h
theorem put_ok : SpOK Try.prog 143 spPut := by
  have cut : ∀ (L : List Int) (i : Nat), i ≤ L.length → ∃ C1 C2, List.take (i * 2) (cellsZ L) = C1 ∧ C1.all AV.one = true ∧ C1.length = i * 2 ∧ List.take (L.length * 2) (cellsZ L) = cellsZ L ∧ List.drop (i * 2) (cellsZ L) = C2 ∧ C2.all AV.one = true ∧ C2.length = (L.length - i) * 2 ∧ C1 = cellsZ (L.take i) ∧ C2 = cellsZ (L.drop i) := fun L i hi => by
    refine ⟨cellsZ (L.take i), cellsZ (L.drop i), cz_take i L, cz_one _, ?_, List.take_of_length_le (by rw [cz_len]; exact Nat.le_refl _), cz_drop i L, cz_one _, ?_, rfl, rfl⟩
    · rw [cz_len, List.length_take]; congr 1; omega
    · rw [cz_len, List.length_drop]
  refine SpOK.zero rfl fun args hp => ?_
  simp only [spPut] at hp ⊢
  split at hp
  · rename_i n cs b x
    obtain ⟨⟨L, rfl, rfl, hL, hz⟩, X, rfl, rfl, hx, hxl⟩ := hp
    have hE := env (SOK.cons rzcmp_ok (SOK.nil (P := Try.prog)))
    rw [un_cz, zv_zi]
    obtain ⟨b, eb⟩ : ∃ b, decide (X < 0) = b := ⟨_, rfl⟩
    obtain ⟨x, ex⟩ : ∃ x, dg X.natAbs = x := ⟨_, rfl⟩
    have eX : zv b x = X := by rw [← eb, ← ex, zv_zi]
    rw [ex] at hx hxl
    rw [eb, ex]
    have fin : ∀ (C1 C2 : List AV) (i : Nat), i ≤ L.length → C1 = cellsZ (L.take i) → C2 = cellsZ (L.drop i) → ins L X = L.take i ++ [X] ++ L.drop i →
        AV.sl 2 (i + 1 + ((L.length : Int) - (i : Int)).toNat) (List.take ((i + 1 + ((L.length : Int) - (i : Int)).toNat) * 2) (C1 ++ [AV.raw (.bool b), AV.ns .u64 x] ++ C2)) = AV.sl 2 (ins L X).length (cellsZ (ins L X)) := fun C1 C2 i hi h1 h2 h3 => by
      have hc : C1 ++ [AV.raw (.bool b), AV.ns .u64 x] ++ C2 = cellsZ (ins L X) := by
        rw [h1, h2, h3, cz_app, cz_app, ← eb, ← ex]; rfl
      have hn : i + 1 + ((L.length : Int) - (i : Int)).toNat = (ins L X).length := by
        rw [h3]
        simp only [List.length_append, List.length_take, List.length_drop, List.length_singleton]
        omega
      rw [hn, hc, List.take_of_length_le (by rw [cz_len]; exact Nat.le_refl _)]
    refine ACall.body hE Try.func143 Try.ntmps143 Try.results143 ?_
    refine wk hE trivial ?_
    refine AWp.loop (ι := {i : Nat // i ≤ L.length ∧ ∀ j, j < i → L.getD j 0 < X}) (fun i => ⟨[(0, .sl 2 L.length (cellsZ L)), (3, .ptr 3 0), (5, .raw (.int .i64 (i.1 : Nat)))], [(3, ⟨true, .c [.raw (.bool b), .ns .u64 x]⟩)]⟩) (fun i => L.length - i.1) ⟨0, Nat.zero_le _, fun j hj => by omega⟩ (Le.mk trivial) ?_
    rintro ⟨i, hi, hI⟩
    dsimp only
    have hat := ins_at hi hI
    obtain ⟨C1, C2, k1, k2, k3, k4, k5, k6, k7, k8, k9⟩ := cut L i hi
    by_cases hlt : i < L.length
    · have hc := cz_at hlt
      obtain ⟨ol1, ol2⟩ := hz _ (mem_getD hlt)
      obtain ⟨l, el⟩ : ∃ l, L.getD i 0 = l := ⟨_, rfl⟩
      rw [el] at hc ol1 ol2 hat
      have hlt' : (i : Int) < L.length := by omega
      by_cases hv : l < X
      · refine wk hE (And.intro hlt' (And.intro hc (And.intro eX (cmp_lt0.2 hv)))) ?_
        refine ⟨⟨i + 1, hlt, fun j hj => ?_⟩, Le.mk trivial, by dsimp only; omega⟩
        rcases Nat.lt_or_ge j i with h | h
        · exact hI j h
        · obtain rfl : j = i := by omega
          rw [el]; exact hv
      · have hv' : ¬ cmpZ l X < 0 := fun h => hv (cmp_lt0.1 h)
        by_cases he : l = X
        · have hz0 : (cmpZ l X == 0) = true := by rw [he]; unfold cmpZ; simp
          refine wk hE (And.intro hlt' (And.intro hc (And.intro eX (And.intro hv' hz0)))) ?_
          refine PostL.mk trivial ?_
          rw [hat.1 hlt he]
        · have hz0 : (cmpZ l X == 0) = false := by rw [beq_eq_false_iff_ne]; unfold cmpZ; rw [if_neg hv, if_pos (by omega)]; decide
          have hr := hat.2 (fun _ => by omega)
          have hc2 := hc
          rw [k5] at hc2
          refine wk hE (And.intro hlt' (And.intro hc2 (And.intro eX (And.intro hv' (And.intro hz0 (And.intro k1 (And.intro k2 (And.intro k3 (And.intro k4 (And.intro k5 (And.intro k6 k7))))))))))) ?_
          refine PostL.mk (And.intro k3 k7) ?_
          exact fin C1 C2 i hi k8 k9 hr
    · have hlt' : ¬ (i : Int) < L.length := by omega
      have hr := hat.2 (fun h => absurd h hlt)
      refine wk hE (And.intro hlt' (And.intro k1 (And.intro k2 (And.intro k3 (And.intro k4 (And.intro k5 (And.intro k6 k7))))))) ?_
      refine PostL.mk (And.intro k3 k7) ?_
      exact fin C1 C2 i hi k8 k9 hr
  · exact hp.elim
end Go.Hl

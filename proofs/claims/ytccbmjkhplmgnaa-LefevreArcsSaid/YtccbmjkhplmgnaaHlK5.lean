/- ref15: Gaps -/
import Derived.Test.YtccbmjkhplmgnaaHlK4
import Derived.Test.YtccbmjkhplmgnaaHlAx
set_option linter.unusedVariables false
set_option linter.unusedSimpArgs false
namespace Go.Hl
open Go Go.RowKit Go.Proofs
set_option maxHeartbeats 8000000
set_option maxRecDepth 100000
theorem put_facts {L : List Int} {V : Int} {c d : Nat} {C D : List AV} (hc : c = L.length) (hC : C = cellsZ L) (hl : L.length < 1000) (hz : ∀ z ∈ L, lnP z) (hv : lnP V) (hd : d = (ins L V).length) (hD : D = cellsZ (ins L V)) :
    spPut.pre [.sl 2 c C, .agg [.raw (.bool (decide (V < 0))), .ns .u64 (dg V.natAbs)]] ∧ spPut.res [.sl 2 c C, .agg [.raw (.bool (decide (V < 0))), .ns .u64 (dg V.natAbs)]] = .sl 2 d D := by
  refine ⟨⟨⟨L, hc, hC, hl, hz⟩, V, rfl, rfl, hv⟩, ?_⟩
  show AV.sl 2 (ins (unZ C) (zv (decide (V < 0)) (dg V.natAbs))).length (cellsZ (ins (unZ C) (zv (decide (V < 0)) (dg V.natAbs)))) = _
  rw [hC, un_cz, zv_zi, hd, hD]
theorem pts_len (f : Nat → Int) : ∀ n, (pts f n).length ≤ n
  | 0 => Nat.le_refl _
  | n + 1 => by rw [pts_succ]; have := ins_len (f n) (pts f n); have := pts_len f n; omega
theorem insAll_len : ∀ l : List Int, (insAll l).length ≤ l.length := by
  have key : ∀ (l s : List Int), (l.foldl ins s).length ≤ s.length + l.length := by
    intro l
    induction l with
    | nil => intro s; simp
    | cons x l ih =>
      intro s
      have := ih (ins s x)
      have := ins_len x s
      simp only [List.foldl_cons, List.length_cons]
      omega
  intro l
  have := key l []
  simpa [insAll] using this
theorem take_succ_getD {l : List Int} {i : Nat} (h : i < l.length) : l.take (i + 1) = l.take i ++ [l.getD i 0] := by
  rw [List.take_add_one, List.getElem?_eq_getElem h, List.getD_eq_getElem?_getD, List.getElem?_eq_getElem h]; rfl
theorem arcs_getD {m : Int} {l : List Int} {i : Nat} (h : i < l.length) : (arcs m l).getD i 0 = (if i + 1 < l.length then l.getD (i + 1) 0 else m) - l.getD i 0 := by
  rw [List.getD_eq_getElem?_getD, arcs_get m l i h]; rfl
theorem pts_rng {a m : Int} (hm : 0 < m) {n : Nat} : ∀ z ∈ pts (Pk a m) n, 0 ≤ z ∧ z < m := fun z hz => by
  obtain ⟨k, _, e⟩ := ((pts_spec (Pk a m) n).2 z).1 hz
  rw [← e]; exact mod_rng _ hm
theorem arcs_rng {a m : Int} (hm : 0 < m) {n : Nat} : ∀ z ∈ arcs m (pts (Pk a m) n), -m ≤ z ∧ z ≤ m := fun z hz => by
  obtain ⟨i, hi, e⟩ := List.getElem_of_mem hz
  rw [arcs_len] at hi
  have h1 := arcs_getD (m := m) hi
  rw [List.getD_eq_getElem?_getD, List.getElem?_eq_getElem (by rw [arcs_len]; exact hi)] at h1
  have h1 : (arcs m (pts (Pk a m) n))[i] = _ := h1
  rw [e] at h1
  have r1 := pts_rng (a := a) hm _ (mem_getD hi)
  split at h1
  · rename_i h
    have r2 := pts_rng (a := a) hm _ (mem_getD h)
    omega
  · omega
@[push_cast] noncomputable def spRGaps : Sp := spZZI 0 (fun _ x0 _ x1 n => (Lm x0 ∧ x0.length < 400) ∧ (Lm x1 ∧ x1.length < 400) ∧ -9223372036854775808 ≤ n ∧ n ≤ 200) (fun b0 x0 b1 x1 n => gRes (zv b0 x0) (zv b1 x1) n)
structure GA (A M : Int) (N : Nat) (k c : Nat) (C : List AV) : Prop where
  k0 : k ≤ N
  c0 : c = (pts (Pk A M) k).length
  C0 : C = cellsZ (pts (Pk A M) k)
structure GB (Ar : List Int) (i d : Nat) (E D : List AV) : Prop where
  i0 : i ≤ Ar.length
  d0 : d = (insAll (Ar.take i)).length
  E0 : E = cellsZ (Ar.take i)
  D0 : D = cellsZ (insAll (Ar.take i))
theorem rgaps_ok : SpOK Try.prog 104 spRGaps := by
  refine SpOK.ZZI fun b0 x0 b1 x1 n ⟨⟨h0, h0l⟩, ⟨h1, h1l⟩, hn1, hn2⟩ => ?_
  have hE := env (SOK.cons rzsign_ok (SOK.cons rv_ok (SOK.cons put_ok (SOK.cons rznorm_ok (SOK.cons rzsub_ok (SOK.cons rzcmp_ok (SOK.nil (P := Try.prog))))))))
  have bM := zv_abs_lt (b := b1) h1 (l := 400) (by omega)
  obtain ⟨A, eA⟩ : ∃ A, zv b0 x0 = A := ⟨_, rfl⟩
  obtain ⟨M, eM⟩ : ∃ M, zv b1 x1 = M := ⟨_, rfl⟩
  rw [eM] at bM
  rw [eA, eM]
  by_cases hb : badL M n
  · have eR : gRes A M n = .tup [.nul, .ns .i64 [], .raw (.int .i64 1)] := if_pos hb
    rw [eR]
    refine ACall.body hE Try.func104 Try.ntmps104 Try.results104 ?_
    by_cases c1 : M < 1
    · refine wk hE (And.intro eM (sign_lt1.2 c1)) ?_
      exact PostL.mk trivial rfl
    have d1 : ¬ M.sign < 1 := fun h => c1 (sign_lt1.1 h)
    have c2 : n < 1 := by unfold badL at hb; omega
    refine wk hE (And.intro eM (And.intro d1 c2)) ?_
    exact PostL.mk trivial rfl
  have hM : 0 < M := by unfold badL at hb; omega
  have hn : 1 ≤ n := by unfold badL at hb; omega
  have eR : gRes A M n = .tup [.sl 2 (gL A M n).length (cellsZ ((gL A M n).map (·.1))), .ns .i64 ((gL A M n).map (·.2)), .raw (.int .i64 0)] := if_neg hb
  rw [eR, ← gaps_same (by omega) hn]
  have lnM : ∀ z : Int, -M ≤ z → z ≤ M → lnP z := fun z z0 z1 => by
    have : z.natAbs < B64 ^ 400 := by omega
    obtain ⟨f1, _, f2⟩ := dgl this (by omega)
    exact ⟨f1, by omega⟩
  obtain ⟨N, eN⟩ : ∃ N, n.toNat = N := ⟨_, rfl⟩
  obtain ⟨oM1, oM2⟩ := lnM M (by omega) (by omega)
  have d1 : ¬ M.sign < 1 := fun h => by have := sign_lt1.1 h; omega
  have d2 : ¬ n < 1 := by omega
  have hz0 : zv false [] = 0 := rfl
  have lm0 : Lm [] := ⟨Lim.nil, by simp⟩
  obtain ⟨l, el⟩ : ∃ l, pts (Pk A M) N = l := ⟨_, rfl⟩
  obtain ⟨Ar, eAr⟩ : ∃ Ar, arcs M l = Ar := ⟨_, rfl⟩
  obtain ⟨Ls, eLs⟩ : ∃ Ls, insAll Ar = Ls := ⟨_, rfl⟩
  have hrl : rL A M n = Ls.map (fun x => (x, ((Ar.count x : Nat) : Int))) := by unfold rL; rw [eN, el, eAr, eLs]
  have ell : l.length ≤ 200 := by rw [← el]; have := pts_len (Pk A M) N; omega
  have eal : Ar.length = l.length := by rw [← eAr]; exact arcs_len _ _
  have esl : Ls.length ≤ 200 := by rw [← eLs]; have := insAll_len Ar; omega
  have rngl : ∀ z ∈ l, lnP z := fun z hz => by rw [← el] at hz; have := pts_rng hM z hz; exact lnM z (by omega) (by omega)
  have rngA : ∀ z ∈ Ar, lnP z := fun z hz => by rw [← eAr, ← el] at hz; have := arcs_rng hM z hz; exact lnM z (by omega) (by omega)
  have rngS : ∀ (i : Nat), ∀ z ∈ insAll (Ar.take i), lnP z := fun i z hz => rngA z (List.mem_of_mem_take (((insAll_spec (Ar.take i)).2 z).1 hz))
  have rngL : ∀ z ∈ Ls, lnP z := fun z hz => rngA z (by rw [← eLs] at hz; exact ((insAll_spec Ar).2 z).1 hz)
  refine ACall.body hE Try.func104 Try.ntmps104 Try.results104 ?_
  refine wkR hE trivial ?_
  refine AWp.seqJ (ι := Unit) (fun _ => ⟨[(2, .raw (.int .i64 n)), (3, .ptr 3 0), (4, .ptr 4 0)], [(3, ⟨true, .c [.raw (.bool b0), .ns .u64 x0]⟩), (4, ⟨true, .c [.raw (.bool b1), .ns .u64 x1]⟩)]⟩) ?_ (fun _ => ?_)
  · refine wk hE (And.intro eM (And.intro d1 d2)) ?_
    exact ⟨(), Le.mk trivial⟩
  refine wkR hE trivial ?_
  refine AWp.give 9 trivial ?_
  refine AWp.seqJ (ι := {p : Nat × List AV // p.1 = l.length ∧ p.2 = cellsZ l}) (fun p => ⟨[(4, .ptr 4 0), (9, .sl 2 p.1.1 p.1.2)], [(4, ⟨true, .c [.raw (.bool b1), .ns .u64 x1]⟩)]⟩) ?_ ?_
  · refine wk hE trivial ?_
    refine AWp.loop (ι := {p : Nat × Nat × List AV // GA A M N p.1 p.2.1 p.2.2}) (fun p => ⟨[(2, .raw (.int .i64 n)), (3, .ptr 3 0), (4, .ptr 4 0), (9, .sl 2 p.1.2.1 p.1.2.2), (10, .raw (.int .i64 (p.1.1 : Nat)))], [(3, ⟨true, .c [.raw (.bool b0), .ns .u64 x0]⟩), (4, ⟨true, .c [.raw (.bool b1), .ns .u64 x1]⟩)]⟩)
      (fun p => N - p.1.1) ⟨(0, 0, []), ⟨Nat.zero_le _, rfl, rfl⟩⟩ (Le.mk trivial) ?_
    rintro ⟨⟨k, c, C⟩, hI⟩
    dsimp only at hI ⊢
    by_cases hk : (k : Int) < n
    · have hV : Vk A 0 M k = Pk A M k := by unfold Vk Pk; rw [Int.add_zero]
      have rV := mod_rng (A * k) hM
      obtain ⟨V, eV⟩ : ∃ V, Pk A M k = V := ⟨_, rfl⟩
      have rV : 0 ≤ V ∧ V < M := by rw [← eV]; exact rV
      rw [eV] at hV
      have oV := lnM V (by omega) (by omega)
      have hlen := pts_len (Pk A M) k
      have hpf := put_facts (V := V) hI.c0 hI.C0 (by omega) (fun z hz => by have := pts_rng hM z hz; exact lnM z (by omega) (by omega)) oV rfl rfl
      rw [← eV, ← pts_succ] at hpf
      obtain ⟨c', ec⟩ : ∃ c', (pts (Pk A M) (k + 1)).length = c' := ⟨_, rfl⟩
      obtain ⟨C', eC⟩ : ∃ C', cellsZ (pts (Pk A M) (k + 1)) = C' := ⟨_, rfl⟩
      rw [ec, eC, eV] at hpf
      obtain ⟨hp1, hp2⟩ := hpf
      obtain ⟨oV1, oV2⟩ := oV
      refine wk hE (And.intro hk (And.intro eA (And.intro eM (And.intro hz0 (And.intro hV (And.intro hp1 hp2)))))) ?_
      exact ⟨⟨(k + 1, c', C'), ⟨by omega, ec.symm, eC.symm⟩⟩, Le.mk trivial, by dsimp only; omega⟩
    · have hkN : k = N := by have := hI.k0; omega
      have i1 := hI.c0
      have i2 := hI.C0
      rw [hkN, el] at i1 i2
      refine wk hE hk ?_
      exact ⟨⟨(c, C), i1, i2⟩, Le.mk trivial⟩
  rintro ⟨⟨c, C⟩, hc, hC⟩
  dsimp only at hc hC ⊢
  have hM' : zv b1 x1 = M := eM
  refine wkR hE trivial ?_
  refine wkR hE trivial ?_
  refine AWp.give 12 trivial ?_
  refine AWp.mv 11 40 69 trivial ?_
  refine AWp.seqJ (ι := {p : Nat × List AV × Nat × List AV // p.1 = Ar.length ∧ p.2.1 = cellsZ Ar ∧ p.2.2.1 = Ls.length ∧ p.2.2.2 = cellsZ Ls}) (fun p => ⟨[(11, .os 69 2 0 p.1.1), (12, .sl 2 p.1.2.2.1 p.1.2.2.2)], [(69, ⟨true, .c p.1.2.1⟩)]⟩) ?_ ?_
  · refine wk hE trivial ?_
    refine AWp.loop (ι := {p : Nat × Nat × List AV × List AV // GB Ar p.1 p.2.1 p.2.2.1 p.2.2.2}) (fun p => ⟨[(4, .ptr 4 0), (9, .sl 2 c C), (11, .os 69 2 0 p.1.1), (12, .sl 2 p.1.2.1 p.1.2.2.2), (13, .raw (.int .i64 (p.1.1 : Nat)))], [(4, ⟨true, .c [.raw (.bool b1), .ns .u64 x1]⟩), (69, ⟨true, .c p.1.2.2.1⟩)]⟩)
      (fun p => Ar.length - p.1.1) ⟨(0, 0, [], []), ⟨Nat.zero_le _, rfl, rfl, rfl⟩⟩ (Le.mk trivial) ?_
    rintro ⟨⟨i, d, E, D⟩, hI⟩
    dsimp only at hI ⊢
    obtain ⟨i0, hd, hEe, hD⟩ := hI
    by_cases hi : (i : Int) < c
    · have hil : i < l.length := by omega
      have hiA : i < Ar.length := by omega
      have hat := cz_at hil
      rw [← hC] at hat
      have oli := rngl _ (mem_getD hil)
      have hX := arcs_getD (m := M) hil
      rw [eAr] at hX
      have oX := rngA _ (mem_getD hiA)
      have htk := take_succ_getD hiA
      obtain ⟨li, eli⟩ : ∃ li, l.getD i 0 = li := ⟨_, rfl⟩
      obtain ⟨X, eX⟩ : ∃ X, Ar.getD i 0 = X := ⟨_, rfl⟩
      rw [eli] at hat oli hX
      rw [eX] at hX oX htk
      have hsn : insAll (Ar.take (i + 1)) = ins (insAll (Ar.take i)) X := by rw [htk, insAll_snoc]
      have hpl := insAll_len (Ar.take i)
      rw [List.length_take] at hpl
      have hpf := put_facts (V := X) hd hD (by omega) (rngS i) oX rfl rfl
      rw [← hsn] at hpf
      obtain ⟨d', ed⟩ : ∃ d', (insAll (Ar.take (i + 1))).length = d' := ⟨_, rfl⟩
      obtain ⟨D', eD⟩ : ∃ D', cellsZ (insAll (Ar.take (i + 1))) = D' := ⟨_, rfl⟩
      rw [ed, eD] at hpf
      obtain ⟨hp1, hp2⟩ := hpf
      have hEl : E.length = i * 2 := by rw [hEe, cz_len, List.length_take]; congr 1; omega
      have hEn : E ++ [AV.raw (.bool (decide (X < 0))), AV.ns .u64 (dg X.natAbs)] = cellsZ (Ar.take (i + 1)) := by rw [htk, cz_app, hEe]; rfl
      have hnx : GB Ar (i + 1) d' (E ++ [AV.raw (.bool (decide (X < 0))), AV.ns .u64 (dg X.natAbs)]) D' := ⟨hiA, ed.symm, hEn, eD.symm⟩
      have hi200 : i ≤ 200 := by omega
      obtain ⟨ol1, ol2⟩ := oli
      obtain ⟨oX1, oX2⟩ := oX
      have hmu : Ar.length - (i + 1) < Ar.length - i := by omega
      by_cases h2 : (i : Int) + 1 < c
      · have hil2 : i + 1 < l.length := by omega
        have hat2 := cz_at hil2
        rw [← hC] at hat2
        have oe := rngl _ (mem_getD hil2)
        rw [if_pos hil2] at hX
        obtain ⟨e, ee⟩ : ∃ e, l.getD (i + 1) 0 = e := ⟨_, rfl⟩
        rw [ee] at hat2 oe hX
        obtain ⟨oe1, oe2⟩ := oe
        have hX' : e - li = X := hX.symm
        refine wk hE (And.intro hi (And.intro h2 (And.intro eM (And.intro hat (And.intro hat2 (And.intro hX' (And.intro hEl (And.intro hp1 hp2)))))))) ?_
        exact ⟨⟨(i + 1, d', _, D'), hnx⟩, Le.mk trivial, hmu⟩
      · have hil2 : ¬ i + 1 < l.length := by omega
        rw [if_neg hil2] at hX
        have hX' : M - li = X := hX.symm
        refine wk hE (And.intro hi (And.intro h2 (And.intro eM (And.intro hat (And.intro hX' (And.intro hEl (And.intro hp1 hp2))))))) ?_
        exact ⟨⟨(i + 1, d', _, D'), hnx⟩, Le.mk trivial, hmu⟩
    · have hiA : i = Ar.length := by omega
      rw [hiA, List.take_length] at hEe
      rw [hiA, List.take_length, eLs] at hd hD
      refine wk hE hi ?_
      exact ⟨⟨(i, E, d, D), hiA, hEe, hd, hD⟩, Le.mk trivial⟩
  rintro ⟨⟨na, E, d, D⟩, hna, hEe, hd, hD⟩
  dsimp only at hna hEe hd hD ⊢
  refine wkR hE trivial ?_
  refine AWp.mv 16 73 101 trivial ?_
  change AWp _ _ _ (.seq (.seq _ _) _) _ _
  refine wk hE trivial ?_
  refine AWp.loop (ι := {i : Nat // i ≤ Ls.length}) (fun i => ⟨[(11, .os 69 2 0 na), (12, .sl 2 d D), (16, .os 101 1 0 i.1), (17, .raw (.int .i64 (i.1 : Nat)))], [(69, ⟨true, .c E⟩), (101, ⟨true, .n .i64 ((Ls.take i.1).map fun x => ((Ar.count x : Nat) : Int))⟩)]⟩)
    (fun i => Ls.length - i.1) ⟨0, Nat.zero_le _⟩ (Le.mk trivial) ?_
  rintro ⟨i, hi⟩
  dsimp only
  have hi200 : i ≤ 200 := by omega
  by_cases hid : (i : Int) < d
  · have hiL : i < Ls.length := by omega
    have hat := cz_at hiL
    rw [← hD] at hat
    have ox := rngL _ (mem_getD hiL)
    have htk := take_succ_getD hiL
    obtain ⟨x, ex⟩ : ∃ x, Ls.getD i 0 = x := ⟨_, rfl⟩
    rw [ex] at hat ox htk
    obtain ⟨ox1, ox2⟩ := ox
    obtain ⟨m, em⟩ : ∃ m, (Ls.take i).map (fun x => ((Ar.count x : Nat) : Int)) = m := ⟨_, rfl⟩
    have hml : m.length = i := by rw [← em, List.length_map, List.length_take]; omega
    have hmn : m ++ [((Ar.count x : Nat) : Int)] = (Ls.take (i + 1)).map (fun x => ((Ar.count x : Nat) : Int)) := by rw [htk, List.map_append, em]; rfl
    refine wk hE (And.intro hid em) ?_
    refine AWp.loop (ι := {k : Nat // k ≤ Ar.length}) (fun k => ⟨[(11, .os 69 2 0 na), (12, .sl 2 d D), (16, .os 101 1 0 i), (17, .raw (.int .i64 (i : Nat))), (18, .raw (.int .i64 ((((Ar.take k.1).count x : Nat)) : Int))), (19, .raw (.int .i64 (k.1 : Nat)))], [(69, ⟨true, .c E⟩), (101, ⟨true, .n .i64 m⟩)]⟩)
      (fun k => Ar.length - k.1) ⟨0, Nat.zero_le _⟩ (Le.mk (show List.count x ([] : List Int) = 0 from List.count_nil)) ?_
    rintro ⟨k, hk⟩
    dsimp only
    obtain ⟨q, eq⟩ : ∃ q, (Ar.take k).count x = q := ⟨_, rfl⟩
    have hq : q ≤ 200 := by rw [← eq]; have := List.count_le_length (a := x) (l := Ar.take k); rw [List.length_take] at this; omega
    have hk200 : k ≤ 200 := by omega
    rw [eq]
    by_cases hka : (k : Int) < na
    · have hkA : k < Ar.length := by omega
      have hEl2 : k * 2 + 2 ≤ E.length := by rw [hEe, cz_len]; omega
      have hat2 := cz_at hkA
      rw [← hEe] at hat2
      have oy := rngA _ (mem_getD hkA)
      have htk2 := take_succ_getD hkA
      obtain ⟨y, ey⟩ : ∃ y, Ar.getD k 0 = y := ⟨_, rfl⟩
      rw [ey] at hat2 oy htk2
      obtain ⟨oy1, oy2⟩ := oy
      have hcn : (Ar.take (k + 1)).count x = q + (if y = x then 1 else 0) := by
        rw [htk2, List.count_append, eq, List.count_singleton]
        by_cases h : y = x <;> simp [h]
      by_cases hyx : y = x
      · rw [if_pos hyx] at hcn
        have hc0 : (cmpZ y x == 0) = true := by rw [hyx]; unfold cmpZ; simp
        refine wk hE (And.intro hka (And.intro hat (And.intro hat2 hc0))) ?_
        exact ⟨⟨k + 1, hkA⟩, Le.mk hcn, by dsimp only; omega⟩
      · rw [if_neg hyx] at hcn
        have hc0 : (cmpZ y x == 0) = false := by
          rw [beq_eq_false_iff_ne]; unfold cmpZ; split; decide; split; decide; omega
        refine wk hE (And.intro hka (And.intro hat (And.intro hat2 hc0))) ?_
        exact ⟨⟨k + 1, hkA⟩, Le.mk hcn, by dsimp only; omega⟩
    · have hkA : k = Ar.length := by omega
      rw [hkA, List.take_length] at eq
      rw [eq] at hmn
      refine wk hE (And.intro hka hml) ?_
      exact ⟨⟨i + 1, hiL⟩, Le.mk hmn, by dsimp only; omega⟩
  · have hiL : i = Ls.length := by omega
    have e1 : (Ls.map (fun x => (x, ((Ar.count x : Nat) : Int)))).map (·.1) = Ls := by rw [List.map_map]; exact List.map_id Ls
    have e2 : (Ls.map (fun x => (x, ((Ar.count x : Nat) : Int)))).map (·.2) = Ls.map (fun x => ((Ar.count x : Nat) : Int)) := by rw [List.map_map]; rfl
    have e3 : (Ls.map (fun x => (x, ((Ar.count x : Nat) : Int)))).length = Ls.length := List.length_map _
    have hlm : i ≤ (Ls.map (fun x => ((Ar.count x : Nat) : Int))).length := by rw [List.length_map]; omega
    refine wk hE hid ?_
    refine PostL.mk trivial ?_
    rw [hrl, e1, e2, e3, hiL, List.take_of_length_le (by rw [List.length_map]; exact Nat.le_refl _), hd, hD]
end Go.Hl

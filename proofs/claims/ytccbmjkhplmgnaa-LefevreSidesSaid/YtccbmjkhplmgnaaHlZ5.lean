/- Decimal text: plain. -/
import Derived.Test.YtccbmjkhplmgnaaHlH
import Derived.Test.YtccbmjkhplmgnaaHlAv29
set_option linter.unusedVariables false
set_option linter.unusedSimpArgs false
namespace Go.Hl
def bs (E : List Int) : List Int := E.map fun d => 48 + d
def dx (n : Nat) : List UInt8 := (digs 10 n).reverse.map fun d => UInt8.ofNat (48 + d.toNat)
def textL (z : Int) : List UInt8 := if z = 0 then [48] else (if z < 0 then [45] else []) ++ dx z.natAbs
theorem bs_app (E : List Int) (d : Int) : bs (E ++ [d]) = bs E ++ [48 + d] := by simp [bs]
theorem bs_length (E : List Int) : (bs E).length = E.length := by simp [bs]
theorem lim10_digs (n : Nat) : Lim 10 (digs 10 n) := lim_digs (by decide) n
theorem bi_dx (n : Nat) : bi (dx n) = (bs (digs 10 n)).reverse := by
  unfold bi dx bs
  rw [List.map_map, ← List.map_reverse]
  refine List.map_congr_left fun d hd => ?_
  have h := lim10_digs n d (by simpa using hd)
  obtain ⟨k, rfl⟩ := Int.eq_ofNat_of_zero_le h.1
  have hk : k < 10 := by omega
  simp only [Function.comp, Int.toNat_natCast, UInt8.toNat_ofNat']
  omega
theorem dx_ne {n : Nat} (h : n ≠ 0) : dx n ≠ [] := by
  unfold dx
  simp only [ne_eq, List.map_eq_nil_iff, List.reverse_eq_nil_iff]
  exact fun e => h ((digs_eq_nil (by decide)).1 e)
theorem textL_ne (z : Int) : textL z ≠ [] := by
  unfold textL
  split
  · simp
  · rename_i h
    exact fun e => dx_ne (n := z.natAbs) (by omega) (List.append_eq_nil_iff.1 e).2
theorem bi_text_pos {n : Nat} (h : n ≠ 0) : bi (textL n) = (bs (digs 10 n)).reverse := by
  unfold textL
  rw [if_neg (by omega), if_neg (by omega), List.nil_append, Int.natAbs_natCast, bi_dx]
theorem bi_text_neg {n : Nat} (h : n ≠ 0) : bi (textL (-(n : Int))) = (bs (digs 10 n) ++ [45]).reverse := by
  unfold textL
  rw [if_neg (by omega), if_pos (by omega), Int.natAbs_neg, Int.natAbs_natCast, List.reverse_append]
  show bi ([45] ++ dx n) = [45] ++ _
  rw [← bi_dx]
  rfl
structure TxtI (N : Nat) (E : List Int) (q x i : Nat) : Prop where
  hE : Lim 10 E
  he : nv 10 E + 10 ^ E.length * (x + 10 ^ (18 - i) * q) = N
  hi : i ≤ 18
  hx : x < 10 ^ (18 - i)
  ht : q = 0 → x = 0 → Top E
theorem TxtI.start {N m : Nat} {E : List Int} (hE : Lim 10 E) (he : nv 10 E + 10 ^ E.length * m = N) (hm : 0 < m) : TxtI N E (m / 1000000000000000000) (m % 1000000000000000000) 0 := by
  refine ⟨hE, ?_, by omega, ?_, fun h1 h2 => ?_⟩
  · rw [← he]
    have := Nat.div_add_mod m 1000000000000000000
    have e : (10 : Nat) ^ (18 - 0) = 1000000000000000000 := by decide
    rw [e]
    congr 2; omega
  · have e : (10 : Nat) ^ (18 - 0) = 1000000000000000000 := by decide
    rw [e]; exact Nat.mod_lt _ (by decide)
  · have := Nat.div_add_mod m 1000000000000000000
    rw [h1, h2] at this
    omega
theorem nv10_app (E : List Int) (d : Nat) : nv 10 (E ++ [(d : Int)]) = nv 10 E + 10 ^ E.length * d := by
  rw [nv_append]; simp [nv]
theorem TxtI.step {N q x i : Nat} {E : List Int} (h : TxtI N E q x i) (hi : i < 18) (hgo : 0 < q ∨ 0 < x) : TxtI N (E ++ [((x % 10 : Nat) : Int)]) q (x / 10) (i + 1) := by
  have hx := h.hx
  have e : (10 : Nat) ^ (18 - i) = 10 * 10 ^ (18 - (i + 1)) := by rw [← Nat.pow_succ']; congr 1; omega
  refine ⟨h.hE.append (Lim.cons (by omega) Lim.nil), ?_, by omega, ?_, fun h1 h2 => ?_⟩
  · rw [← h.he, nv10_app, List.length_append, List.length_singleton, Nat.pow_succ, e]
    have hd := Nat.div_add_mod x 10
    generalize 10 ^ (18 - (i + 1)) = p
    generalize 10 ^ E.length = t
    generalize x / 10 = y at *
    generalize x % 10 = c at *
    subst hd
    grind
  · rw [e] at hx
    exact Nat.div_lt_of_lt_mul hx
  · refine .inr ?_
    have : ((x % 10 : Nat) : Int) ≠ 0 := by omega
    simpa [List.getD_eq_getElem?_getD] using this
theorem TxtI.len {N q x i : Nat} {E : List Int} (h : TxtI N E q x i) (hgo : 0 < q ∨ 0 < x) : 10 ^ E.length ≤ N := by
  have h1 : 0 < x + 10 ^ (18 - i) * q := by
    rcases hgo with h | h
    · have := Nat.mul_pos (Nat.pow_pos (n := 18 - i) (show 0 < 10 by decide)) h; omega
    · omega
  rw [← h.he]
  have := Nat.mul_le_mul_left (10 ^ E.length) h1
  omega
theorem TxtI.done {N q x i : Nat} {E : List Int} (h : TxtI N E q x i) (hd : ¬ (i < 18 ∧ (0 < q ∨ 0 < x))) : nv 10 E + 10 ^ E.length * q = N ∧ (q = 0 → E = digs 10 N) := by
  have hi := h.hi
  have hx := h.hx
  have he := h.he
  have hx0 : x = 0 := by
    rcases Nat.lt_or_ge i 18 with h1 | h1
    · omega
    · have : i = 18 := by omega
      subst this
      simpa using hx
  subst hx0
  rcases Nat.eq_zero_or_pos q with h0 | h0
  · subst h0
    refine ⟨by simpa using he, fun _ => ?_⟩
    have hn : nv 10 E = N := by simpa using he
    rw [← hn]
    exact eq_digs (by decide) h.hE (h.ht rfl rfl)
  · have : i = 18 := by omega
    subst this
    exact ⟨by simpa using he, fun e => by omega⟩
end Go.Hl

/- nat.trim, slices.Clone, nat.Norm math/bits: Add64, Sub64, Mul64, Len64, LeadingZeros64 nat.Add, nat.less, nat.Cmp, nat.Sub nat.Cmp, nat.Sub, nat.BitLen, nat.Bit nat.BitLen, nat.Bit, nat.Mul nat.Mul -/
import Derived.Laws.Externs
import Derived.Test.YtccbmjkhplmgnaaGreatHlT
set_option linter.unusedVariables false
set_option linter.unusedSimpArgs false
namespace Go.Hl
open Go Go.RowKit Go.Proofs
set_option maxHeartbeats 2000000
def Lm (xs : List Int) : Prop := Lim B64 xs ∧ xs.length < 1099511627776
@[push_cast] def spTrim : Sp := spN 0 (fun xs => Lm xs) (fun xs => .ns .u64 (dg (nb xs)))
theorem trim_ok : SpOK Tryz.prog 74 spTrim := by
  refine SpOK.N fun xs hp => ?_
  have hE := env (SOK.nil (P := Tryz.prog))
  refine ACall.body hE Tryz.func74 Tryz.ntmps74 Tryz.results74 ?_
  refine wk hE trivial ?_
  refine AWp.loop (ι := {ys : List Int // Lm ys ∧ nb ys = nb xs}) (fun ys => ⟨[(0, .ns .u64 ys.1)], []⟩) (fun ys => ys.1.length) ⟨xs, hp, rfl⟩ (Le.mk trivial) (fun i => ?_)
  obtain ⟨ys, hy, hv⟩ := i
  have hlen := hy.2
  dsimp only
  by_cases h : 0 < ys.length ∧ ys.getD (ys.length - 1) 0 = 0
  · have e1 : (0 : Int) < ys.length := by omega
    have h0 := h.2
    have h1 := h.1
    refine wk hE (And.intro e1 h0) ?_
    refine ⟨⟨ys.take (ys.length - 1), ⟨hy.1.take _, ?_⟩, ?_⟩, Le.mk trivial, ?_⟩
    · simp; omega
    · rw [← hv]; exact trim_last ys h1 h0
    · simp; omega
  · have hT : Top ys := by
      by_cases h1 : ys = []
      · exact .inl h1
      · exact .inr (fun e => h ⟨List.length_pos_iff.2 h1, e⟩)
    have hr : ys = dg (nb xs) := by rw [← hv]; exact eq_digs (by decide) hy.1 hT
    by_cases h1 : 0 < ys.length
    · have e1 : (0 : Int) < ys.length := by omega
      have h0 : (ys.getD (ys.length - 1) 0 == 0) = false := by
        rw [beq_eq_false_iff_ne]; exact fun e => h ⟨h1, e⟩
      refine wk hE (And.intro e1 h0) ?_
      refine PostL.mk trivial ?_
      rw [← hr]
    · have e1 : ¬ (0 : Int) < ys.length := by omega
      refine wk hE e1 ?_
      refine PostL.mk trivial ?_
      rw [← hr]
theorem AWp.regNil' {P : Program} {T : Tab} {S : FuncId → Option Sp} {n : Nat} {Q : Exit → St → Prop} {σ : St} (hE : Env P T S) {id : Nat} {l : List Oper} {d : Nat} {t t' ty e : TypeId} {x : Operand} {pos : String} {af : Array Edge}
    (hsl : P.underlying t = some (.slice e)) (hd : dstsB (l ++ [eqNilO d t x t' ty pos af]).toArray n = true)
    (h : opsA T S (l ++ [eqNilO d t x t' ty pos af]).toArray l (fun σ1 => ∃ k xs, ev σ1.get x = .ns k xs ∧ ∀ b, (xs ≠ [] → b = false) → Q .normal (σ1.put (some d) (.raw (.bool b)))) σ) :
    AWp P T n (.region id (l ++ [eqNilO d t x t' ty pos af]).toArray false) Q σ :=
  AWp.regNil hE.hT hE.hS hsl _ hd rfl (by rw [← opsA_G]; exact h)
@[push_cast] def spClone : Sp := spN 1 (fun xs => xs.length < 1099511627776) (fun xs => .ns .u64 xs)
theorem clone_ok : SpOK Tryz.prog 80 spClone := by
  refine SpOK.Nf fun xs hp => ?_
  have hS := SOK.nil (P := Tryz.prog)
  have hE := env hS
  refine FCall.body hE Tryz.func80 Tryz.ntmps80 Tryz.results80 ?_
  refine wkR hE trivial ?_
  refine AWp.seq (AWp.seq ?_)
  refine AWp.regNil' (l := [_]) hE Tryz.underlying22 (by kernel_rfl) ?_
  refine wk hE trivial ?_
  refine ⟨_, _, by rfl, fun b hb => ?_⟩
  cases b with
  | true =>
    have hx : xs = [] := Classical.byContradiction fun h => (by cases hb h)
    subst hx
    refine wk hE trivial ?_
    exact ⟨.inr rfl, .inr ⟨rfl, rfl⟩⟩
  | false =>
    refine wk hE trivial ?_
    exact PostF.mk trivial rfl
theorem dg_len {xs : List Int} (h : Lm xs) : (dg (nb xs)).length < 1099511627776 :=
  Nat.lt_of_le_of_lt ((digs_length_le (by decide) _ _).2 (nv_lt h.1)) h.2
@[push_cast] def spNorm : Sp := spN 1 (fun xs => Lm xs) (fun xs => .ns .u64 (dg (nb xs)))
theorem norm_ok : SpOK Tryz.prog 57 spNorm := by
  refine SpOK.Nf fun xs hp => ?_
  have hE := env (SOK.cons trim_ok (SOK.cons clone_ok (SOK.nil (P := Tryz.prog))))
  have hl := dg_len hp
  refine FCall.body hE Tryz.func57 Tryz.ntmps57 Tryz.results57 ?_
  refine wk hE trivial ?_
  exact PostF.mk trivial rfl
end Go.Hl

namespace Go.Hl
open Go Go.RowKit Go.Proofs
set_option maxHeartbeats 2000000
theorem ri_pair {w : World} {X : Nat → Prop} (x y : Value) : RI w X (.tup [.raw x, .raw y]) (.tuple #[x, y]) :=
  RI.tup [.raw x, .raw y] #[x, y] (fun j => if j = 0 then x else y) rfl
    (fun j c hj => by
      match j with
      | 0 => rfl
      | 1 => rfl
      | j + 2 => simp at hj)
    (fun j c hj => by
      match j with
      | 0 => simp at hj; subst hj; exact RI.raw _
      | 1 => simp at hj; subst hj; exact RI.raw _
      | j + 2 => simp at hj)
theorem args3 {w : World} {X : Nat → Prop} {vs : Array Value} {a b c : Value} (hl : vs.size = 3)
    (hr : ∀ (j : Nat) (d : AV), [AV.raw a, .raw b, .raw c][j]? = some d → ∃ v : Value, vs[j]? = some v ∧ RI w X d v) : vs = #[a, b, c] := by
  obtain ⟨x, hx, rx⟩ := hr 0 _ rfl
  obtain ⟨y, hy, ry⟩ := hr 1 _ rfl
  obtain ⟨z, hz, rz⟩ := hr 2 _ rfl
  rw [RI.raw_inv rx] at hx; rw [RI.raw_inv ry] at hy; rw [RI.raw_inv rz] at hz
  apply Array.ext
  · simpa using hl
  · intro i h1 h2
    have h3 : i < 3 := by omega
    match i, h3 with
    | 0, _ => rw [Array.getElem?_eq_getElem (by omega)] at hx; simpa using hx
    | 1, _ => rw [Array.getElem?_eq_getElem (by omega)] at hy; simpa using hy
    | 2, _ => rw [Array.getElem?_eq_getElem (by omega)] at hz; simpa using hz
def U6 (x : Int) : Prop := 0 ≤ x ∧ x < 18446744073709551616
@[push_cast] def spAdd64 : Sp := spUUU 0 (fun x y c => (0 ≤ x ∧ x < 18446744073709551616) ∧ (0 ≤ y ∧ y < 18446744073709551616) ∧ 0 ≤ c ∧ c ≤ 1)
  (fun x y c => .tup [.raw (.int .u64 ((x + y + c) % 18446744073709551616)), .raw (.int .u64 ((x + y + c) / 18446744073709551616))])
theorem add64_ok : SpOK Tryz.prog 82 spAdd64 := by
  refine SpOK.UUU fun x y c hp => ?_
  intro w X vs hX hl hr
  have hv := args3 hl hr
  subst hv
  refine .inl ⟨_, ?_, ri_pair _ _⟩
  rw [run_callFunc_extern Tryz.func82 (by decide) rfl (by kernel_rfl) (e := add64Entry) (by kernel_rfl), run_add64 x y c hp.1.1 hp.2.1.1 hp.2.2.1 hp.2.2.2]
  rfl
def sub64Entry : Array Value → Sem Value := fun args => do
  let (x, y, b) ← Extern.MathBitsCarry.three "Sub64" args
  pure (Extern.MathBitsCarry.pair ((x + Extern.MathBitsCarry.m64 - y - b) % Extern.MathBitsCarry.m64) (if x < y + b then 1 else 0))
theorem run_sub64 {P : Program} (x y c : Int) (hx : 0 ≤ x) (hy : 0 ≤ y) (hy2 : y < 18446744073709551616) (hc0 : 0 ≤ c) (hc : c ≤ 1) (w : World) :
    (sub64Entry #[.int .u64 x, .int .u64 y, .int .u64 c]).run P w =
      .ok (.tuple #[.int .u64 ((x - y - c) % 18446744073709551616), .int .u64 (if x < y + c then 1 else 0)]) w := by
  have key : ∀ k : Nat, k ≤ 1 → (sub64Entry #[.int .u64 x, .int .u64 y, .int .u64 (k : Int)]).run P w =
      .ok (Extern.MathBitsCarry.pair ((x.toNat + Extern.MathBitsCarry.m64 - y.toNat - k) % Extern.MathBitsCarry.m64) (if x.toNat < y.toNat + k then 1 else 0)) w := by
    intro k hk
    have : k = 0 ∨ k = 1 := by omega
    rcases this with rfl | rfl <;> rfl
  obtain ⟨k, rfl⟩ := Int.eq_ofNat_of_zero_le hc0
  rw [key k (by omega)]
  obtain ⟨X, rfl⟩ := Int.eq_ofNat_of_zero_le hx
  obtain ⟨Y, rfl⟩ := Int.eq_ofNat_of_zero_le hy
  simp only [Extern.MathBitsCarry.pair, Extern.MathBitsCarry.m64, Int.toNat_natCast]
  have e1 : (Int.ofNat ((X + 2 ^ 64 - Y - k) % 2 ^ 64)) = ((X : Int) - Y - k) % 18446744073709551616 := by
    simp only [Int.ofNat_eq_natCast]
    omega
  have e2 : (Int.ofNat (if X < Y + k then 1 else 0)) = (if (X : Int) < Y + k then 1 else 0 : Int) := by
    by_cases h : X < Y + k
    · rw [if_pos h, if_pos (by omega)]; rfl
    · rw [if_neg h, if_neg (by omega)]; rfl
  rw [e1, e2]
@[push_cast] def spSub64 : Sp := spUUU 0 (fun x y c => (0 ≤ x ∧ x < 18446744073709551616) ∧ (0 ≤ y ∧ y < 18446744073709551616) ∧ 0 ≤ c ∧ c ≤ 1)
  (fun x y c => .tup [.raw (.int .u64 ((x - y - c) % 18446744073709551616)), .raw (.int .u64 (if x < y + c then 1 else 0))])
theorem sub64_ok : SpOK Tryz.prog 100 spSub64 := by
  refine SpOK.UUU fun x y c hp => ?_
  intro w X vs hX hl hr
  have hv := args3 hl hr
  subst hv
  refine .inl ⟨_, ?_, ri_pair _ _⟩
  rw [run_callFunc_extern Tryz.func100 (by decide) rfl (by kernel_rfl) (e := sub64Entry) (by kernel_rfl), run_sub64 x y c hp.1.1 hp.2.1.1 hp.2.1.2 hp.2.2.1 hp.2.2.2]
  rfl
@[push_cast] def spMul64 : Sp := spUU 0 (fun x y => (0 ≤ x ∧ x < 18446744073709551616) ∧ (0 ≤ y ∧ y < 18446744073709551616))
  (fun x y => .tup [.raw (.int .u64 (x * y / 18446744073709551616)), .raw (.int .u64 (x * y % 18446744073709551616))])
theorem mul64_ring {x y a b c d : Int} (ex : 4294967296 * a + b = x) (ey : 4294967296 * c + d = y) : x * y = 18446744073709551616 * (a * c) + 4294967296 * (a * d) + 4294967296 * (b * c) + b * d := by grind
theorem mul64_ok : SpOK Tryz.prog 97 spMul64 := by
  refine SpOK.UU fun x y ⟨hx, hy⟩ => ?_
  have hE := env (SOK.nil (P := Tryz.prog))
  have hx0 : 0 ≤ x % 4294967296 ∧ x % 4294967296 ≤ 4294967295 := by omega
  have hx1 : 0 ≤ x / 4294967296 ∧ x / 4294967296 ≤ 4294967295 := by omega
  have hy0 : 0 ≤ y % 4294967296 ∧ y % 4294967296 ≤ 4294967295 := by omega
  have hy1 : 0 ≤ y / 4294967296 ∧ y / 4294967296 ≤ 4294967295 := by omega
  have h00 := mul_bd hx0.1 hy0.1 hx0.2 hy0.2
  have h10 := mul_bd hx1.1 hy0.1 hx1.2 hy0.2
  have h01 := mul_bd hx0.1 hy1.1 hx0.2 hy1.2
  have h11 := mul_bd hx1.1 hy1.1 hx1.2 hy1.2
  refine ACall.body hE Tryz.func97 Tryz.ntmps97 Tryz.results97 ?_
  refine wk hE trivial ?_
  refine PostL.mk trivial ?_
  have ex := Int.mul_ediv_add_emod x 4294967296
  have ey := Int.mul_ediv_add_emod y 4294967296
  generalize x / 4294967296 = a at *
  generalize x % 4294967296 = b at *
  generalize y / 4294967296 = c at *
  generalize y % 4294967296 = d at *
  have e := mul64_ring ex ey
  rw [IntKind.wrap_u64]
  congr 3
  · congr 2
    generalize x * y = p at *
    generalize a * c = p1 at *
    generalize a * d = p2 at *
    generalize b * c = p3 at *
    generalize b * d = p4 at *
    omega
  
@[push_cast] def spLen64 : Sp := spU 0 (fun x => 0 ≤ x ∧ x < 18446744073709551616) (fun x => .raw (.int .i64 (blen x.toNat : Nat)))
theorem tab8_all : ∀ i : Fin 256, (([0, 1] ++ List.replicate 2 2 ++ List.replicate 4 3 ++ List.replicate 8 4 ++ List.replicate 16 5 ++ List.replicate 32 6 ++ List.replicate 64 7 ++ List.replicate 128 8 : List UInt8).getD i.1 0).toNat = blen i.1 := by decide +kernel
theorem arr_getD (l : List UInt8) (y : Nat) : l.toArray.getD y 0 = l.getD y 0 := by
  simp [Array.getD_eq_getD_getElem?]
theorem tab8 (y : Nat) (hy : y < 256) {l : List UInt8} (hl : l = [0, 1] ++ List.replicate 2 2 ++ List.replicate 4 3 ++ List.replicate 8 4 ++ List.replicate 16 5 ++ List.replicate 32 6 ++ List.replicate 64 7 ++ List.replicate 128 8 := by decide +kernel) :
    (l.toArray.getD y 0).toNat = blen y := by
  rw [arr_getD, hl]
  exact tab8_all ⟨y, hy⟩
set_option maxRecDepth 20000 in
theorem len64_ok : SpOK Tryz.prog 75 spLen64 := by
  refine SpOK.U fun x hx => ?_
  have hE := env (SOK.nil (P := Tryz.prog))
  obtain ⟨x, rfl⟩ := Int.eq_ofNat_of_zero_le hx.1
  refine ACall.body hE Tryz.func75 Tryz.ntmps75 Tryz.results75 ?_
  rw [Int.toNat_natCast]
  refine wk hE trivial ?_
  refine AWp.join (ι := {p : Nat × Nat // p.1 < 4294967296 ∧ p.2 + blen p.1 = blen x ∧ p.2 ≤ 32}) (fun p => ⟨[(0, .raw (.int .u64 (p.1.1 : Nat))), (2, .raw (.int .i64 (p.1.2 : Nat)))], []⟩) ?_ ?_
  · refine AWp.test trivial (fun h => ?_) (fun h => ?_)
    · have h' := of_decide_eq_true h
      refine wk hE trivial ?_
      refine ⟨⟨(x / 4294967296, 32), by dsimp only; omega, ?_, by dsimp only; omega⟩, Le.mk trivial⟩
      rw [blen_div (n := x) (k := 32) (by show 4294967296 ≤ _; omega)]
    · have h' := of_decide_eq_false h
      refine wk hE trivial ?_
      exact ⟨⟨(x, 0), by dsimp only; omega, by simp, by dsimp only; omega⟩, Le.mk trivial⟩
  rintro ⟨⟨y, n⟩, hy, hn, hn2⟩
  dsimp only at hy hn hn2 ⊢
  refine wk hE trivial ?_
  refine AWp.join (ι := {p : Nat × Nat // p.1 < 65536 ∧ p.2 + blen p.1 = blen x ∧ p.2 ≤ 48}) (fun p => ⟨[(0, .raw (.int .u64 (p.1.1 : Nat))), (2, .raw (.int .i64 (p.1.2 : Nat)))], []⟩) ?_ ?_
  · refine AWp.test trivial (fun h => ?_) (fun h => ?_)
    · have h' := of_decide_eq_true h
      refine wk hE trivial ?_
      refine ⟨⟨(y / 65536, n + 16), by dsimp only; omega, ?_, by dsimp only; omega⟩, Le.mk trivial⟩
      rw [← hn, blen_div (n := y) (k := 16) (by show 65536 ≤ _; omega)]
      exact Nat.add_assoc ..
    · have h' := of_decide_eq_false h
      refine wk hE trivial ?_
      exact ⟨⟨(y, n), by dsimp only; omega, hn, by dsimp only; omega⟩, Le.mk trivial⟩
  clear hy hn hn2 y n
  rintro ⟨⟨y, n⟩, hy, hn, hn2⟩
  dsimp only at hy hn hn2 ⊢
  refine wk hE trivial ?_
  refine AWp.join (ι := {p : Nat × Nat // p.1 < 256 ∧ p.2 + blen p.1 = blen x ∧ p.2 ≤ 56}) (fun p => ⟨[(0, .raw (.int .u64 (p.1.1 : Nat))), (2, .raw (.int .i64 (p.1.2 : Nat)))], []⟩) ?_ ?_
  · refine AWp.test trivial (fun h => ?_) (fun h => ?_)
    · have h' := of_decide_eq_true h
      refine wk hE trivial ?_
      refine ⟨⟨(y / 256, n + 8), by dsimp only; omega, ?_, by dsimp only; omega⟩, Le.mk trivial⟩
      rw [← hn, blen_div (n := y) (k := 8) (by show 256 ≤ _; omega)]
      exact Nat.add_assoc ..
    · have h' := of_decide_eq_false h
      refine wk hE trivial ?_
      exact ⟨⟨(y, n), by dsimp only; omega, hn, by dsimp only; omega⟩, Le.mk trivial⟩
  clear hy hn hn2 y n
  rintro ⟨⟨y, n⟩, hy, hn, hn2⟩
  dsimp only at hy hn hn2 ⊢
  refine wk hE trivial ?_
  refine PostL.mk trivial ?_
  have hb := (blen_le y 8).2 (by omega)
  rw [tab8 y hy, w64 (n := (blen y : Int)) (by omega) (by omega), w64 (by omega) (by omega)]
  congr 2
  omega
@[push_cast] def spLead64 : Sp := spU 0 (fun x => 0 ≤ x ∧ x < 18446744073709551616) (fun x => .raw (.int .i64 ((64 - blen x.toNat : Nat) : Int)))
theorem lead64_ok : SpOK Tryz.prog 103 spLead64 := by
  refine SpOK.U fun x hx => ?_
  have hE := env (SOK.cons len64_ok (SOK.nil (P := Tryz.prog)))
  have hb := (blen_le x.toNat 64).2 (by omega)
  refine ACall.body hE Tryz.func103 Tryz.ntmps103 Tryz.results103 ?_
  refine wk hE trivial ?_
  refine PostL.mk trivial ?_
  congr 2
  omega
end Go.Hl

namespace Go.Hl
open Go Go.RowKit Go.Proofs
set_option maxHeartbeats 2000000
theorem lm_dg {n : Nat} (h : (dg n).length < 1099511627776) : Lm (dg n) := ⟨lim_digs (by decide) n, h⟩
structure AddI (A B out : List Int) (i : Nat) (c : Int) : Prop where
  hi : i ≤ A.length
  hl : out.length = A.length + 1
  hd : Lim B64 out
  hc : 0 ≤ c ∧ c ≤ 1
  he : nb (out.take i) + B64 ^ i * c.toNat = nb (A.take i) + nb (B.take i)
theorem AddI.step {A B out : List Int} {i : Nat} {c x y : Int} (h : AddI A B out i c) (hA : Lim B64 A) (hB : Lim B64 B) (hi : i < A.length) (hx : x = A.getD i 0) (hy : y = B.getD i 0) :
    AddI A B (out.set i ((x + y + c) % 18446744073709551616)) (i + 1) ((x + y + c) / 18446744073709551616) := by
  have h1 := hA.get (by decide) i
  have h2 := hB.get (by decide) i
  have hc := h.hc
  rw [← hx] at h1; rw [← hy] at h2
  have hB : ((B64 : Nat) : Int) = 18446744073709551616 := rfl
  rw [hB] at h1 h2
  refine ⟨hi, by rw [List.length_set]; exact h.hl, h.hd.set i (by rw [hB]; omega), by omega, ?_⟩
  have e := h.he
  unfold nb at e ⊢
  rw [nv_set_take _ _ _ (by rw [h.hl]; omega), nv_take_succ A, nv_take_succ B, ← hx, ← hy, Nat.pow_succ]
  have key : ((x + y + c) % 18446744073709551616).toNat + B64 * ((x + y + c) / 18446744073709551616).toNat = x.toNat + y.toNat + c.toNat := by
    show _ + 18446744073709551616 * _ = _
    omega
  have k2 : B64 ^ i * (((x + y + c) % 18446744073709551616).toNat + B64 * ((x + y + c) / 18446744073709551616).toNat) = B64 ^ i * (x.toNat + y.toNat + c.toNat) := by rw [key]
  rw [Nat.mul_add, ← Nat.mul_assoc, Nat.mul_add, Nat.mul_add] at k2
  omega
theorem AddI.done {A B out : List Int} {c : Int} (h : AddI A B out A.length c) (hB : B.length ≤ A.length) : nb (out.set A.length c) = nb A + nb B := by
  have e := h.he
  rw [List.take_length, List.take_of_length_le hB] at e
  rw [← e]
  unfold nb
  have := nv_set_take (B := B64) out A.length c (by rw [h.hl]; omega)
  rw [List.take_of_length_le (by rw [List.length_set, h.hl]; omega)] at this
  exact this
theorem dg_len_lt {xs : List Int} (h : Lm xs) {n : Nat} (hl : xs.length < n) : (dg (nb xs)).length < n :=
  Nat.lt_of_le_of_lt ((digs_length_le (by decide) _ _).2 (nv_lt h.1)) hl
@[push_cast] def spAdd : Sp := spNN 0 (fun xs ys => Lm xs ∧ Lm ys ∧ xs.length < 1000000000 ∧ ys.length < 1000000000) (fun xs ys => .ns .u64 (dg (nb xs + nb ys)))
theorem add_ok : SpOK Tryz.prog 62 spAdd := by
  refine SpOK.NN fun xs ys ⟨hx, hy, hxl, hyl⟩ => ?_
  have hE := env (SOK.cons trim_ok (SOK.cons add64_ok (SOK.nil (P := Tryz.prog))))
  have hxd := dg_len_lt hx hxl
  have hyd := dg_len_lt hy hyl
  refine ACall.body hE Tryz.func62 Tryz.ntmps62 Tryz.results62 ?_
  refine wk hE trivial ?_
  refine AWp.join (ι := {p : List Int × List Int // Lm p.1 ∧ Lm p.2 ∧ p.2.length ≤ p.1.length ∧ p.1.length < 1000000000 ∧ nb p.1 + nb p.2 = nb xs + nb ys}) (fun p => ⟨[(0, .ns .u64 p.1.1), (1, .ns .u64 p.1.2)], []⟩) ?_ ?_
  · refine AWp.test trivial (fun h => ?_) (fun h => ?_)
    · have h' := of_decide_eq_true h
      refine wk hE trivial ?_
      exact ⟨⟨(dg (nb ys), dg (nb xs)), lm_dg (by omega), lm_dg (by omega), by dsimp only; omega, hyd, by simp only [nb_dg]; omega⟩, Le.mk trivial⟩
    · have h' := of_decide_eq_false h
      refine wk hE trivial ?_
      exact ⟨⟨(dg (nb xs), dg (nb ys)), lm_dg (by omega), lm_dg (by omega), by dsimp only; omega, hxd, by simp only [nb_dg]⟩, Le.mk trivial⟩
  rintro ⟨⟨A, B⟩, hA, hB, hBA, hAl, hN⟩
  dsimp only at hA hB hBA hAl hN ⊢
  refine wk hE trivial ?_
  refine AWp.loop (ι := {p : Nat × List Int × Int // AddI A B p.2.1 p.1 p.2.2}) (fun p => ⟨[(0, .ns .u64 A), (1, .ns .u64 B), (5, .os 23 1 0 (A.length + 1)), (6, .raw (.int .u64 p.1.2.2)), (25, .raw (.int .i64 (A.length : Nat))), (26, .raw (.int .i64 (p.1.1 : Nat)))], [(23, ⟨true, .n .u64 p.1.2.1⟩)]⟩)
    (fun p => A.length - p.1.1) ⟨(0, List.replicate (A.length + 1) 0, 0), by dsimp only; omega, by simp, Lim.zeros (by decide) _, by dsimp only; omega, by simp [nb, nv]⟩ (Le.mk trivial) ?_
  rintro ⟨⟨i, out, c⟩, hI⟩
  dsimp only at hI ⊢
  have hol := hI.hl
  have hc := hI.hc
  have hAi := lim64 hA.1 i
  have hBi := lim64 hB.1 i
  by_cases hi : i < A.length
  · refine wk hE (And.intro (show (i : Int) < A.length by omega) trivial) ?_
    refine AWp.join (ι := Unit) (fun _ => ⟨[(0, .ns .u64 A), (1, .ns .u64 B), (5, .os 23 1 0 (A.length + 1)), (6, .raw (.int .u64 c)), (7, .raw (.int .i64 (i : Nat))), (8, .raw (.int .u64 (B.getD i 0))), (25, .raw (.int .i64 (A.length : Nat))), (26, .raw (.int .i64 (i : Nat)))], [(23, ⟨true, .n .u64 out⟩)]⟩) ?_ ?_
    · by_cases hb : i < B.length
      · refine wk hE (show (i : Int) < B.length by omega) ?_
        exact ⟨(), Le.mk trivial⟩
      · have hb0 : B.getD i 0 = 0 := by rw [List.getD_eq_getElem?_getD, List.getElem?_eq_none (by omega)]; rfl
        refine wk hE (show ¬ (i : Int) < B.length by omega) ?_
        exact ⟨(), Le.mk hb0⟩
    · rintro ⟨⟩
      refine wk hE trivial ?_
      exact ⟨⟨(i + 1, out.set i ((A.getD i 0 + B.getD i 0 + c) % 18446744073709551616), (A.getD i 0 + B.getD i 0 + c) / 18446744073709551616), hI.step hA.1 hB.1 hi rfl rfl⟩, Le.mk trivial, by dsimp only; omega⟩
  · have hil : i = A.length := by have := hI.hi; omega
    subst hil
    have htk : (out.set A.length c).take (A.length + 1) = out.set A.length c := List.take_of_length_le (by rw [List.length_set]; omega)
    have hlm : Lm (out.set A.length c) := ⟨hI.hd.set _ (by rw [hB64]; omega), by rw [List.length_set]; omega⟩
    have hres := hI.done hBA
    rw [hN] at hres
    refine wk hE (And.intro (show ¬ (A.length : Int) < A.length by omega) htk) ?_
    refine PostL.mk trivial ?_
    rw [hres]
structure SubI (A B out : List Int) (i : Nat) (c : Int) : Prop where
  hi : i ≤ A.length
  hl : out.length = A.length
  hd : Lim B64 out
  hc : 0 ≤ c ∧ c ≤ 1
  he : nb (out.take i) + nb (B.take i) = nb (A.take i) + B64 ^ i * c.toNat
theorem SubI.step {A B out : List Int} {i : Nat} {c x y : Int} (h : SubI A B out i c) (hA : Lim B64 A) (hB : Lim B64 B) (hi : i < A.length) (hx : x = A.getD i 0) (hy : y = B.getD i 0) :
    SubI A B (out.set i ((x - y - c) % 18446744073709551616)) (i + 1) (if x < y + c then 1 else 0) := by
  have h1 := hA.get (by decide) i
  have h2 := hB.get (by decide) i
  have hc := h.hc
  rw [← hx] at h1; rw [← hy] at h2
  have hB : ((B64 : Nat) : Int) = 18446744073709551616 := rfl
  rw [hB] at h1 h2
  refine ⟨hi, by rw [List.length_set]; exact h.hl, h.hd.set i (by rw [hB]; omega), by split <;> omega, ?_⟩
  have e := h.he
  unfold nb at e ⊢
  rw [nv_set_take _ _ _ (by rw [h.hl]; omega), nv_take_succ A, nv_take_succ B, ← hx, ← hy, Nat.pow_succ]
  have key : ((x - y - c) % 18446744073709551616).toNat + y.toNat + c.toNat = x.toNat + B64 * (if x < y + c then 1 else 0 : Int).toNat := by
    show _ = _ + 18446744073709551616 * _
    split
    · simp; omega
    · simp; omega
  have k2 : B64 ^ i * (((x - y - c) % 18446744073709551616).toNat + y.toNat + c.toNat) = B64 ^ i * (x.toNat + B64 * (if x < y + c then 1 else 0 : Int).toNat) := by rw [key]
  rw [Nat.mul_add, Nat.mul_add, Nat.mul_add, ← Nat.mul_assoc] at k2
  omega
theorem SubI.done {A B out : List Int} {c : Int} (h : SubI A B out A.length c) (hB : B.length ≤ A.length) (hle : nb B ≤ nb A) : out = fixd B64 A.length (nb A - nb B) := by
  have e := h.he
  rw [List.take_length, List.take_of_length_le hB, List.take_of_length_le (by rw [h.hl]; omega)] at e
  have hlt := nv_lt h.hd
  rw [h.hl] at hlt
  have hc := h.hc
  have hcc : c = 0 ∨ c = 1 := by omega
  have e0 : nb out = nb A - nb B := by
    rcases hcc with rfl | rfl
    · simp at e; omega
    · simp at e
      have : nb out < B64 ^ A.length := hlt
      omega
  have := eq_fixd h.hd
  rw [h.hl] at this
  unfold nb at e0
  rw [e0] at this
  exact this
@[push_cast] def spLess : Sp := spNN 0 (fun xs ys => Lm xs ∧ Lm ys ∧ xs.length < 1000000000 ∧ ys.length ≤ xs.length ∧ nb ys ≤ nb xs) (fun xs ys => .ns .u64 (fixd B64 xs.length (nb xs - nb ys)))
theorem less_ok : SpOK Tryz.prog 83 spLess := by
  refine SpOK.NN fun A B ⟨hA, hB, hAl, hBA, hle⟩ => ?_
  have hE := env (SOK.cons sub64_ok (SOK.nil (P := Tryz.prog)))
  refine ACall.body hE Tryz.func83 Tryz.ntmps83 Tryz.results83 ?_
  refine wk hE trivial ?_
  refine AWp.loop (ι := {p : Nat × List Int × Int // SubI A B p.2.1 p.1 p.2.2}) (fun p => ⟨[(0, .ns .u64 A), (1, .ns .u64 B), (5, .os 11 1 0 A.length), (6, .raw (.int .u64 p.1.2.2)), (13, .raw (.int .i64 (A.length : Nat))), (14, .raw (.int .i64 (p.1.1 : Nat)))], [(11, ⟨true, .n .u64 p.1.2.1⟩)]⟩)
    (fun p => A.length - p.1.1) ⟨(0, List.replicate A.length 0, 0), by dsimp only; omega, by simp, Lim.zeros (by decide) _, by dsimp only; omega, by simp [nb, nv]⟩ (Le.mk trivial) ?_
  rintro ⟨⟨i, out, c⟩, hI⟩
  dsimp only at hI ⊢
  have hol := hI.hl
  have hc := hI.hc
  have hAi := lim64 hA.1 i
  have hBi := lim64 hB.1 i
  by_cases hi : i < A.length
  · refine wk hE (show (i : Int) < A.length by omega) ?_
    refine AWp.join (ι := Unit) (fun _ => ⟨[(0, .ns .u64 A), (1, .ns .u64 B), (5, .os 11 1 0 A.length), (6, .raw (.int .u64 c)), (7, .raw (.int .i64 (i : Nat))), (8, .raw (.int .u64 (B.getD i 0))), (13, .raw (.int .i64 (A.length : Nat))), (14, .raw (.int .i64 (i : Nat)))], [(11, ⟨true, .n .u64 out⟩)]⟩) ?_ ?_
    · by_cases hb : i < B.length
      · refine wk hE (show (i : Int) < B.length by omega) ?_
        exact ⟨(), Le.mk trivial⟩
      · have hb0 : B.getD i 0 = 0 := by rw [List.getD_eq_getElem?_getD, List.getElem?_eq_none (by omega)]; rfl
        refine wk hE (show ¬ (i : Int) < B.length by omega) ?_
        exact ⟨(), Le.mk hb0⟩
    · rintro ⟨⟩
      refine wk hE trivial ?_
      exact ⟨⟨(i + 1, out.set i ((A.getD i 0 - B.getD i 0 - c) % 18446744073709551616), (if A.getD i 0 < B.getD i 0 + c then 1 else 0)), hI.step hA.1 hB.1 hi rfl rfl⟩, Le.mk trivial, by dsimp only; omega⟩
  · have hil : i = A.length := by have := hI.hi; omega
    subst hil
    have htk : out.take A.length = out := List.take_of_length_le (by omega)
    have hres := hI.done hBA hle
    refine wk hE (And.intro (show ¬ (A.length : Int) < A.length by omega) htk) ?_
    refine PostL.mk htk ?_
    rw [← hres]
end Go.Hl

namespace Go.Hl
open Go Go.RowKit Go.Proofs
set_option maxHeartbeats 2000000
theorem dg_lt_of_len {a b : Nat} (h : (dg a).length < (dg b).length) : a < b := by
  have h1 : a < B64 ^ (dg a).length := (digs_length_le (by decide) a _).1 (Nat.le_refl _)
  have h2 : ¬ b < B64 ^ (dg a).length := fun h' => by
    have : (dg b).length ≤ (dg a).length := (digs_length_le (B := B64) (by decide) b _).2 h'
    omega
  omega
theorem nb_lt_of {A B : List Int} {n : Nat} (hA : Lim B64 A) (hB : Lim B64 B) (h1 : n < A.length) (h2 : n < B.length) (hd : A.drop (n + 1) = B.drop (n + 1)) (h : A.getD n 0 < B.getD n 0) : nb A < nb B := by
  unfold nb
  rw [nv_take_drop A (n + 1) (by omega), nv_take_drop B (n + 1) (by omega), hd, nv_take_succ, nv_take_succ]
  have ha := nv_lt (hA.take n)
  rw [List.length_take, Nat.min_eq_left (by omega)] at ha
  have h3 := (hA.get (by decide) n).1
  have h4 : (A.getD n 0).toNat + 1 ≤ (B.getD n 0).toNat := by omega
  have h5 := Nat.mul_le_mul_left (B64 ^ n) h4
  rw [Nat.mul_add] at h5
  omega
def cmpI (a b : Nat) : Int := if a < b then -1 else if b < a then 1 else 0
theorem drop_pred {A B : List Int} {n : Nat} (h1 : n < A.length) (h2 : n < B.length) (h : A.drop (n + 1) = B.drop (n + 1)) (e : A.getD n 0 = B.getD n 0) : A.drop n = B.drop n := by
  have g1 : A.getD n 0 = A[n] := by rw [List.getD_eq_getElem?_getD, List.getElem?_eq_getElem h1]; rfl
  have g2 : B.getD n 0 = B[n] := by rw [List.getD_eq_getElem?_getD, List.getElem?_eq_getElem h2]; rfl
  rw [List.drop_eq_getElem_cons h1, List.drop_eq_getElem_cons h2, h, ← g1, ← g2, e]
@[push_cast] def spCmp : Sp := spNN 0 (fun xs ys => Lm xs ∧ Lm ys) (fun xs ys => .raw (.int .i64 (cmpI (nb xs) (nb ys))))
theorem cmp_ok : SpOK Tryz.prog 58 spCmp := by
  refine SpOK.NN fun xs ys ⟨hx, hy⟩ => ?_
  have hE := env (SOK.cons trim_ok (SOK.nil (P := Tryz.prog)))
  have hxd := dg_len hx
  have hyd := dg_len hy
  have hA := lm_dg hxd
  have hB := lm_dg hyd
  refine ACall.body hE Tryz.func58 Tryz.ntmps58 Tryz.results58 ?_
  refine wk hE trivial ?_
  have eA := nb_dg (nb xs)
  have eB := nb_dg (nb ys)
  have lt1 := dg_lt_of_len (a := nb xs) (b := nb ys)
  have lt2 := dg_lt_of_len (a := nb ys) (b := nb xs)
  generalize dg (nb xs) = A at *
  generalize dg (nb ys) = B at *
  refine AWp.test trivial (fun h => ?_) (fun h => ?_)
  · have h1 := of_decide_eq_true h
    refine wk hE trivial ?_
    refine PostL.mk trivial ?_
    unfold cmpI; rw [if_pos (lt1 (by omega))]
  have h1 := of_decide_eq_false h
  refine wk hE trivial ?_
  refine AWp.test trivial (fun h => ?_) (fun h => ?_)
  · have h2 := of_decide_eq_true h
    refine wk hE trivial ?_
    refine PostL.mk trivial ?_
    have := lt2 (by omega)
    unfold cmpI; rw [if_neg (by omega), if_pos this]
  have h2 := of_decide_eq_false h
  have hl : B.length = A.length := by omega
  have hAl := hA.2
  refine wk hE trivial ?_
  refine AWp.loop (ι := {n : Nat // n ≤ A.length ∧ A.drop n = B.drop n}) (fun n => ⟨[(0, .ns .u64 A), (1, .ns .u64 B), (5, .raw (.int .i64 ((n.1 : Int) - 1)))], []⟩) (fun n => n.1) ⟨A.length, Nat.le_refl _, by rw [List.drop_length, ← hl, List.drop_length]⟩ (Le.mk trivial) ?_
  rintro ⟨n, hn, hdr⟩
  dsimp only
  cases n with
  | zero =>
    have hAB : A = B := by simpa using hdr
    refine wk hE trivial ?_
    refine PostL.mk trivial ?_
    subst hAB
    unfold cmpI; rw [if_neg (by omega), if_neg (by omega)]
  | succ n =>
    have a1 := lim64 hA.1 n
    have a2 := lim64 hB.1 n
    refine wk hE (show (n : Int) + 1 - 1 = n by omega) ?_
    refine AWp.test trivial (fun h => ?_) (fun h => ?_)
    · have h3 := of_decide_eq_true h
      refine wk hE trivial ?_
      refine PostL.mk trivial ?_
      have := nb_lt_of hA.1 hB.1 (n := n) (by omega) (by omega) hdr h3
      unfold cmpI; rw [if_pos (by omega)]
    have h3 := of_decide_eq_false h
    refine wk hE trivial ?_
    refine AWp.test trivial (fun h => ?_) (fun h => ?_)
    · have h4 := of_decide_eq_true h
      refine wk hE trivial ?_
      refine PostL.mk trivial ?_
      have := nb_lt_of hB.1 hA.1 (n := n) (by omega) (by omega) hdr.symm h4
      unfold cmpI; rw [if_neg (by omega), if_pos (by omega)]
    have h4 := of_decide_eq_false h
    refine wk hE trivial ?_
    exact ⟨⟨n, by omega, drop_pred (by omega) (by omega) hdr (by omega)⟩, Le.mk trivial, by dsimp only; omega⟩
@[push_cast] def spSub : Sp := spNN 0 (fun xs ys => Lm xs ∧ Lm ys ∧ xs.length < 1000000000 ∧ ys.length < 1000000000) (fun xs ys => .tup [.ns .u64 (dg (nb xs - nb ys)), .raw (.bool (decide (nb ys ≤ nb xs)))])
theorem sub_ok : SpOK Tryz.prog 63 spSub := by
  refine SpOK.NN fun xs ys ⟨hx, hy, hxl, hyl⟩ => ?_
  have hE := env (SOK.cons trim_ok (SOK.cons cmp_ok (SOK.cons less_ok (SOK.nil (P := Tryz.prog)))))
  have hxd := dg_len_lt hx hxl
  have hyd := dg_len_lt hy hyl
  refine ACall.body hE Tryz.func63 Tryz.ntmps63 Tryz.results63 ?_
  by_cases h : nb xs < nb ys
  · have e1 : cmpI (nb xs) (nb ys) = -1 := by unfold cmpI; rw [if_pos h]
    have e2 : dg (nb xs - nb ys) = [] := by rw [Nat.sub_eq_zero_of_le (by omega)]; exact digs_zero
    refine wk hE e1 ?_
    refine PostL.mk trivial ?_
    rw [e2, decide_eq_false (by omega)]
  · have e1 : ¬ cmpI (nb xs) (nb ys) < 0 := by unfold cmpI; rw [if_neg h]; split <;> decide
    have hA := lm_dg (n := nb xs) (by omega)
    have hB := lm_dg (n := nb ys) (by omega)
    have hle : (dg (nb ys)).length ≤ (dg (nb xs)).length := by
      have := dg_lt_of_len (a := nb xs) (b := nb ys)
      omega
    have hlt : nb xs - nb ys < B64 ^ (dg (nb xs)).length := by
      have := nv_lt hA.1
      have q := nb_dg (nb xs)
      unfold nb at q this ⊢
      omega
    have hn : nb (fixd B64 (dg (nb xs)).length (nb xs - nb ys)) = nb xs - nb ys := nv_fixd (by decide) _ _ hlt
    have hf : Lm (fixd B64 (dg (nb xs)).length (nb xs - nb ys)) := ⟨lim_fixd (by decide) _ _, by rw [fixd_length]; omega⟩
    have hnn : nb ys ≤ nb xs := by omega
    have c1 := nb_dg (nb xs)
    have c2 := nb_dg (nb ys)
    refine wk hE (And.intro e1 (And.intro hn (And.intro c1 c2))) ?_
    refine PostL.mk trivial ?_
    rw [decide_eq_true hnn]
end Go.Hl

namespace Go.Hl
open Go Go.RowKit Go.Proofs
set_option maxHeartbeats 2000000
@[push_cast] def spBitLen : Sp := spN 0 (fun xs => Lm xs) (fun xs => .raw (.int .i64 (blen (nb xs) : Nat)))
theorem bitlen_ok : SpOK Tryz.prog 52 spBitLen := by
  refine SpOK.N fun xs hx => ?_
  have hE := env (SOK.cons trim_ok (SOK.cons len64_ok (SOK.nil (P := Tryz.prog))))
  have hA := lm_dg (dg_len hx)
  have hT : Top (dg (nb xs)) := top_digs (by decide) _
  have eA := nb_dg (nb xs)
  refine ACall.body hE Tryz.func52 Tryz.ntmps52 Tryz.results52 ?_
  rw [← eA]
  refine wk hE trivial ?_
  generalize dg (nb xs) = A at *
  rcases Nat.eq_zero_or_pos A.length with h0 | h0
  · have hnil := List.eq_nil_of_length_eq_zero h0
    subst hnil
    refine wk hE trivial ?_
    refine PostL.mk trivial ?_
    rfl
  · obtain ⟨n, hn⟩ : ∃ n, A.length = n + 1 := ⟨A.length - 1, by omega⟩
    have hl := hA.2
    have hz : ((A.length : Int) == 0) = false := by rw [beq_eq_false_iff_ne]; omega
    have hn1 : A.length - 1 = n := by omega
    have h1 := lim64 hA.1 n
    refine wk hE (And.intro hz hn1) ?_
    refine PostL.mk trivial ?_
    have hb := (blen_le (A.getD n 0).toNat 64).2 (by omega)
    have ht : A.getD n 0 ≠ 0 := by
      rcases hT with rfl | hT
      · simp at h0
      · rwa [hn1] at hT
    rw [blen_limbs hA.1 hn ht, w64 (by omega) (by omega)]
    congr 2
    omega
theorem shr_bd {x : Int} {r : Nat} (h : 0 ≤ x ∧ x < 18446744073709551616) : 0 ≤ x / 2 ^ r ∧ x / 2 ^ r < 18446744073709551616 := by
  have hp : (0 : Int) < 2 ^ r := Int.pow_pos (by decide)
  exact ⟨Int.ediv_nonneg h.1 (by omega), Int.lt_of_le_of_lt (Int.ediv_le_self _ h.1) h.2⟩
@[push_cast] def spBit : Sp := spNI 0 (fun xs _ => Lm xs) (fun xs i => .raw (.bool (bitN (nb xs) i)))
end Go.Hl

namespace Go.Hl
open Go Go.RowKit Go.Proofs
set_option maxHeartbeats 2000000
@[push_cast] def spMul : Sp := spNN 0 (fun xs ys => Lm xs ∧ Lm ys ∧ xs.length < 1000000000 ∧ ys.length < 1000000000) (fun xs ys => .ns .u64 (dg (nb xs * nb ys)))
structure MulO (A B out : List Int) (i : Nat) : Prop where
  hi : i ≤ A.length
  hl : out.length = A.length + B.length
  hd : Lim B64 out
  hz : ∀ j, i + B.length ≤ j → out.getD j 0 = 0
  he : nb out = nb (A.take i) * nb B
theorem mul_ok : SpOK Tryz.prog 78 spMul := by
  refine SpOK.NN fun xs ys ⟨hx, hy, hxl, hyl⟩ => ?_
  have hE := env (SOK.cons trim_ok (SOK.cons add64_ok (SOK.cons mul64_ok (SOK.nil (P := Tryz.prog)))))
  have hxd := dg_len_lt hx hxl
  have hyd := dg_len_lt hy hyl
  have hA := lm_dg (n := nb xs) (by omega)
  have hB := lm_dg (n := nb ys) (by omega)
  have eA := nb_dg (nb xs)
  have eB := nb_dg (nb ys)
  refine ACall.body hE Tryz.func78 Tryz.ntmps78 Tryz.results78 ?_
  rw [← eA, ← eB]
  refine wkR hE trivial ?_
  refine wkR hE trivial ?_
  generalize dg (nb xs) = A at *
  generalize dg (nb ys) = B at *
  have tn : ((A.length : Int) + (B.length : Int)).toNat = A.length + B.length := by omega
  refine wk hE tn ?_
  refine AWp.loop (ι := {p : Nat × List Int // MulO A B p.2 p.1}) (fun p => ⟨[(0, .ns .u64 A), (1, .ns .u64 B), (5, .os 23 1 0 (A.length + B.length)), (24, .ns .u64 A), (25, .raw (.int .i64 (A.length : Nat))), (26, .raw (.int .i64 (p.1.1 : Nat)))], [(23, ⟨true, .n .u64 p.1.2⟩)]⟩)
    (fun p => A.length - p.1.1) ⟨(0, List.replicate (A.length + B.length) 0), by dsimp only; omega, by simp, Lim.zeros (by decide) _, ?_, by simp only [nb, nv_zeros, List.take_zero, nv_nil, Nat.zero_mul]⟩ (Le.mk trivial) ?_
  · intro j hj
    simp only [List.getD_eq_getElem?_getD, List.getElem?_replicate]
    split <;> rfl
  rintro ⟨⟨i, out0⟩, hO⟩
  dsimp only at hO ⊢
  have hol := hO.hl
  have hAi := lim64 hA.1 i
  by_cases hi : i < A.length
  · refine wk hE (show (i : Int) < A.length by omega) ?_
    refine AWp.loop (ι := {p : Nat × List Int × Int // MulI A B p.2.1 (A.getD i 0) i p.1 p.2.2}) (fun p => ⟨[(0, .ns .u64 A), (1, .ns .u64 B), (5, .os 23 1 0 (A.length + B.length)), (6, .raw (.int .i64 (i : Nat))), (7, .raw (.int .u64 (A.getD i 0))), (8, .raw (.int .u64 p.1.2.2)), (24, .ns .u64 A), (25, .raw (.int .i64 (A.length : Nat))), (26, .raw (.int .i64 (i : Nat))), (31, .ns .u64 B), (32, .raw (.int .i64 (B.length : Nat))), (33, .raw (.int .i64 (p.1.1 : Nat)))], [(23, ⟨true, .n .u64 p.1.2.1⟩)]⟩)
      (fun p => B.length - p.1.1) ⟨(0, out0, 0), MulI.start hO.hl hO.hd hO.hz hO.he⟩ (Le.mk trivial) ?_
    rintro ⟨⟨k, out, c⟩, hI⟩
    dsimp only at hI ⊢
    have hl2 := hI.hl
    have hBk := lim64 hB.1 k
    have hok := lim64 hI.hd (i + k)
    have hc := hI.hc
    by_cases hk : k < B.length
    · have tn2 : ((i : Int) + (k : Int)).toNat = i + k := by omega
      obtain ⟨m1, m2, m3, m4⟩ := mac_spec hAi hBk hok hc
      have hst := hI.step hB.1 hi hAi hk rfl rfl
      unfold macLo at m1 m2 hst
      unfold macHi at m1 m3 hst
      refine wk hE (And.intro (show (k : Int) < B.length by omega) tn2) ?_
      exact ⟨⟨(k + 1, _, _), hst⟩, Le.mk trivial, by dsimp only; omega⟩
    · have hkl : k = B.length := by have := hI.hk; omega
      subst hkl
      have tn2 : ((i : Int) + (B.length : Int)).toNat = i + B.length := by omega
      obtain ⟨d1, d2, d3, d4⟩ := hI.done hi rfl
      refine wk hE (And.intro (show ¬ (B.length : Int) < B.length by omega) tn2) ?_
      exact ⟨⟨(i + 1, _), ⟨hi, d1, d2, d3, d4⟩⟩, Le.mk trivial, by dsimp only; omega⟩
  · have hil : i = A.length := by have := hO.hi; omega
    subst hil
    have htk : out0.take (A.length + B.length) = out0 := List.take_of_length_le (by omega)
    have hlm : Lm out0 := ⟨hO.hd, by omega⟩
    have hv := hO.he
    rw [List.take_length] at hv
    refine wk hE (And.intro (show ¬ (A.length : Int) < A.length by omega) (And.intro htk hv)) ?_
    exact PostL.mk trivial rfl
end Go.Hl

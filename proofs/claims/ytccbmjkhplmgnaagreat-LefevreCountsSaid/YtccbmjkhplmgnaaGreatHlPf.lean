/- math/bits.Div64 nat.takes, nat.gives nat.digit nat.short, nat.long nat.DivMod, nat.Gcd -/
import Derived.Test.YtccbmjkhplmgnaaGreatHlPa
import Derived.Test.YtccbmjkhplmgnaaGreatHlN
import Derived.Test.YtccbmjkhplmgnaaGreatHlPb
set_option linter.unusedVariables false
set_option linter.unusedSimpArgs false
namespace Go.Hl
open Go Go.RowKit Go.Proofs
set_option maxHeartbeats 4000000
@[push_cast] def spDiv64 : Sp := spUUU 0 (fun h l y => 0 ≤ h ∧ h < y ∧ (0 ≤ l ∧ l < 18446744073709551616) ∧ y < 18446744073709551616)
  (fun h l y => .tup [.raw (.int .u64 ((h * 18446744073709551616 + l) / y)), .raw (.int .u64 ((h * 18446744073709551616 + l) % y))])
theorem norm_shift {y : Nat} (h0 : 0 < y) (h : y < 2 ^ 64) : 9223372036854775808 ≤ y * 2 ^ (64 - blen y) ∧ y * 2 ^ (64 - blen y) < 18446744073709551616 ∧ 64 - blen y ≤ 63 := by
  have h1 := (blen_le y (blen y)).1 (Nat.le_refl _)
  have hb : blen y ≤ 64 := (blen_le y 64).2 h
  have hb0 : blen y ≠ 0 := fun e => by rw [blen_eq_zero] at e; omega
  have h2 : ¬ y < 2 ^ (blen y - 1) := fun h' => by have := (blen_le y (blen y - 1)).2 h'; omega
  have e1 : 2 ^ blen y * 2 ^ (64 - blen y) = 18446744073709551616 := by rw [← Nat.pow_add, show blen y + (64 - blen y) = 64 by omega]
  have e2 : 2 ^ (blen y - 1) * 2 ^ (64 - blen y) = 9223372036854775808 := by rw [← Nat.pow_add, show blen y - 1 + (64 - blen y) = 63 by omega]
  refine ⟨?_, ?_, by omega⟩
  · rw [← e2]; exact Nat.mul_le_mul_right _ (by omega)
  · rw [← e1]; exact Nat.mul_lt_mul_of_pos_right h1 (Nat.two_pow_pos _)
theorem div64_ok : SpOK Tryz.prog 102 spDiv64 := by
  refine SpOK.UUU fun h l y ⟨hh, hy, hl, hy2⟩ => ?_
  have hE := env (SOK.cons lead64_ok (SOK.nil (P := Tryz.prog)))
  refine ACall.body hE Tryz.func102 Tryz.ntmps102 Tryz.results102 ?_
  have hy0 : (y == 0) = false := by rw [beq_eq_false_iff_ne]; omega
  have hle : ¬ y ≤ h := by omega
  by_cases h0 : h = 0
  · subst h0
    have hyn : y ≠ 0 := by omega
    have d1 : 0 ≤ l / y := Int.ediv_nonneg hl.1 (by omega)
    have d2 : l / y ≤ l := Int.ediv_le_self _ hl.1
    refine wk hE (And.intro hy0 (And.intro hle hyn)) ?_
    refine PostL.mk trivial ?_
    simp only [Int.zero_mul, Int.zero_add]
  have hhz : (h == 0) = false := by rw [beq_eq_false_iff_ne]; omega
  obtain ⟨Y, rfl⟩ := Int.eq_ofNat_of_zero_le (show 0 ≤ y by omega)
  obtain ⟨n1, n2, n3⟩ := norm_shift (y := Y) (by omega) (by omega)
  obtain ⟨s, hs⟩ : ∃ s, 64 - blen Y = s := ⟨_, rfl⟩
  rw [hs] at n1 n2 n3
  obtain ⟨z, hz⟩ : ∃ z : Int, z = (Y : Int) * 2 ^ s := ⟨_, rfl⟩
  have hz1 : 9223372036854775808 ≤ z ∧ z < 18446744073709551616 := by
    have : ((Y * 2 ^ s : Nat) : Int) = z := by rw [hz, Int.natCast_mul, Int.natCast_pow]; rfl
    omega
  obtain ⟨t1, t2, t3⟩ := div64_top (hi := h) (lo := l) (s := s) (by omega) hl
  have hp : (0 : Int) < 2 ^ s := Int.pow_pos (by decide)
  have hq : (0 : Int) ≤ 2 ^ (64 - s) := Int.le_of_lt (Int.pow_pos (by decide))
  have hps : (2 : Int) ^ s ≤ 18446744073709551616 := by
    have e := pow64 (r := s) (by omega)
    have h1 : (1 : Int) ≤ 2 ^ (64 - s) := Int.pow_pos (by decide)
    have := Int.mul_le_mul_of_nonneg_left h1 (Int.le_of_lt hp)
    omega
  have hhs : 0 ≤ h * 2 ^ s ∧ h * 2 ^ s + 2 ^ s ≤ z := by
    refine ⟨Int.mul_nonneg hh (by omega), ?_⟩
    have : (h + 1) * 2 ^ s ≤ (Y : Int) * 2 ^ s := Int.mul_le_mul_of_nonneg_right (by omega) (by omega)
    rw [Int.add_mul, Int.one_mul] at this
    omega
  have tn : ((64 : Int) - (s : Int)).toNat = 64 - s := by omega
  have hwz : IntKind.u64.wrap ((Y : Int) * 2 ^ s) = z := by rw [← hz]; exact wu64 (by omega) (by omega)
  have hor : bits .or .u64 (h * 2 ^ s) (l / 2 ^ (64 - s)) = h * 2 ^ s + l / 2 ^ (64 - s) :=
    or_join s _ _ hhs.1 (Int.mul_emod_left _ _) (by omega) t2 t3 (by omega)
  have hwl : IntKind.u64.wrap (l * 2 ^ s) = (l * 2 ^ s) % 18446744073709551616 := IntKind.wrap_u64 _
  obtain ⟨u1, hu1⟩ : ∃ u1, h * 2 ^ s + l / 2 ^ (64 - s) = u1 := ⟨_, rfl⟩
  obtain ⟨u0, hu0⟩ : ∃ u0, (l * 2 ^ s) % 18446744073709551616 = u0 := ⟨_, rfl⟩
  rw [hu1, hu0] at t1
  rw [hu1] at hor
  rw [hu0] at hwl
  have hu0b : 0 ≤ u0 ∧ u0 < 18446744073709551616 := by omega
  obtain ⟨z1, hz1e⟩ : ∃ z1, z / 4294967296 = z1 := ⟨_, rfl⟩
  obtain ⟨z0, hz0e⟩ : ∃ z0, z % 4294967296 = z0 := ⟨_, rfl⟩
  obtain ⟨a, ha⟩ : ∃ a, u0 / 4294967296 = a := ⟨_, rfl⟩
  obtain ⟨b, hb⟩ : ∃ b, u0 % 4294967296 = b := ⟨_, rfl⟩
  have hP : HalfP z z1 z0 u1 a := ⟨by omega, by omega, by omega, by omega, by omega⟩
  refine wkR hE trivial ?_
  obtain ⟨hI0, hq97⟩ := HalfI.start hP
  obtain ⟨qa, hqa⟩ : ∃ qa, u1 / z1 = qa := ⟨_, rfl⟩
  obtain ⟨ra, hra⟩ : ∃ ra, u1 % z1 = ra := ⟨_, rfl⟩
  rw [hqa, hra] at hI0
  rw [hqa] at hq97
  have hqa0 := hI0.hq
  have hra0 := hI0.hr
  have hqe := hI0.he
  have hsub : u1 - qa * z1 = ra := by omega
  have hz1b := hP.h1
  have hqz := Int.mul_nonneg hqa0 (show 0 ≤ z1 by omega)
  have hz0b := hP.h0
  have hzn : z1 ≠ 0 := by omega
  have hu1b := hP.hn
  refine wk hE (And.intro hy0 (And.intro hle (And.intro hhz (And.intro hs (And.intro hwz (And.intro tn (And.intro hor (And.intro hwl (And.intro hz1e (And.intro hz0e (And.intro ha (And.intro hb (And.intro hqa (And.intro hsub hzn)))))))))))))) ?_
  refine AWp.joinB (ι := {q : Int // q = (u1 * 4294967296 + a) / z}) (fun q => ⟨[(2, .raw (.int .u64 z)), (8, .raw (.int .u64 (s : Nat))), (9, .raw (.int .u64 z1)), (10, .raw (.int .u64 z0)), (11, .raw (.int .u64 u1)), (13, .raw (.int .u64 a)), (14, .raw (.int .u64 b)), (15, .raw (.int .u64 q.1))], []⟩) ?_ ?_
  · refine AWp.loop (ι := {p : Int × Int // HalfI z z1 u1 a p.1 p.2}) (fun p => ⟨[(2, .raw (.int .u64 z)), (8, .raw (.int .u64 (s : Nat))), (9, .raw (.int .u64 z1)), (10, .raw (.int .u64 z0)), (11, .raw (.int .u64 u1)), (13, .raw (.int .u64 a)), (14, .raw (.int .u64 b)), (15, .raw (.int .u64 p.1.1)), (16, .raw (.int .u64 p.1.2))], []⟩) (fun p => p.1.1.toNat) ⟨(qa, ra), hI0⟩ (Le.mk trivial) ?_
    rintro ⟨⟨q, r⟩, hI⟩
    dsimp only at hI ⊢
    have hq0 := hI.hq
    have hr0 := hI.hr
    have hr1 := hI.hr1
    have had := hP.hd
    by_cases hc : 4294967296 ≤ q ∨ 4294967296 * r + a < q * z0
    · obtain ⟨s1, s2, s3⟩ := hI.step hP hc
      have hq96 : q < 18446744073709551616 := by
        refine Int.lt_of_mul_lt_mul_right (a := z1) ?_ (by omega)
        have := hI.he
        omega
      by_cases hb2 : 4294967296 ≤ r + z1
      · have hl2 := hI.last hP hc hb2
        by_cases hq32 : 4294967296 ≤ q
        · refine wk hE (And.intro hq32 hb2) ?_
          exact ⟨⟨_, hl2⟩, Le.mk trivial⟩
        · have hm := mul_bd (M := 4294967295) (N := 4294967295) hq0 hz0b.1 (by omega) (by omega)
          refine wk hE (And.intro hq32 (And.intro (show 4294967296 * r + a < q * z0 by omega) hb2)) ?_
          exact ⟨⟨_, hl2⟩, Le.mk trivial⟩
      · have hnx := hI.next hP hc (by omega)
        by_cases hq32 : 4294967296 ≤ q
        · refine wk hE (And.intro hq32 hb2) ?_
          exact ⟨⟨(_, _), hnx⟩, Le.mk trivial, by dsimp only; omega⟩
        · have hm := mul_bd (M := 4294967295) (N := 4294967295) hq0 hz0b.1 (by omega) (by omega)
          refine wk hE (And.intro hq32 (And.intro (show 4294967296 * r + a < q * z0 by omega) hb2)) ?_
          exact ⟨⟨(_, _), hnx⟩, Le.mk trivial, by dsimp only; omega⟩
    · have hm := mul_bd (M := 4294967295) (N := 4294967295) hq0 hz0b.1 (by omega) (by omega)
      have hd := hI.done hP (by omega)
      refine wk hE (And.intro (show ¬ 4294967296 ≤ q by omega) (show ¬ 4294967296 * r + a < q * z0 by omega)) ?_
      exact ⟨⟨_, hd⟩, Le.mk trivial⟩
  rintro ⟨q1, hq1⟩
  dsimp only
  have had := hP.hd
  obtain ⟨hrest, hrb⟩ := hP.rest hz1.2
  have hql := hP.lt
  rw [← hq1] at hrest hql
  have e1 : q1 * z + (u1 * 4294967296 + a) % z = u1 * 4294967296 + a := by
    have := Int.mul_ediv_add_emod (u1 * 4294967296 + a) z
    rw [← hq1, Int.mul_comm] at this; exact this
  obtain ⟨v, hv⟩ : ∃ v, (u1 * 4294967296 + a) % z = v := ⟨_, rfl⟩
  rw [hv] at hrest hrb e1
  have hwv : IntKind.u64.wrap (IntKind.u64.wrap (IntKind.u64.wrap (u1 * 4294967296) + a) - IntKind.u64.wrap (q1 * z)) = v := by
    rw [IntKind.wrap_u64, IntKind.wrap_u64, IntKind.wrap_u64, IntKind.wrap_u64]; exact hrest
  have hP0 : HalfP z z1 z0 v b := ⟨by omega, by omega, by omega, by omega, by omega⟩
  obtain ⟨hJ0, hj97⟩ := HalfI.start hP0
  obtain ⟨qb, hqb⟩ : ∃ qb, v / z1 = qb := ⟨_, rfl⟩
  obtain ⟨rb, hrbe⟩ : ∃ rb, v % z1 = rb := ⟨_, rfl⟩
  rw [hqb, hrbe] at hJ0
  rw [hqb] at hj97
  have hqb0 := hJ0.hq
  have hrb0 := hJ0.hr
  have hqbe := hJ0.he
  have hsub2 : v - qb * z1 = rb := by omega
  have hqz2 := Int.mul_nonneg hqb0 (show 0 ≤ z1 by omega)
  refine wk hE (And.intro hwv (And.intro hqb (And.intro hsub2 hzn))) ?_
  refine AWp.joinB (ι := {q : Int // q = (v * 4294967296 + b) / z}) (fun q => ⟨[(2, .raw (.int .u64 z)), (8, .raw (.int .u64 (s : Nat))), (14, .raw (.int .u64 b)), (15, .raw (.int .u64 q1)), (17, .raw (.int .u64 v)), (18, .raw (.int .u64 q.1))], []⟩) ?_ ?_
  · refine AWp.loop (ι := {p : Int × Int // HalfI z z1 v b p.1 p.2}) (fun p => ⟨[(2, .raw (.int .u64 z)), (8, .raw (.int .u64 (s : Nat))), (9, .raw (.int .u64 z1)), (10, .raw (.int .u64 z0)), (14, .raw (.int .u64 b)), (15, .raw (.int .u64 q1)), (16, .raw (.int .u64 p.1.2)), (17, .raw (.int .u64 v)), (18, .raw (.int .u64 p.1.1))], []⟩) (fun p => p.1.1.toNat) ⟨(qb, rb), hJ0⟩ (Le.mk trivial) ?_
    clear hwv hrest hq1 hql e1 hwz hor hwl hz1e hz0e ha hb hqa hsub hI0 hqe hra hra0 hqa0 hq97 hqz hsub2 hqb hrbe hqz2 hqbe hrb0 hqb0 hj97
    rintro ⟨⟨q, r⟩, hI⟩
    dsimp only at hI ⊢
    have hq0 := hI.hq
    have hr0 := hI.hr
    have hr1 := hI.hr1
    have had := hP0.hd
    by_cases hc : 4294967296 ≤ q ∨ 4294967296 * r + b < q * z0
    · obtain ⟨s1, s2, s3⟩ := hI.step hP0 hc
      have hq96 : q < 18446744073709551616 := by
        refine Int.lt_of_mul_lt_mul_right (a := z1) ?_ (by omega)
        have := hI.he
        omega
      by_cases hb2 : 4294967296 ≤ r + z1
      · have hl2 := hI.last hP0 hc hb2
        by_cases hq32 : 4294967296 ≤ q
        · refine wk hE (And.intro hq32 hb2) ?_
          exact ⟨⟨_, hl2⟩, Le.mk trivial⟩
        · have hm := mul_bd (M := 4294967295) (N := 4294967295) hq0 hz0b.1 (by omega) (by omega)
          refine wk hE (And.intro hq32 (And.intro (show 4294967296 * r + b < q * z0 by omega) hb2)) ?_
          exact ⟨⟨_, hl2⟩, Le.mk trivial⟩
      · have hnx := hI.next hP0 hc (by omega)
        by_cases hq32 : 4294967296 ≤ q
        · refine wk hE (And.intro hq32 hb2) ?_
          exact ⟨⟨(_, _), hnx⟩, Le.mk trivial, by dsimp only; omega⟩
        · have hm := mul_bd (M := 4294967295) (N := 4294967295) hq0 hz0b.1 (by omega) (by omega)
          refine wk hE (And.intro hq32 (And.intro (show 4294967296 * r + b < q * z0 by omega) hb2)) ?_
          exact ⟨⟨(_, _), hnx⟩, Le.mk trivial, by dsimp only; omega⟩
    · have hm := mul_bd (M := 4294967295) (N := 4294967295) hq0 hz0b.1 (by omega) (by omega)
      have hd := hI.done hP0 (by omega)
      refine wk hE (And.intro (show ¬ 4294967296 ≤ q by omega) (show ¬ 4294967296 * r + b < q * z0 by omega)) ?_
      exact ⟨⟨_, hd⟩, Le.mk trivial⟩
  rintro ⟨q0, hq0⟩
  dsimp only
  have had0 := hP0.hd
  obtain ⟨hrest0, hrb0⟩ := hP0.rest hz1.2
  have hql0 := hP0.lt
  rw [← hq0] at hrest0 hql0
  have e0 : q0 * z + (v * 4294967296 + b) % z = v * 4294967296 + b := by
    have := Int.mul_ediv_add_emod (v * 4294967296 + b) z
    rw [← hq0, Int.mul_comm] at this; exact this
  obtain ⟨x, hx⟩ : ∃ x, (v * 4294967296 + b) % z = x := ⟨_, rfl⟩
  rw [hx] at hrest0 hrb0 e0
  have hwx : IntKind.u64.wrap (IntKind.u64.wrap (IntKind.u64.wrap (v * 4294967296) + b) - IntKind.u64.wrap (q0 * z)) = x := by
    rw [IntKind.wrap_u64, IntKind.wrap_u64, IntKind.wrap_u64, IntKind.wrap_u64]; exact hrest0
  obtain ⟨f1, f2⟩ := div64_fin (y := (Y : Int)) hz hp t1 (show u0 = a * 4294967296 + b by omega) (by omega) e1 e0 hrb0
  clear hwv hrest hwz hor hwl hz1e hz0e ha hb hqa hsub hI0 hqe hra hra0 hqa0 hq97 hqz hsub2 hqb hrbe hqz2 hqbe hqb0 hj97
  refine wk hE (And.intro hwx (Int.le_of_lt hp)) ?_
  refine PostL.mk trivial ?_
  rw [← f1, ← f2]
end Go.Hl

namespace Go.Hl
open Go Go.RowKit Go.Proofs
set_option maxHeartbeats 4000000
theorem eq_fixd64 {xs : List Int} (h : Lim B64 xs) {n v : Nat} (hl : xs.length = n) (hv : nb xs = v) : xs = fixd B64 n v := by
  subst hl; subst hv; exact eq_fixd h
@[push_cast] def spTakes : Sp := spNNU 2 (fun u v g => Lim B64 u ∧ Lim B64 v ∧ u.length = v.length + 1 ∧ v.length < 1000000000 ∧ 0 ≤ g ∧ g < 18446744073709551616)
  (fun u v g => .tup [.raw (.bool (decide (nb u < g.toNat * nb v))), .ns .u64 (fixd B64 (v.length + 1) (nb u + (if nb u < g.toNat * nb v then B64 ^ (v.length + 1) else 0) - g.toNat * nb v))])
theorem takes_ok : SpOK Tryz.prog 106 spTakes := by
  refine SpOK.NNUm fun u v g ⟨hu, hv, hl, hvl, hg0, hg1⟩ => ?_
  have hE := envM (SOK.cons add64_ok (SOK.cons mul64_ok (SOK.cons sub64_ok (SOK.nil (P := Tryz.prog)))))
  refine MCall.body hE Tryz.func106 Tryz.ntmps106 Tryz.results106 (by rw [fixd_length, hl]) ?_
  rw [hl]
  refine wk hE trivial ?_
  refine AWp.loop (ι := {p : Nat × List Int × Int × Int // TakeI u v p.2.1 g p.1 p.2.2.1 p.2.2.2}) (fun p => ⟨[(0, .os 67 1 0 (v.length + 1)), (1, .ns .u64 v), (2, .raw (.int .u64 g)), (7, .raw (.int .u64 p.1.2.2.1)), (8, .raw (.int .u64 p.1.2.2.2)), (14, .ns .u64 v), (15, .raw (.int .i64 (v.length : Nat))), (16, .raw (.int .i64 (p.1.1 : Nat)))], [(67, ⟨true, .n .u64 p.1.2.1⟩)]⟩)
    (fun p => v.length - p.1.1) ⟨(0, u, 0, 0), by dsimp only; omega, hl, hu, by dsimp only; omega, by dsimp only; omega, by simp [nb, nv]⟩ (Le.mk trivial) ?_
  rintro ⟨⟨i, w, b, c⟩, hI⟩
  dsimp only at hI ⊢
  have hwl := hI.hl
  have hb := hI.hb
  have hc := hI.hc
  have h1 := lim64 hv i
  have h2 := lim64 hI.hd i
  by_cases hi : i < v.length
  · obtain ⟨m1, m2, m3⟩ := mc_spec h1 ⟨hg0, hg1⟩ hc
    have hst := hI.step hv ⟨hg0, hg1⟩ hi rfl rfl
    have hp := mul_bd (M := 18446744073709551615) (N := 18446744073709551615) h1.1 hg0 (by omega) (by omega)
    unfold mcLo at m1 m2 hst
    unfold mcHi at m1 m3 hst
    obtain ⟨b', hb'⟩ : ∃ b' : Int, (if w.getD i 0 < (v.getD i 0 * g % 18446744073709551616 + c) % 18446744073709551616 + b then 1 else 0) = b' := ⟨_, rfl⟩
    obtain ⟨c', hc'⟩ : ∃ c' : Int, v.getD i 0 * g / 18446744073709551616 + (v.getD i 0 * g % 18446744073709551616 + c) / 18446744073709551616 = c' := ⟨_, rfl⟩
    obtain ⟨w', hw'⟩ : ∃ w' : List Int, w.set i ((w.getD i 0 - (v.getD i 0 * g % 18446744073709551616 + c) % 18446744073709551616 - b) % 18446744073709551616) = w' := ⟨_, rfl⟩
    rw [hb', hc', hw'] at hst
    refine wk hE (And.intro (show (i : Int) < v.length by omega) (And.intro hb' (And.intro hc' hw'))) ?_
    exact ⟨⟨(i + 1, w', b', c'), hst⟩, Le.mk trivial, by dsimp only; omega⟩
  · have hil : i = v.length := by have := hI.hi; omega
    subst hil
    obtain ⟨d1, d2, d3⟩ := hI.done rfl
    have hlt := nb_lt d2 (Nat.le_of_eq d1)
    by_cases hb2 : w.getD v.length 0 < c + b
    · rw [if_pos hb2, Nat.mul_one] at d3
      have hlt2 : nb u < g.toNat * nb v := by omega
      refine wk hE (And.intro (show ¬ (v.length : Int) < v.length by omega) hb2) ?_
      refine PostM.mk trivial ?_ ?_
      · rw [decide_eq_true hlt2]
      · exact eq_fixd64 d2 d1 (by rw [if_pos hlt2]; omega)
    · rw [if_neg hb2, Nat.mul_zero] at d3
      have hlt2 : ¬ nb u < g.toNat * nb v := by omega
      refine wk hE (And.intro (show ¬ (v.length : Int) < v.length by omega) hb2) ?_
      refine PostM.mk trivial ?_ ?_
      · rw [decide_eq_false hlt2]
      · exact eq_fixd64 d2 d1 (by rw [if_neg hlt2]; omega)
@[push_cast] def spGives : Sp := spNN 2 (fun u v => Lim B64 u ∧ Lim B64 v ∧ u.length = v.length + 1 ∧ v.length < 1000000000)
  (fun u v => .tup [.tup [], .ns .u64 (fixd B64 (v.length + 1) ((nb u + nb v) % B64 ^ (v.length + 1)))])
theorem gives_ok : SpOK Tryz.prog 107 spGives := by
  refine SpOK.NNm fun u v ⟨hu, hv, hl, hvl⟩ => ?_
  have hE := envM (SOK.cons add64_ok (SOK.nil (P := Tryz.prog)))
  refine MCall.body hE Tryz.func107 Tryz.ntmps107 (rs := []) rfl (by rw [fixd_length, hl]) ?_
  rw [hl]
  refine wk hE trivial ?_
  refine AWp.loop (ι := {p : Nat × List Int × Int // GiveI u v p.2.1 p.1 p.2.2}) (fun p => ⟨[(0, .os 36 1 0 (v.length + 1)), (1, .ns .u64 v), (4, .raw (.int .u64 p.1.2.2)), (7, .ns .u64 v), (8, .raw (.int .i64 (v.length : Nat))), (9, .raw (.int .i64 (p.1.1 : Nat)))], [(36, ⟨true, .n .u64 p.1.2.1⟩)]⟩)
    (fun p => v.length - p.1.1) ⟨(0, u, 0), by dsimp only; omega, hl, hu, by dsimp only; omega, by simp [nb, nv]⟩ (Le.mk trivial) ?_
  rintro ⟨⟨i, w, c⟩, hI⟩
  dsimp only at hI ⊢
  have hwl := hI.hl
  have hc := hI.hc
  have h1 := lim64 hv i
  have h2 := lim64 hI.hd i
  by_cases hi : i < v.length
  · have hst := hI.step hv hi rfl rfl
    refine wk hE (show (i : Int) < v.length by omega) ?_
    exact ⟨⟨(i + 1, _, _), hst⟩, Le.mk trivial, by dsimp only; omega⟩
  · have hil : i = v.length := by have := hI.hi; omega
    subst hil
    obtain ⟨d1, d2, d3⟩ := hI.done rfl
    have hwr : IntKind.u64.wrap (w.getD v.length 0 + c) = (w.getD v.length 0 + c) % 18446744073709551616 := IntKind.wrap_u64 _
    refine wk hE (And.intro (show ¬ (v.length : Int) < v.length by omega) hwr) ?_
    have hlt := nb_lt d2 (Nat.le_of_eq d1)
    refine PostM.mk trivial rfl ?_
    refine eq_fixd64 d2 d1 ?_
    rw [← d3, Nat.add_mul_mod_self_left, Nat.mod_eq_of_lt hlt]
end Go.Hl

namespace Go.Hl
open Go Go.RowKit Go.Proofs
set_option maxHeartbeats 4000000
@[push_cast] def spDigit : Sp := spNN 2 (fun u v => DigP u v ∧ v.length < 1000000000) (fun u v => .tup [.raw (.int .u64 ((nb u / nb v : Nat) : Int)), .ns .u64 (fixd B64 (v.length + 1) (nb u % nb v))])
theorem DigP.vlt {u v : List Int} (h : DigP u v) : nb v < B64 ^ v.length := nb_lt h.hv (Nat.le_refl _)
theorem digit_ok : SpOK Tryz.prog 104 spDigit := by
  refine SpOK.NNm fun u v ⟨hP, hvl⟩ => ?_
  have hE := envM (SOK.cons div64_ok (SOK.cons mul64_ok (SOK.cons takes_ok (SOK.cons gives_ok (SOK.nil (P := Tryz.prog))))))
  have hl := hP.hl
  have h2 := hP.h2
  have hu := hP.hu
  have hv := hP.hv
  refine MCall.body hE Tryz.func104 Tryz.ntmps104 Tryz.results104 (by rw [fixd_length, hl]) ?_
  rw [hl]
  have t1 : ((v.length : Int) - 1).toNat = v.length - 1 := by omega
  have t2 : ((v.length : Int) - 2).toNat = v.length - 2 := by omega
  have l1 := lim64 hu v.length
  have l2 := lim64 hu (v.length - 1)
  have l3 := lim64 hv (v.length - 1)
  have l4 := lim64 hu (v.length - 2)
  have l5 := lim64 hv (v.length - 2)
  refine wk hE trivial ?_
  refine AWp.join (ι := {g : Int // (0 ≤ g ∧ g < 18446744073709551616) ∧ nb u / nb v ≤ g.toNat ∧ g.toNat ≤ nb u / nb v + 2}) (fun g => ⟨[(0, .os 110 1 0 (v.length + 1)), (1, .ns .u64 v), (5, .raw (.int .i64 (v.length : Nat))), (6, .raw (.int .u64 g.1))], [(110, ⟨true, .n .u64 u⟩)]⟩) ?_ ?_
  · refine AWp.test trivial (fun h => ?_) (fun h => ?_)
    · have hlt := of_decide_eq_true h
      have hst := GuessI.start hP hlt
      have hrl := Int.emod_lt_of_pos (u.getD v.length 0 * 18446744073709551616 + u.getD (v.length - 1) 0) (show 0 < v.getD (v.length - 1) 0 by omega)
      obtain ⟨g0, hg0⟩ : ∃ x, (u.getD v.length 0 * 18446744073709551616 + u.getD (v.length - 1) 0) / v.getD (v.length - 1) 0 = x := ⟨_, rfl⟩
      obtain ⟨r0, hr0⟩ : ∃ x, (u.getD v.length 0 * 18446744073709551616 + u.getD (v.length - 1) 0) % v.getD (v.length - 1) 0 = x := ⟨_, rfl⟩
      rw [hg0, hr0] at hst
      rw [hr0] at hrl
      refine wk hE (And.intro hg0 hr0) ?_
      refine AWp.joinB (ι := {g : Int // (0 ≤ g ∧ g < 18446744073709551616) ∧ nb u / nb v ≤ g.toNat ∧ g.toNat ≤ nb u / nb v + 2}) (fun g => ⟨[(0, .os 110 1 0 (v.length + 1)), (1, .ns .u64 v), (5, .raw (.int .i64 (v.length : Nat))), (7, .raw (.int .u64 g.1))], [(110, ⟨true, .n .u64 u⟩)]⟩) ?_ ?_
      · refine AWp.loop (ι := {p : Int × Int // GuessI u v p.1 p.2 ∧ p.2 < 18446744073709551616}) (fun p => ⟨[(0, .os 110 1 0 (v.length + 1)), (1, .ns .u64 v), (5, .raw (.int .i64 (v.length : Nat))), (7, .raw (.int .u64 p.1.1)), (8, .raw (.int .u64 p.1.2))], [(110, ⟨true, .n .u64 u⟩)]⟩) (fun p => p.1.1.toNat) ⟨(g0, r0), hst, by dsimp only; omega⟩ (Le.mk trivial) ?_
        clear hg0 hr0 hst hrl hlt h g0 r0
        rintro ⟨⟨g, r⟩, hG, hr⟩
        dsimp only at hG hr ⊢
        have hg := hG.hg
        have hr0 := hG.hr
        have he := hG.he
        have hm := mul_bd (M := 18446744073709551615) (N := 18446744073709551615) hg.1 l5.1 (by omega) (by omega)
        have hout : (0 ≤ g ∧ g < 18446744073709551616) ∧ nb u / nb v ≤ g.toNat ∧ g.toNat ≤ nb u / nb v + 2 := ⟨hg, hG.hq, hP.le2 hg (by omega)⟩
        by_cases c1 : g * v.getD (v.length - 2) 0 / 18446744073709551616 < r
        · refine wk hE (And.intro t2 c1) ?_
          exact ⟨⟨g, hout⟩, Le.mk trivial⟩
        by_cases c2 : g * v.getD (v.length - 2) 0 / 18446744073709551616 = r
        · by_cases c3 : g * v.getD (v.length - 2) 0 % 18446744073709551616 ≤ u.getD (v.length - 2) 0
          · have e2 : (g * v.getD (v.length - 2) 0 / 18446744073709551616 == r) = true := by rw [c2]; exact beq_self_eq_true _
            refine wk hE (And.intro c1 (And.intro e2 (And.intro t2 c3))) ?_
            exact ⟨⟨g, hout⟩, Le.mk trivial⟩
          · have e2 : (g * v.getD (v.length - 2) 0 / 18446744073709551616 == r) = true := by rw [c2]; exact beq_self_eq_true _
            have hgt : r * 18446744073709551616 + u.getD (v.length - 2) 0 < g * v.getD (v.length - 2) 0 := by omega
            have hst := hG.step hP hr hgt
            have hs1 := hst.hg
            have hs2 := hP.le2 hst.hg (by have := hst.he; have := hst.hr; omega)
            by_cases c4 : r + v.getD (v.length - 1) 0 < 18446744073709551616
            · refine wk hE (And.intro c1 (And.intro e2 (And.intro t2 (And.intro c3 (And.intro t1 (show ¬ r + v.getD (v.length - 1) 0 < r by omega)))))) ?_
              exact ⟨⟨(g - 1, r + v.getD (v.length - 1) 0), hst, c4⟩, Le.mk trivial, by dsimp only; omega⟩
            · have hwr : IntKind.u64.wrap (r + v.getD (v.length - 1) 0) = r + v.getD (v.length - 1) 0 - 18446744073709551616 := by rw [IntKind.wrap_u64]; omega
              refine wk hE (And.intro c1 (And.intro e2 (And.intro t2 (And.intro c3 (And.intro t1 (And.intro hwr (show r + v.getD (v.length - 1) 0 - 18446744073709551616 < r by omega))))))) ?_
              exact ⟨⟨g - 1, hs1, hst.hq, hs2⟩, Le.mk trivial⟩
        · have e2 : (g * v.getD (v.length - 2) 0 / 18446744073709551616 == r) = false := by rw [beq_eq_false_iff_ne]; exact c2
          have hgt : r * 18446744073709551616 + u.getD (v.length - 2) 0 < g * v.getD (v.length - 2) 0 := by omega
          have hst := hG.step hP hr hgt
          have hs1 := hst.hg
          have hs2 := hP.le2 hst.hg (by have := hst.he; have := hst.hr; omega)
          by_cases c4 : r + v.getD (v.length - 1) 0 < 18446744073709551616
          · refine wk hE (And.intro c1 (And.intro e2 (And.intro t2 (And.intro t1 (show ¬ r + v.getD (v.length - 1) 0 < r by omega))))) ?_
            exact ⟨⟨(g - 1, r + v.getD (v.length - 1) 0), hst, c4⟩, Le.mk trivial, by dsimp only; omega⟩
          · have hwr : IntKind.u64.wrap (r + v.getD (v.length - 1) 0) = r + v.getD (v.length - 1) 0 - 18446744073709551616 := by rw [IntKind.wrap_u64]; omega
            refine wk hE (And.intro c1 (And.intro e2 (And.intro t2 (And.intro t1 (And.intro hwr (show r + v.getD (v.length - 1) 0 - 18446744073709551616 < r by omega)))))) ?_
            exact ⟨⟨g - 1, hs1, hst.hq, hs2⟩, Le.mk trivial⟩
      · rintro ⟨g, hg⟩
        dsimp only
        refine wk hE trivial ?_
        exact ⟨⟨g, hg⟩, Le.mk trivial⟩
    · have hge := of_decide_eq_false h
      obtain ⟨m1, m2⟩ := hP.max hge
      refine wk hE trivial ?_
      exact ⟨⟨18446744073709551615, by decide, m1, m2⟩, Le.mk trivial⟩
  rintro ⟨g, hg, hg1, hg2⟩
  dsimp only
  obtain ⟨M, hM⟩ : ∃ M, B64 ^ (v.length + 1) = M := ⟨_, rfl⟩
  obtain ⟨V, hV⟩ : ∃ V, nb v = V := ⟨_, rfl⟩
  obtain ⟨U, hU⟩ : ∃ U, nb u = U := ⟨_, rfl⟩
  obtain ⟨Q, hQ⟩ : ∃ Q, U / V = Q := ⟨_, rfl⟩
  obtain ⟨R, hR⟩ : ∃ R, U % V = R := ⟨_, rfl⟩
  have hVpos := hP.pos
  have hVlt := hP.vlt
  have hUM : nb u < B64 ^ (v.length + 1) := nb_lt hu (by omega)
  have hMW : B64 ^ (v.length + 1) = B64 ^ v.length * 18446744073709551616 := rfl
  have hQlt := hP.div_lt
  have hdm := Nat.div_add_mod U V
  have hRlt := Nat.mod_lt U (show 0 < V by omega)
  rw [hM] at hUM hMW
  rw [hV] at hVpos hVlt hg1 hg2 hQlt
  rw [hU] at hUM hg1 hg2 hQlt
  rw [hQ] at hg1 hg2 hQlt hdm
  rw [hR] at hdm hRlt
  obtain ⟨g, rfl⟩ := Int.eq_ofNat_of_zero_le hg.1
  rw [Int.toNat_natCast] at hg1 hg2
  rw [hU, hV, hQ, hR]
  have hn2 : ∀ n, n < M → nb (fixd B64 (v.length + 1) n) = n := fun n hn => nv_fixd (by decide) _ _ (by rw [hM]; exact hn)
  have hlim : ∀ n, Lim B64 (fixd B64 (v.length + 1) n) := fun n => lim_fixd (by decide) _ _
  by_cases hc : U < g * V
  · obtain ⟨n1, hn1⟩ : ∃ n1, U + M - g * V = n1 := ⟨_, rfl⟩
    have hgV : g * V ≤ U + 2 * V := by
      have : g * V ≤ (Q + 2) * V := Nat.mul_le_mul_right _ hg2
      rw [Nat.add_mul, Nat.mul_comm Q] at this
      omega
    have hn1M : n1 < M := by omega
    have e1 : n1 + g * V = U + M := by omega
    obtain ⟨n2, hn2e⟩ : ∃ n2, (n1 + V) % M = n2 := ⟨_, rfl⟩
    have hn2M : n2 < M := by rw [← hn2e]; exact Nat.mod_lt _ (by omega)
    have e2 : n2 + M * ((n1 + V) / M) = n1 + V := by rw [← hn2e, Nat.mod_add_div]
    have hk : (n1 + V) / M ≤ 1 := by
      refine Nat.le_of_lt_succ ((Nat.div_lt_iff_lt_mul (by omega)).2 ?_)
      omega
    have key := take_some e1 hVpos hQ.symm hg2 hn1M e2 hk hn2M
    rw [hR] at key
    have hnb1 := hn2 n1 hn1M
    have hl1 := hlim n1
    have hf1 := fixd_length B64 (v.length + 1) n1
    obtain ⟨g', rfl⟩ : ∃ g', g = g' + 1 := ⟨g - 1, by omega⟩
    have hc' : U < (g' + 1) * V := hc
    refine wk hE (And.intro hM (And.intro hV (And.intro hU (And.intro (eq_true hc) (And.intro hn1 (And.intro hnb1 hn2e)))))) ?_
    refine AWp.loop (ι := {p : Nat × Nat // (p.1 = Q ∧ p.2 = R) ∨ (p.1 = Q + 1 ∧ p.2 + V = M + R)}) (fun p => ⟨[(0, .os 110 1 0 (v.length + 1)), (1, .ns .u64 v), (5, .raw (.int .i64 (v.length : Nat))), (6, .raw (.int .u64 (p.1.1 : Nat)))], [(110, ⟨true, .n .u64 (fixd B64 (v.length + 1) p.1.2)⟩)]⟩) (fun p => p.1.1) ⟨(g', n2), by dsimp only; omega⟩ (Le.mk trivial) ?_
    rintro ⟨⟨q, n⟩, hqn⟩
    dsimp only at hqn ⊢
    have hnM : n < M := by omega
    have hnbn := hn2 n hnM
    have hln := hlim n
    have hfl : (fixd B64 (v.length + 1) n).length = v.length + 1 := fixd_length ..
    rcases hqn with ⟨rfl, rfl⟩ | ⟨rfl, hn⟩
    · have htop := top_zero hln hfl (by rw [hnbn]; omega)
      refine wk hE htop ?_
      refine PostM.mk trivial rfl rfl
    · have htop := top_max hln hfl (by rw [hnbn]; omega)
      have hne : (n + V) % M = R := by rw [hn, Nat.add_mod_left, Nat.mod_eq_of_lt (by omega)]
      refine wk hE (And.intro htop (And.intro hM (And.intro hV (And.intro hnbn hne)))) ?_
      exact ⟨⟨(Q, R), .inl ⟨rfl, rfl⟩⟩, Le.mk trivial, by dsimp only; omega⟩
  · obtain ⟨hgq, hgr⟩ := take_none (n1 := U - g * V) (by omega) hVpos hQ.symm hg1
    rw [hR] at hgr
    refine wk hE (And.intro hM (And.intro hV (And.intro hU (And.intro (eq_false hc) hgr)))) ?_
    refine PostM.mk trivial ?_ rfl
    rw [hgq]
end Go.Hl

namespace Go.Hl
open Go Go.RowKit Go.Proofs
set_option maxHeartbeats 4000000
@[push_cast] def spShort : Sp := spNU 0 (fun a b => Lm a ∧ a.length < 1000000000 ∧ 0 < b ∧ b < 18446744073709551616)
  (fun a b => .tup [.ns .u64 (dg (nb a / b.toNat)), .ns .u64 (dg (nb a % b.toNat)), .raw (.bool true)])
theorem short_ok : SpOK Tryz.prog 88 spShort := by
  refine SpOK.NU fun a b ⟨ha, hal, hb0, hb1⟩ => ?_
  have hE := env (SOK.cons trim_ok (SOK.cons div64_ok (SOK.nil (P := Tryz.prog))))
  refine ACall.body hE Tryz.func88 Tryz.ntmps88 Tryz.results88 ?_
  refine wk hE trivial ?_
  refine AWp.loop (ι := {p : Nat × List Int × Int // ShortI a p.2.1 b p.2.2 p.1}) (fun p => ⟨[(0, .ns .u64 a), (1, .raw (.int .u64 b)), (7, .os 12 1 0 a.length), (8, .raw (.int .u64 p.1.2.2)), (9, .raw (.int .i64 ((p.1.1 : Int) - 1)))], [(12, ⟨true, .n .u64 p.1.2.1⟩)]⟩)
    (fun p => p.1.1) ⟨(a.length, List.replicate a.length 0, 0), by dsimp only; omega, by simp, Lim.zeros (by decide) _, by dsimp only; omega, ?_⟩ (Le.mk trivial) ?_
  · dsimp only
    rw [List.drop_length, List.drop_of_length_le (by simp)]
    simp [nb, nv]
  rintro ⟨⟨n, q, r⟩, hI⟩
  dsimp only at hI ⊢
  have hql := hI.hl
  have hn := hI.hn
  have hr := hI.hr
  cases n with
  | succ n =>
    have h1 := lim64 ha.1 n
    have hst := hI.step ha.1 hb1 rfl
    obtain ⟨d, hd⟩ : ∃ d, (r * 18446744073709551616 + a.getD n 0) / b = d := ⟨_, rfl⟩
    obtain ⟨m, hm⟩ : ∃ m, (r * 18446744073709551616 + a.getD n 0) % b = m := ⟨_, rfl⟩
    rw [hd, hm] at hst
    refine wk hE (And.intro hd hm) ?_
    exact ⟨⟨(n, q.set n d, m), hst⟩, Le.mk trivial, by dsimp only; omega⟩
  | zero =>
    obtain ⟨d1, d2⟩ := hI.done
    have hlm : Lm q := ⟨hI.hd, by omega⟩
    have hl1 : Lm [r] := ⟨Lim.cons (by rw [hB64]; omega) Lim.nil, by simp⟩
    have hn1 : nb [r] = nb a % b.toNat := by rw [← d2]; simp [nb, nv]
    refine wk hE (And.intro d1 hn1) ?_
    exact PostL.mk trivial rfl
@[push_cast] def spLong : Sp := spNN 0 (fun a b => Lm a ∧ a.length < 100000000 ∧ Lm b ∧ Top b ∧ 2 ≤ b.length ∧ b.length ≤ a.length)
  (fun a b => .tup [.ns .u64 (dg (nb a / nb b)), .ns .u64 (dg (nb a % nb b)), .raw (.bool true)])
theorem sh_small {n : Nat} (h : n ≤ 8192) : sh (n : Int) = n := by unfold sh; split <;> split <;> omega
theorem splice_spl (xs ys : List Int) (off len : Nat) : splice xs ys off len = spl xs ys off len := rfl
theorem long_ok : SpOK Tryz.prog 89 spLong := by
  refine SpOK.NN fun a b ⟨ha, hal, hb, hbt, hb2, hba⟩ => ?_
  have hE := env (SOK.cons trim_ok (SOK.cons lead64_ok (SOK.cons shl_ok (SOK.cons shr_ok (SOK.cons digit_ok (SOK.nil (P := Tryz.prog)))))))
  obtain ⟨n, hn⟩ : ∃ n, b.length = n := ⟨_, rfl⟩
  obtain ⟨la, hla⟩ : ∃ la, a.length = la := ⟨_, rfl⟩
  obtain ⟨A, hA⟩ : ∃ A, nb a = A := ⟨_, rfl⟩
  obtain ⟨B, hB⟩ : ∃ B, nb b = B := ⟨_, rfl⟩
  have hAlt : A < B64 ^ la := by rw [← hA]; exact nb_lt ha.1 (by omega)
  have l1 := lim64 hb.1 (n - 1)
  have htop : b.getD (n - 1) 0 ≠ 0 := by
    rcases hbt with h | h
    · rw [h] at hb2; simp at hb2
    · rwa [hn] at h
  obtain ⟨t, ht⟩ : ∃ t, b.getD (n - 1) 0 = t := ⟨_, rfl⟩
  rw [ht] at l1 htop
  obtain ⟨s1, s2, s3⟩ := norm_shift (y := t.toNat) (by omega) (by omega)
  obtain ⟨s, hs⟩ : ∃ s, 64 - blen t.toNat = s := ⟨_, rfl⟩
  rw [hs] at s1 s2 s3
  have hsh : sh (s : Int) = s := sh_small (by omega)
  obtain ⟨v1, v2, v3, v4, v5⟩ := long_start (A := A) hb.1 hn (by omega) hB hAlt (by omega) s3 (by rw [ht]; exact s1) (by rw [ht]; exact s2)
  obtain ⟨v, hv⟩ : ∃ v, dg (B * 2 ^ s) = v := ⟨_, rfl⟩
  obtain ⟨y, hy⟩ : ∃ y, dg (A * 2 ^ s) = y := ⟨_, rfl⟩
  have hvl : Lim B64 v := by rw [← hv]; exact lim_digs (by decide) _
  have hyl : Lim B64 y := by rw [← hy]; exact lim_digs (by decide) _
  have hvn : nb v = B * 2 ^ s := by rw [← hv]; exact nb_dg _
  have hyn : nb y = A * 2 ^ s := by rw [← hy]; exact nb_dg _
  rw [hv] at v1 v2
  rw [hy] at v3
  have hu : splice (List.replicate (la + 1) 0) y 0 (min (la + 1) y.length) = fixd B64 (la + 1) (A * 2 ^ s) := by
    have hm : min (la + 1) y.length = y.length := Nat.min_eq_right v3
    have h0 : splice (List.replicate (la + 1) 0) y 0 (min (la + 1) y.length) = y ++ List.replicate (la + 1 - y.length) 0 := by
      rw [hm]; simp [splice]
    rw [h0]
    refine eq_fixd64 (hyl.append (Lim.zeros (by decide) _)) (by simp; omega) ?_
    rw [nb_app, nb_zeros, Nat.mul_zero, Nat.add_zero, hyn]
  have hu2 : y ++ List.drop y.length (List.replicate (la + 1) 0) = fixd B64 (la + 1) (A * 2 ^ s) := by
    rw [← hu, Nat.min_eq_right v3]; simp [splice]
  have hq : ((la : Int) + 1 - (n : Int)).toNat = la + 1 - n := by omega
  have hlb : Lm b := hb
  refine ACall.body hE Tryz.func89 Tryz.ntmps89 Tryz.results89 ?_
  rw [hA, hB]
  refine wk hE (And.intro hn (And.intro hla (And.intro ht (And.intro hs (And.intro hsh (And.intro hA (And.intro hB (And.intro hv (And.intro hy (And.intro hu2 (And.intro v1 hq))))))))))) ?_
  obtain ⟨V, hV⟩ : ∃ V, B * 2 ^ s = V := ⟨_, rfl⟩
  rw [hV] at v4 v5 hvn
  have hVlt : V < B64 ^ n := by rw [← hvn]; exact nb_lt hvl (by omega)
  refine AWp.loop (ι := {p : Nat × List Int × List Int // LongI (A * 2 ^ s) V n la p.2.1 p.2.2 p.1}) (fun p => ⟨[(7, .raw (.int .i64 (s : Nat))), (8, .ns .u64 v), (9, .os 26 1 0 (la + 1)), (10, .raw (.int .i64 (n : Nat))), (11, .os 38 1 0 (la + 1 - n)), (12, .raw (.int .i64 ((p.1.1 : Int) - 1)))], [(38, ⟨true, .n .u64 p.1.2.1⟩), (26, ⟨true, .n .u64 p.1.2.2⟩)]⟩)
    (fun p => p.1.1) ⟨(la + 1 - n, _, _), v4⟩ (Le.mk trivial) ?_
  rintro ⟨⟨m, q, u⟩, hI⟩
  dsimp only at hI ⊢
  have hm := hI.hm
  have hql := hI.hq
  have hul := hI.hu
  cases m with
  | succ m =>
    obtain ⟨hD, hW⟩ := hI.window hvl v1 hvn (by omega) v2
    obtain ⟨W, hWe⟩ : ∃ W, nb ((u.drop m).take (n + 1)) = W := ⟨_, rfl⟩
    have hst := hI.step v5 hVlt (by omega) hWe (by rw [← hW]; exact hWe) (by have := hD.div_lt; rw [hWe, hvn] at this; exact this)
    obtain ⟨u', hu'⟩ : ∃ u', spl u (fixd B64 (n + 1) (W % V)) m (n + 1) = u' := ⟨_, rfl⟩
    obtain ⟨d, hd⟩ : ∃ d, W / V = d := ⟨_, rfl⟩
    rw [hu', hd] at hst
    have hd' : (W : Int) / (V : Int) = (d : Int) := by rw [← hd, Int.natCast_ediv]
    unfold spl at hu'
    have hcut : ((m : Int) + (n : Int) + 1 - (m : Int)).toNat = n + 1 := by omega
    refine wk hE (And.intro hcut (And.intro v1 (And.intro hWe (And.intro hvn (And.intro hd' hu'))))) ?_
    exact ⟨⟨(m, q.set m (d : Int), u'), hst⟩, Le.mk trivial, by dsimp only; omega⟩
  | zero =>
    obtain ⟨d1, d2⟩ := hI.done
    have hp : 0 < 2 ^ s := Nat.two_pow_pos s
    have e1 : nb q = A / B := by rw [d1, ← hV, Nat.mul_div_mul_right _ _ hp]
    have e2 : nb u / 2 ^ s = A % B := by rw [d2, ← hV, Nat.mul_mod_mul_right, Nat.mul_div_cancel _ hp]
    have hq1 : Lm q := ⟨hI.hql, by omega⟩
    have hu1 : Lm u := ⟨hI.hul, by omega⟩
    refine wk hE (And.intro e1 (And.intro e2 hsh)) ?_
    exact PostL.mk trivial rfl
end Go.Hl

namespace Go.Hl
open Go Go.RowKit Go.Proofs
set_option maxHeartbeats 4000000
def rm (a b : Nat) : Nat := if b = 0 then 0 else a % b
@[push_cast] def spDivMod : Sp := spNN 0 (fun xs ys => Lm xs ∧ Lm ys ∧ xs.length < 100000000 ∧ ys.length < 100000000)
  (fun xs ys => .tup [.ns .u64 (dg (nb xs / nb ys)), .ns .u64 (dg (rm (nb xs) (nb ys))), .raw (.bool (decide (nb ys ≠ 0)))])
theorem dg_zero : dg 0 = [] := digs_zero
theorem dg_nil {n : Nat} : dg n = [] ↔ n = 0 := digs_eq_nil (by decide)
theorem divmod_ok : SpOK Tryz.prog 69 spDivMod := by
  refine SpOK.NN fun xs ys ⟨hx, hy, hxl, hyl⟩ => ?_
  have hE := env (SOK.cons trim_ok (SOK.cons cmp_ok (SOK.cons clone_ok (SOK.cons short_ok (SOK.cons long_ok (SOK.nil (P := Tryz.prog)))))))
  have hxd := dg_len_lt hx hxl
  have hyd := dg_len_lt hy hyl
  have hA := lm_dg (n := nb xs) (by omega)
  have hB := lm_dg (n := nb ys) (by omega)
  have tA : Top (dg (nb xs)) := top_digs (by decide) _
  have tB : Top (dg (nb ys)) := top_digs (by decide) _
  have lt1 := dg_lt_of_len (a := nb xs) (b := nb ys)
  have eA := nb_dg (nb xs)
  have eB := nb_dg (nb ys)
  have z1 := dg_nil (n := nb ys)
  refine ACall.body hE Tryz.func69 Tryz.ntmps69 Tryz.results69 ?_
  obtain ⟨A, xA⟩ : ∃ A, nb xs = A := ⟨_, rfl⟩
  obtain ⟨B, yB⟩ : ∃ B, nb ys = B := ⟨_, rfl⟩
  rw [xA] at hxd hA tA lt1 eA
  rw [yB] at hyd hB tB lt1 eB z1
  rw [xA, yB]
  by_cases hB0 : B = 0
  · subst hB0
    refine wk hE (And.intro xA (And.intro yB dg_zero)) ?_
    refine PostL.mk trivial ?_
    simp [rm, dg_zero]
  have hBn : dg B ≠ [] := fun h => hB0 (z1.1 h)
  have hBl : 0 < (dg B).length := List.length_pos_iff.2 hBn
  have hr : rm A B = A % B := if_neg hB0
  rw [hr, decide_eq_true hB0]
  obtain ⟨n, hn⟩ : ∃ n, (dg B).length = n := ⟨_, rfl⟩
  obtain ⟨b, hb⟩ : ∃ b, dg B = b := ⟨_, rfl⟩
  obtain ⟨a, ha⟩ : ∃ a, dg A = a := ⟨_, rfl⟩
  have q1 : (((dg B).length : Int) == 0) = false := by rw [beq_eq_false_iff_ne]; omega
  rw [hn] at q1 hBl hyd
  have hn' : b.length = n := by rw [← hb]; exact hn
  rw [hb] at hB tB eB lt1
  rw [ha] at hA tA eA lt1 hxd
  by_cases hlt : A < B
  · have c1 : cmpI A B = -1 := by unfold cmpI; rw [if_pos hlt]
    have hq : A / B = 0 := Nat.div_eq_of_lt hlt
    have hm : A % B = A := Nat.mod_eq_of_lt hlt
    rw [hq, hm, dg_zero, ha]
    refine wk hE (And.intro xA (And.intro yB (And.intro hb (And.intro ha (And.intro eA (And.intro eB (And.intro hn' (And.intro q1 c1)))))))) ?_
    exact PostL.mk trivial rfl
  have c1 : ¬ cmpI A B < 0 := by unfold cmpI; rw [if_neg hlt]; split <;> decide
  by_cases h1 : n = 1
  · subst h1
    obtain ⟨x, rfl⟩ : ∃ x, b = [x] := List.length_eq_one_iff.1 hn'
    have hx := hB.1.head
    rw [hB64] at hx
    have hB1 : B = x.toNat := by rw [← eB]; simp [nb, nv]
    refine wk hE (And.intro xA (And.intro yB (And.intro hb (And.intro ha (And.intro eA (And.intro eB (And.intro (show ((1 : Int) == 0) = false from rfl) (And.intro c1 (show ((1 : Int) == 1) = true from rfl))))))))) ?_
    refine PostL.mk trivial ?_
    rw [hB1]
  · have q2 : ((n : Int) == 1) = false := by rw [beq_eq_false_iff_ne]; omega
    have hle : b.length ≤ a.length := by omega
    refine wk hE (And.intro xA (And.intro yB (And.intro hb (And.intro ha (And.intro eA (And.intro eB (And.intro hn' (And.intro q1 (And.intro c1 q2))))))))) ?_
    exact PostL.mk trivial rfl
@[push_cast] def spGcd : Sp := spNN 0 (fun xs ys => Lm xs ∧ Lm ys ∧ xs.length < 100000000 ∧ ys.length < 100000000) (fun xs ys => .ns .u64 (dg (Nat.gcd (nb xs) (nb ys))))
theorem gcd_ok : SpOK Tryz.prog 68 spGcd := by
  refine SpOK.NN fun xs ys ⟨hx, hy, hxl, hyl⟩ => ?_
  have hE := env (SOK.cons norm_ok (SOK.cons divmod_ok (SOK.nil (P := Tryz.prog))))
  have hxd := dg_len_lt hx hxl
  have hyd := dg_len_lt hy hyl
  have hA := lm_dg (n := nb xs) (by omega)
  have hB := lm_dg (n := nb ys) (by omega)
  refine ACall.body hE Tryz.func68 Tryz.ntmps68 Tryz.results68 ?_
  obtain ⟨A, xA⟩ : ∃ A, nb xs = A := ⟨_, rfl⟩
  obtain ⟨B, yB⟩ : ∃ B, nb ys = B := ⟨_, rfl⟩
  rw [xA] at hxd hA
  rw [yB] at hyd hB
  rw [xA, yB]
  refine wk hE (And.intro xA yB) ?_
  refine AWp.give 0 trivial ?_
  refine AWp.give 1 trivial ?_
  refine AWp.loop (ι := {p : Nat × Nat // Nat.gcd p.1 p.2 = Nat.gcd A B ∧ Lm (dg p.1) ∧ Lm (dg p.2) ∧ (dg p.1).length < 100000000 ∧ (dg p.2).length < 100000000}) (fun p => ⟨[(0, .ns .u64 (dg p.1.1)), (1, .ns .u64 (dg p.1.2))], []⟩) (fun p => p.1.2) ⟨(A, B), rfl, hA, hB, hxd, hyd⟩ (Le.mk trivial) ?_
  rintro ⟨⟨a, b⟩, hg, ha, hb, hal, hbl⟩
  dsimp only at hg ha hb hal hbl ⊢
  by_cases hb0 : b = 0
  · subst hb0
    refine wk hE dg_zero ?_
    refine PostL.mk trivial ?_
    rw [← hg, Nat.gcd_zero_right]
  · have hbn : dg b ≠ [] := fun h => hb0 (dg_nil.1 h)
    have hl : 0 < (dg b).length := List.length_pos_iff.2 hbn
    have hr : rm a b = a % b := if_neg hb0
    have hrl : (dg (a % b)).length ≤ (dg b).length := (digs_length_le (by decide) _ _).2 (Nat.lt_trans (Nat.mod_lt a (by omega)) ((digs_length_le (B := B64) (by decide) b _).1 (Nat.le_refl _)))
    refine wk hE (And.intro hr (show (0 : Int) < (dg b).length by omega)) ?_
    exact ⟨⟨(b, a % b), by dsimp only; rw [← hg, Nat.gcd_comm a b, Nat.gcd_rec b a, Nat.gcd_comm], hb, lm_dg (n := a % b) (by omega), hbl, by dsimp only; omega⟩, Le.mk trivial, Nat.mod_lt a (by omega)⟩
end Go.Hl

/- math/bits.Div64 -/
import Derived.Test.YtccbmjkhplmgnaaDoorHlPa
import Derived.Test.YtccbmjkhplmgnaaDoorHlN
set_option linter.unusedVariables false
set_option linter.unusedSimpArgs false
namespace Go.Hl
open Go Go.RowKit Go.Proofs
set_option maxHeartbeats 4000000

@[push_cast] def spDiv64 : Sp := spUUU 0 (fun h l y => 0 ≤ h ∧ h < y ∧ (0 ≤ l ∧ l < 18446744073709551616) ∧ y < 18446744073709551616)
  (fun h l y => .tup [.raw (.int .u64 ((h * 18446744073709551616 + l) / y)), .raw (.int .u64 ((h * 18446744073709551616 + l) % y))])

theorem norm_shift {y : Nat} (h0 : 0 < y) (h : y < 2 ^ 64) : 9223372036854775808 ≤ y * 2 ^ (64 - blen y) ∧ y * 2 ^ (64 - blen y) < 18446744073709551616 ∧ 64 - blen y ≤ 63 := by
  have h1 := (blen_le y (blen y)).1 (Nat.le_refl _)
  have hb : blen y ≤ 64 := (blen_le y 64).2 h
  have hb0 : blen y ≠ 0 := fun e => by rw [blen_eq_zero] at e; omega
  have h2 : ¬ y < 2 ^ (blen y - 1) := fun h' => by have := (blen_le y (blen y - 1)).2 h'; omega
  have e1 : 2 ^ blen y * 2 ^ (64 - blen y) = 18446744073709551616 := by rw [← Nat.pow_add, show blen y + (64 - blen y) = 64 by omega]
  have e2 : 2 ^ (blen y - 1) * 2 ^ (64 - blen y) = 9223372036854775808 := by rw [← Nat.pow_add, show blen y - 1 + (64 - blen y) = 63 by omega]
  refine ⟨?_, ?_, by omega⟩
  · rw [← e2]; exact Nat.mul_le_mul_right _ (by omega)
  · rw [← e1]; exact Nat.mul_lt_mul_of_pos_right h1 (Nat.two_pow_pos _)

theorem div64_ok : SpOK Tryd.prog 75 spDiv64 := by
  refine SpOK.UUU fun h l y ⟨hh, hy, hl, hy2⟩ => ?_
  have hE := env (SOK.cons lead64_ok (SOK.nil (P := Tryd.prog)))
  refine ACall.body hE Tryd.func75 Tryd.ntmps75 Tryd.results75 ?_
  have hy0 : (y == 0) = false := by rw [beq_eq_false_iff_ne]; omega
  have hle : ¬ y ≤ h := by omega
  by_cases h0 : h = 0
  · subst h0
    have hyn : y ≠ 0 := by omega
    have d1 : 0 ≤ l / y := Int.ediv_nonneg hl.1 (by omega)
    have d2 : l / y ≤ l := Int.ediv_le_self _ hl.1
    refine wk hE (And.intro hy0 (And.intro hle hyn)) ?_
    refine PostL.mk trivial ?_
    simp only [Int.zero_mul, Int.zero_add]
  have hhz : (h == 0) = false := by rw [beq_eq_false_iff_ne]; omega
  obtain ⟨Y, rfl⟩ := Int.eq_ofNat_of_zero_le (show 0 ≤ y by omega)
  obtain ⟨n1, n2, n3⟩ := norm_shift (y := Y) (by omega) (by omega)
  obtain ⟨s, hs⟩ : ∃ s, 64 - blen Y = s := ⟨_, rfl⟩
  rw [hs] at n1 n2 n3
  obtain ⟨z, hz⟩ : ∃ z : Int, z = (Y : Int) * 2 ^ s := ⟨_, rfl⟩
  have hz1 : 9223372036854775808 ≤ z ∧ z < 18446744073709551616 := by
    have : ((Y * 2 ^ s : Nat) : Int) = z := by rw [hz, Int.natCast_mul, Int.natCast_pow]; rfl
    omega
  obtain ⟨t1, t2, t3⟩ := div64_top (hi := h) (lo := l) (s := s) (by omega) hl
  have hp : (0 : Int) < 2 ^ s := Int.pow_pos (by decide)
  have hq : (0 : Int) ≤ 2 ^ (64 - s) := Int.le_of_lt (Int.pow_pos (by decide))
  have hps : (2 : Int) ^ s ≤ 18446744073709551616 := by
    have e := pow64 (r := s) (by omega)
    have h1 : (1 : Int) ≤ 2 ^ (64 - s) := Int.pow_pos (by decide)
    have := Int.mul_le_mul_of_nonneg_left h1 (Int.le_of_lt hp)
    omega
  have hhs : 0 ≤ h * 2 ^ s ∧ h * 2 ^ s + 2 ^ s ≤ z := by
    refine ⟨Int.mul_nonneg hh (by omega), ?_⟩
    have : (h + 1) * 2 ^ s ≤ (Y : Int) * 2 ^ s := Int.mul_le_mul_of_nonneg_right (by omega) (by omega)
    rw [Int.add_mul, Int.one_mul] at this
    omega
  have tn : ((64 : Int) - (s : Int)).toNat = 64 - s := by omega
  have hwz : IntKind.u64.wrap ((Y : Int) * 2 ^ s) = z := by rw [← hz]; exact wu64 (by omega) (by omega)
  have hor : bits .or .u64 (h * 2 ^ s) (l / 2 ^ (64 - s)) = h * 2 ^ s + l / 2 ^ (64 - s) :=
    or_join s _ _ hhs.1 (Int.mul_emod_left _ _) (by omega) t2 t3 (by omega)
  have hwl : IntKind.u64.wrap (l * 2 ^ s) = (l * 2 ^ s) % 18446744073709551616 := IntKind.wrap_u64 _
  obtain ⟨u1, hu1⟩ : ∃ u1, h * 2 ^ s + l / 2 ^ (64 - s) = u1 := ⟨_, rfl⟩
  obtain ⟨u0, hu0⟩ : ∃ u0, (l * 2 ^ s) % 18446744073709551616 = u0 := ⟨_, rfl⟩
  rw [hu1, hu0] at t1
  rw [hu1] at hor
  rw [hu0] at hwl
  have hu0b : 0 ≤ u0 ∧ u0 < 18446744073709551616 := by omega
  obtain ⟨z1, hz1e⟩ : ∃ z1, z / 4294967296 = z1 := ⟨_, rfl⟩
  obtain ⟨z0, hz0e⟩ : ∃ z0, z % 4294967296 = z0 := ⟨_, rfl⟩
  obtain ⟨a, ha⟩ : ∃ a, u0 / 4294967296 = a := ⟨_, rfl⟩
  obtain ⟨b, hb⟩ : ∃ b, u0 % 4294967296 = b := ⟨_, rfl⟩
  have hP : HalfP z z1 z0 u1 a := ⟨by omega, by omega, by omega, by omega, by omega⟩
  refine wkR hE trivial ?_
  obtain ⟨hI0, hq97⟩ := HalfI.start hP
  obtain ⟨qa, hqa⟩ : ∃ qa, u1 / z1 = qa := ⟨_, rfl⟩
  obtain ⟨ra, hra⟩ : ∃ ra, u1 % z1 = ra := ⟨_, rfl⟩
  rw [hqa, hra] at hI0
  rw [hqa] at hq97
  have hqa0 := hI0.hq
  have hra0 := hI0.hr
  have hqe := hI0.he
  have hsub : u1 - qa * z1 = ra := by omega
  have hz1b := hP.h1
  have hqz := Int.mul_nonneg hqa0 (show 0 ≤ z1 by omega)
  have hz0b := hP.h0
  have hzn : z1 ≠ 0 := by omega
  have hu1b := hP.hn
  refine wk hE (And.intro hy0 (And.intro hle (And.intro hhz (And.intro hs (And.intro hwz (And.intro tn (And.intro hor (And.intro hwl (And.intro hz1e (And.intro hz0e (And.intro ha (And.intro hb (And.intro hqa (And.intro hsub hzn)))))))))))))) ?_
  refine AWp.joinB (ι := {q : Int // q = (u1 * 4294967296 + a) / z}) (fun q => ⟨[(2, .raw (.int .u64 z)), (8, .raw (.int .u64 (s : Nat))), (9, .raw (.int .u64 z1)), (10, .raw (.int .u64 z0)), (11, .raw (.int .u64 u1)), (13, .raw (.int .u64 a)), (14, .raw (.int .u64 b)), (15, .raw (.int .u64 q.1))], []⟩) ?_ ?_
  · refine AWp.loop (ι := {p : Int × Int // HalfI z z1 u1 a p.1 p.2}) (fun p => ⟨[(2, .raw (.int .u64 z)), (8, .raw (.int .u64 (s : Nat))), (9, .raw (.int .u64 z1)), (10, .raw (.int .u64 z0)), (11, .raw (.int .u64 u1)), (13, .raw (.int .u64 a)), (14, .raw (.int .u64 b)), (15, .raw (.int .u64 p.1.1)), (16, .raw (.int .u64 p.1.2))], []⟩) (fun p => p.1.1.toNat) ⟨(qa, ra), hI0⟩ (Le.mk trivial) ?_
    rintro ⟨⟨q, r⟩, hI⟩
    dsimp only at hI ⊢
    have hq0 := hI.hq
    have hr0 := hI.hr
    have hr1 := hI.hr1
    have had := hP.hd
    by_cases hc : 4294967296 ≤ q ∨ 4294967296 * r + a < q * z0
    · obtain ⟨s1, s2, s3⟩ := hI.step hP hc
      have hq96 : q < 18446744073709551616 := by
        refine Int.lt_of_mul_lt_mul_right (a := z1) ?_ (by omega)
        have := hI.he
        omega
      by_cases hb2 : 4294967296 ≤ r + z1
      · have hl2 := hI.last hP hc hb2
        by_cases hq32 : 4294967296 ≤ q
        · refine wk hE (And.intro hq32 hb2) ?_
          exact ⟨⟨_, hl2⟩, Le.mk trivial⟩
        · have hm := mul_bd (M := 4294967295) (N := 4294967295) hq0 hz0b.1 (by omega) (by omega)
          refine wk hE (And.intro hq32 (And.intro (show 4294967296 * r + a < q * z0 by omega) hb2)) ?_
          exact ⟨⟨_, hl2⟩, Le.mk trivial⟩
      · have hnx := hI.next hP hc (by omega)
        by_cases hq32 : 4294967296 ≤ q
        · refine wk hE (And.intro hq32 hb2) ?_
          exact ⟨⟨(_, _), hnx⟩, Le.mk trivial, by dsimp only; omega⟩
        · have hm := mul_bd (M := 4294967295) (N := 4294967295) hq0 hz0b.1 (by omega) (by omega)
          refine wk hE (And.intro hq32 (And.intro (show 4294967296 * r + a < q * z0 by omega) hb2)) ?_
          exact ⟨⟨(_, _), hnx⟩, Le.mk trivial, by dsimp only; omega⟩
    · have hm := mul_bd (M := 4294967295) (N := 4294967295) hq0 hz0b.1 (by omega) (by omega)
      have hd := hI.done hP (by omega)
      refine wk hE (And.intro (show ¬ 4294967296 ≤ q by omega) (show ¬ 4294967296 * r + a < q * z0 by omega)) ?_
      exact ⟨⟨_, hd⟩, Le.mk trivial⟩
  rintro ⟨q1, hq1⟩
  dsimp only
  have had := hP.hd
  obtain ⟨hrest, hrb⟩ := hP.rest hz1.2
  have hql := hP.lt
  rw [← hq1] at hrest hql
  have e1 : q1 * z + (u1 * 4294967296 + a) % z = u1 * 4294967296 + a := by
    have := Int.mul_ediv_add_emod (u1 * 4294967296 + a) z
    rw [← hq1, Int.mul_comm] at this; exact this
  obtain ⟨v, hv⟩ : ∃ v, (u1 * 4294967296 + a) % z = v := ⟨_, rfl⟩
  rw [hv] at hrest hrb e1
  have hwv : IntKind.u64.wrap (IntKind.u64.wrap (IntKind.u64.wrap (u1 * 4294967296) + a) - IntKind.u64.wrap (q1 * z)) = v := by
    rw [IntKind.wrap_u64, IntKind.wrap_u64, IntKind.wrap_u64, IntKind.wrap_u64]; exact hrest
  have hP0 : HalfP z z1 z0 v b := ⟨by omega, by omega, by omega, by omega, by omega⟩
  obtain ⟨hJ0, hj97⟩ := HalfI.start hP0
  obtain ⟨qb, hqb⟩ : ∃ qb, v / z1 = qb := ⟨_, rfl⟩
  obtain ⟨rb, hrbe⟩ : ∃ rb, v % z1 = rb := ⟨_, rfl⟩
  rw [hqb, hrbe] at hJ0
  rw [hqb] at hj97
  have hqb0 := hJ0.hq
  have hrb0 := hJ0.hr
  have hqbe := hJ0.he
  have hsub2 : v - qb * z1 = rb := by omega
  have hqz2 := Int.mul_nonneg hqb0 (show 0 ≤ z1 by omega)
  refine wk hE (And.intro hwv (And.intro hqb (And.intro hsub2 hzn))) ?_
  refine AWp.joinB (ι := {q : Int // q = (v * 4294967296 + b) / z}) (fun q => ⟨[(2, .raw (.int .u64 z)), (8, .raw (.int .u64 (s : Nat))), (14, .raw (.int .u64 b)), (15, .raw (.int .u64 q1)), (17, .raw (.int .u64 v)), (18, .raw (.int .u64 q.1))], []⟩) ?_ ?_
  · refine AWp.loop (ι := {p : Int × Int // HalfI z z1 v b p.1 p.2}) (fun p => ⟨[(2, .raw (.int .u64 z)), (8, .raw (.int .u64 (s : Nat))), (9, .raw (.int .u64 z1)), (10, .raw (.int .u64 z0)), (14, .raw (.int .u64 b)), (15, .raw (.int .u64 q1)), (16, .raw (.int .u64 p.1.2)), (17, .raw (.int .u64 v)), (18, .raw (.int .u64 p.1.1))], []⟩) (fun p => p.1.1.toNat) ⟨(qb, rb), hJ0⟩ (Le.mk trivial) ?_
    clear hwv hrest hq1 hql e1 hwz hor hwl hz1e hz0e ha hb hqa hsub hI0 hqe hra hra0 hqa0 hq97 hqz hsub2 hqb hrbe hqz2 hqbe hrb0 hqb0 hj97
    rintro ⟨⟨q, r⟩, hI⟩
    dsimp only at hI ⊢
    have hq0 := hI.hq
    have hr0 := hI.hr
    have hr1 := hI.hr1
    have had := hP0.hd
    by_cases hc : 4294967296 ≤ q ∨ 4294967296 * r + b < q * z0
    · obtain ⟨s1, s2, s3⟩ := hI.step hP0 hc
      have hq96 : q < 18446744073709551616 := by
        refine Int.lt_of_mul_lt_mul_right (a := z1) ?_ (by omega)
        have := hI.he
        omega
      by_cases hb2 : 4294967296 ≤ r + z1
      · have hl2 := hI.last hP0 hc hb2
        by_cases hq32 : 4294967296 ≤ q
        · refine wk hE (And.intro hq32 hb2) ?_
          exact ⟨⟨_, hl2⟩, Le.mk trivial⟩
        · have hm := mul_bd (M := 4294967295) (N := 4294967295) hq0 hz0b.1 (by omega) (by omega)
          refine wk hE (And.intro hq32 (And.intro (show 4294967296 * r + b < q * z0 by omega) hb2)) ?_
          exact ⟨⟨_, hl2⟩, Le.mk trivial⟩
      · have hnx := hI.next hP0 hc (by omega)
        by_cases hq32 : 4294967296 ≤ q
        · refine wk hE (And.intro hq32 hb2) ?_
          exact ⟨⟨(_, _), hnx⟩, Le.mk trivial, by dsimp only; omega⟩
        · have hm := mul_bd (M := 4294967295) (N := 4294967295) hq0 hz0b.1 (by omega) (by omega)
          refine wk hE (And.intro hq32 (And.intro (show 4294967296 * r + b < q * z0 by omega) hb2)) ?_
          exact ⟨⟨(_, _), hnx⟩, Le.mk trivial, by dsimp only; omega⟩
    · have hm := mul_bd (M := 4294967295) (N := 4294967295) hq0 hz0b.1 (by omega) (by omega)
      have hd := hI.done hP0 (by omega)
      refine wk hE (And.intro (show ¬ 4294967296 ≤ q by omega) (show ¬ 4294967296 * r + b < q * z0 by omega)) ?_
      exact ⟨⟨_, hd⟩, Le.mk trivial⟩
  rintro ⟨q0, hq0⟩
  dsimp only
  have had0 := hP0.hd
  obtain ⟨hrest0, hrb0⟩ := hP0.rest hz1.2
  have hql0 := hP0.lt
  rw [← hq0] at hrest0 hql0
  have e0 : q0 * z + (v * 4294967296 + b) % z = v * 4294967296 + b := by
    have := Int.mul_ediv_add_emod (v * 4294967296 + b) z
    rw [← hq0, Int.mul_comm] at this; exact this
  obtain ⟨x, hx⟩ : ∃ x, (v * 4294967296 + b) % z = x := ⟨_, rfl⟩
  rw [hx] at hrest0 hrb0 e0
  have hwx : IntKind.u64.wrap (IntKind.u64.wrap (IntKind.u64.wrap (v * 4294967296) + b) - IntKind.u64.wrap (q0 * z)) = x := by
    rw [IntKind.wrap_u64, IntKind.wrap_u64, IntKind.wrap_u64, IntKind.wrap_u64]; exact hrest0
  obtain ⟨f1, f2⟩ := div64_fin (y := (Y : Int)) hz hp t1 (show u0 = a * 4294967296 + b by omega) (by omega) e1 e0 hrb0
  clear hwv hrest hwz hor hwl hz1e hz0e ha hb hqa hsub hI0 hqe hra hra0 hqa0 hq97 hqz hsub2 hqb hrbe hqz2 hqbe hqb0 hj97
  refine wk hE (And.intro hwx (Int.le_of_lt hp)) ?_
  refine PostL.mk trivial ?_
  rw [← f1, ← f2]
end Go.Hl

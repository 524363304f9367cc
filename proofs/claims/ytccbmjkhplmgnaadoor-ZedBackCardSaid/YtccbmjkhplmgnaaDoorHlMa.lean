/- Masks of int. -/
import Derived.Laws.BitsLemmas
import Derived.Test.YtccbmjkhplmgnaaDoorHlN
set_option linter.unusedVariables false
set_option linter.unusedSimpArgs false
namespace Go.Hl
open Go
theorem i64_mask (n : Int) (k : Nat) (hk : k ≤ 62) (m : Int) (h : (BitVec.ofInt 64 m).toNat = 2 ^ k - 1) : bits .and .i64 n m = n % ((2 ^ k : Nat) : Int) := by
  have key : (BitVec.ofInt 64 n &&& BitVec.ofInt 64 m).toNat = (n % ((2 ^ 64 : Nat) : Int)).toNat % 2 ^ k := by
    rw [BitVec.toNat_and, BitVec.toNat_ofInt, h, Nat.and_two_pow_sub_one_eq_mod]
  show IntKind.i64.wrap ((BitVec.ofInt 64 n &&& BitVec.ofInt 64 m).toNat : Nat) = _
  have hp : (2 : Nat) ^ k ≤ 2 ^ 62 := Nat.pow_le_pow_right (by decide) hk
  have h0 : 0 < 2 ^ k := Nat.two_pow_pos k
  have hd : 2 ^ k * 2 ^ (64 - k) = 2 ^ 64 := by rw [← Nat.pow_add]; congr 1; omega
  rw [key, IntKind.wrap_i64]
  have hlt : (n % ((2 ^ 64 : Nat) : Int)).toNat % 2 ^ k < 2 ^ k := Nat.mod_lt _ h0
  have e1 : (((n % ((2 ^ 64 : Nat) : Int)).toNat % 2 ^ k : Nat) : Int) = n % ((2 ^ k : Nat) : Int) := by
    rw [Int.natCast_emod, Int.toNat_of_nonneg (Int.emod_nonneg _ (by decide))]
    rw [← hd, Int.natCast_mul]
    exact Int.emod_emod_of_dvd _ ⟨_, rfl⟩
  omega
theorem i64_and2047 (n : Int) : bits .and .i64 n 2047 = n % 2048 := i64_mask n 11 (by decide) 2047 (by decide)
theorem i64_and4095 (n : Int) : bits .and .i64 n 4095 = n % 4096 := i64_mask n 12 (by decide) 4095 (by decide)
theorem i64_and1023 (n : Int) : bits .and .i64 n 1023 = n % 1024 := i64_mask n 10 (by decide) 1023 (by decide)
theorem i64_and31 (n : Int) : bits .and .i64 n 31 = n % 32 := i64_mask n 5 (by decide) 31 (by decide)
theorem i64_and15 (n : Int) : bits .and .i64 n 15 = n % 16 := i64_mask n 4 (by decide) 15 (by decide)
attribute [push_cast] i64_and2047 i64_and4095 i64_and1023 i64_and31 i64_and15
end Go.Hl

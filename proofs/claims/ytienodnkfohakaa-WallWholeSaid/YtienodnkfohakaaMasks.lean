import Derived.Test.YtienodnkfohakaaBase
namespace Go.Proofs.Ytienodnkfohakaa
set_option linter.unusedVariables false
set_option linter.unusedSimpArgs false
open Go.RowKit

theorem i64_and20 (n : Int) : bits .and .i64 n 1048575 = n % 1048576 := by
  have h127 : (BitVec.ofInt 64 1048575).toNat = 2 ^ 20 - 1 := by decide
  have key : (BitVec.ofInt 64 n &&& BitVec.ofInt 64 1048575).toNat = (n % ((2 ^ 64 : Nat) : Int)).toNat % 2 ^ 20 := by
    rw [BitVec.toNat_and, BitVec.toNat_ofInt, h127, Nat.and_two_pow_sub_one_eq_mod]
  show IntKind.i64.wrap ((BitVec.ofInt 64 n &&& BitVec.ofInt 64 1048575).toNat : Nat) = n % 1048576
  rw [key, IntKind.wrap_i64]
  omega
theorem i64_and16 (n : Int) : bits .and .i64 n 65535 = n % 65536 := by
  have h127 : (BitVec.ofInt 64 65535).toNat = 2 ^ 16 - 1 := by decide
  have key : (BitVec.ofInt 64 n &&& BitVec.ofInt 64 65535).toNat = (n % ((2 ^ 64 : Nat) : Int)).toNat % 2 ^ 16 := by
    rw [BitVec.toNat_and, BitVec.toNat_ofInt, h127, Nat.and_two_pow_sub_one_eq_mod]
  show IntKind.i64.wrap ((BitVec.ofInt 64 n &&& BitVec.ofInt 64 65535).toNat : Nat) = n % 65536
  rw [key, IntKind.wrap_i64]
  omega
theorem i64_mask (k : Nat) (m : Int) (hk : m = 2 ^ k - 1) (hk2 : k ≤ 32) (n : Int) : bits .and .i64 n m = n % 2 ^ k := by
  subst hk
  have hp : (2 : Nat) ^ k ≤ 2 ^ 32 := Nat.pow_le_pow_right (by decide) hk2
  have hp0 : 0 < (2 : Nat) ^ k := Nat.two_pow_pos k
  have h127 : (BitVec.ofInt 64 ((2 : Int) ^ k - 1)).toNat = 2 ^ k - 1 := by
    rw [BitVec.toNat_ofInt]
    have e : ((2 : Int) ^ k - 1) = ((2 ^ k - 1 : Nat) : Int) := by rw [Int.natCast_sub hp0]; simp
    rw [e, Int.emod_eq_of_lt (by omega) (by omega)]
    simp
  have key : (BitVec.ofInt 64 n &&& BitVec.ofInt 64 ((2 : Int) ^ k - 1)).toNat = (n % ((2 ^ 64 : Nat) : Int)).toNat % 2 ^ k := by
    rw [BitVec.toNat_and, BitVec.toNat_ofInt, h127, Nat.and_two_pow_sub_one_eq_mod]
  show IntKind.i64.wrap ((BitVec.ofInt 64 n &&& BitVec.ofInt 64 ((2 : Int) ^ k - 1)).toNat : Nat) = n % 2 ^ k
  rw [key, IntKind.wrap_i64]
  have hz : (n % ((2 ^ 64 : Nat) : Int)).toNat % 2 ^ k < 2 ^ k := Nat.mod_lt _ hp0
  have e2 : (((n % ((2 ^ 64 : Nat) : Int)).toNat % 2 ^ k : Nat) : Int) = n % 2 ^ k := by
    rw [Int.natCast_emod, Int.toNat_of_nonneg (Int.emod_nonneg _ (by decide))]
    have hd : ((2 ^ k : Nat) : Int) ∣ ((2 ^ 64 : Nat) : Int) := Int.natCast_dvd_natCast.2 (Nat.pow_dvd_pow 2 (by omega))
    rw [Int.emod_emod_of_dvd _ hd]
    simp
  have e3 := e2
  have hz2 : (((n % ((2 ^ 64 : Nat) : Int)).toNat % 2 ^ k : Nat) : Int) < 4294967296 := by omega
  rw [e2] at hz2
  have hz3 : (0 : Int) ≤ n % 2 ^ k := by rw [← e2]; omega
  rw [e2]
  omega
theorem i64_and20_at (n : Int) : ∃ m, bits .and .i64 n 1048575 = m ∧ 0 ≤ m ∧ m ≤ 1048575 := ⟨_, i64_and20 n, by omega, by omega⟩
theorem i64_and16_at (n : Int) : ∃ m, bits .and .i64 n 65535 = m ∧ 0 ≤ m ∧ m ≤ 65535 := ⟨_, i64_and16 n, by omega, by omega⟩
end Go.Proofs.Ytienodnkfohakaa

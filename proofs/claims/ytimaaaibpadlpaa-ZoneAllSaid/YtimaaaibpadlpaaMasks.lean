import Derived.Test.YtimaaaibpadlpaaBase
namespace Go.Proofs.Ytimaaaibpadlpaa
set_option linter.unusedVariables false
set_option linter.unusedSimpArgs false
open Go.RowKit

theorem i64_and20 (n : Int) : bits .and .i64 n 1048575 = n % 1048576 := by
  have h127 : (BitVec.ofInt 64 1048575).toNat = 2 ^ 20 - 1 := by decide
  have key : (BitVec.ofInt 64 n &&& BitVec.ofInt 64 1048575).toNat = (n % ((2 ^ 64 : Nat) : Int)).toNat % 2 ^ 20 := by
    rw [BitVec.toNat_and, BitVec.toNat_ofInt, h127, Nat.and_two_pow_sub_one_eq_mod]
  show IntKind.i64.wrap ((BitVec.ofInt 64 n &&& BitVec.ofInt 64 1048575).toNat : Nat) = n % 1048576
  rw [key, IntKind.wrap_i64]
  omega
theorem i64_and16 (n : Int) : bits .and .i64 n 65535 = n % 65536 := by
  have h127 : (BitVec.ofInt 64 65535).toNat = 2 ^ 16 - 1 := by decide
  have key : (BitVec.ofInt 64 n &&& BitVec.ofInt 64 65535).toNat = (n % ((2 ^ 64 : Nat) : Int)).toNat % 2 ^ 16 := by
    rw [BitVec.toNat_and, BitVec.toNat_ofInt, h127, Nat.and_two_pow_sub_one_eq_mod]
  show IntKind.i64.wrap ((BitVec.ofInt 64 n &&& BitVec.ofInt 64 65535).toNat : Nat) = n % 65536
  rw [key, IntKind.wrap_i64]
  omega
theorem i64_and20_at (n : Int) : ∃ m, bits .and .i64 n 1048575 = m ∧ 0 ≤ m ∧ m ≤ 1048575 := ⟨_, i64_and20 n, by omega, by omega⟩
theorem i64_and16_at (n : Int) : ∃ m, bits .and .i64 n 65535 = m ∧ 0 ≤ m ∧ m ≤ 65535 := ⟨_, i64_and16 n, by omega, by omega⟩
end Go.Proofs.Ytimaaaibpadlpaa

/- Numbers that are not negative, in the machine's operations. -/
import Derived.Test.YtfmmemboakdeiaaBase
namespace Go.Proofs.Ytfmmemboakdeiaa
open Go.Proofs.YtfmmemboakdeiaaAw Go.RowKit
set_option linter.unusedVariables false
theorem shrU (n k : Nat) (h : k ≤ 64) : shrI .u64 (n : Int) (k : Int) = ((n / 2 ^ k : Nat) : Int) := by
  have : min k 64 = k := by omega
  simp only [shrI, IntKind.bits, Int.toNat_natCast, this]
  rw [Int.fdiv_eq_ediv_of_nonneg _ (by exact_mod_cast Nat.zero_le _)]
  norm_cast
theorem wrap8N (n : Nat) (h : n < 256) : IntKind.u8.wrap (n : Int) = n := wrapu8_in _ (by omega) (by omega)
theorem orI_nat (k : IntKind) (a b : Nat) (ha : a < 2 ^ k.bits) (hb : b < 2 ^ k.bits) : orI k (a : Int) (b : Int) = ((a ||| b : Nat) : Int) := by
  simp [orI, BitVec.toNat_or, BitVec.ofInt_natCast, Nat.mod_eq_of_lt ha, Nat.mod_eq_of_lt hb]
theorem andI_nat (k : IntKind) (a b : Nat) (ha : a < 2 ^ k.bits) (hb : b < 2 ^ k.bits) : andI k (a : Int) (b : Int) = ((a &&& b : Nat) : Int) := by
  simp [andI, BitVec.toNat_and, BitVec.ofInt_natCast, Nat.mod_eq_of_lt ha, Nat.mod_eq_of_lt hb]
theorem wrapU64N (n : Nat) (h : n < 18446744073709551616) : IntKind.u64.wrap (n : Int) = n := wrapu64_in _ (by omega) (by omega)
theorem wrapU8mod (n : Nat) : IntKind.u8.wrap (n : Int) = ((n % 256 : Nat) : Int) := by simp [IntKind.wrap, IntKind.signed, IntKind.bits]
theorem wrapI (n : Nat) (h : n ≤ 1000000000000) : IntKind.i64.wrap (n : Int) = (n : Int) := wrap64_in _ (by omega) (by omega)
end Go.Proofs.Ytfmmemboakdeiaa

/- leb.Zig, delta.Steps: what they do. -/
import Derived.Test.YtcdnbefcccdaeaaDelta1
namespace Go.Proofs.Ytcdnbefcccdaeaa
open Go.Proofs.YtcdnbefcccdaeaaAw Go.RowKit
set_option linter.unusedVariables false
set_option linter.unusedSimpArgs false
def zigP (n : Int) : Nat := if 0 ≤ n then (2 * n).toNat else (-2 * n - 1).toNat
theorem wrapU (n : Int) : IntKind.u64.wrap n = n % 18446744073709551616 := by simp [IntKind.wrap, IntKind.signed, IntKind.bits]
theorem xorAll (c : Nat) (h : c < 18446744073709551616) : c ^^^ 18446744073709551615 = 18446744073709551615 - c := by
  have := Nat.testBit_two_pow_sub_succ (x := c) (n := 64) h
  apply Nat.eq_of_testBit_eq
  intro i
  rw [Nat.testBit_xor]
  have h2 := this i
  rw [show 2 ^ 64 - (c + 1) = 18446744073709551615 - c from by omega] at h2
  rw [h2]
  have h3 : (18446744073709551615 : Nat).testBit i = decide (i < 64) := by
    have := Nat.testBit_two_pow_sub_one 64 i
    simpa using this
  rw [h3]
  by_cases hi : i < 64
  · simp [hi]
  · have h5 : 2 ^ 64 ≤ 2 ^ i := Nat.pow_le_pow_right (by omega) (by omega)
    have : c.testBit i = false := Nat.testBit_lt_two_pow (by omega)
    simp [hi, this]
theorem zig_eq (n : Int) (h1 : -9223372036854775808 ≤ n) (h2 : n ≤ 9223372036854775807) :
    IntKind.u64.wrap (xorI .u64 (IntKind.u64.wrap (shlI .u64 (IntKind.u64.wrap n) 1)) (IntKind.u64.wrap (shrI .i64 n 63))) = ((zigP n : Nat) : Int) := by
  have s1 : shlI .u64 (IntKind.u64.wrap n) 1 = IntKind.u64.wrap n * 2 := by simp [shlI, IntKind.bits]
  have s2 : shrI .i64 n 63 = n.fdiv 9223372036854775808 := by simp [shrI, IntKind.bits]
  rw [s1, s2]
  by_cases h : 0 ≤ n
  · have e1 : IntKind.u64.wrap (IntKind.u64.wrap n * 2) = (((2 * n).toNat : Nat) : Int) := by rw [wrapU, wrapU]; omega
    have e2 : IntKind.u64.wrap (n.fdiv 9223372036854775808) = ((0 : Nat) : Int) := by
      rw [show n.fdiv 9223372036854775808 = 0 from by rw [Int.fdiv_eq_ediv_of_nonneg _ (by decide)]; omega]; rfl
    rw [e1, e2]
    have e := bits_xor_u64_nat (2 * n).toNat 0 (by omega) (by omega)
    rw [Nat.xor_zero] at e
    unfold zigP
    rw [if_pos h]
    exact e
  · have e1 : IntKind.u64.wrap (IntKind.u64.wrap n * 2) = (((2 * n + 18446744073709551616).toNat : Nat) : Int) := by rw [wrapU, wrapU]; omega
    have e2 : IntKind.u64.wrap (n.fdiv 9223372036854775808) = ((18446744073709551615 : Nat) : Int) := by
      rw [show n.fdiv 9223372036854775808 = -1 from by rw [Int.fdiv_eq_ediv_of_nonneg _ (by decide)]; omega]; rfl
    rw [e1, e2]
    have e := bits_xor_u64_nat (2 * n + 18446744073709551616).toNat 18446744073709551615 (by omega) (by omega)
    rw [xorAll _ (by omega)] at e
    unfold zigP
    rw [if_neg h, show (-2 * n - 1).toNat = 18446744073709551615 - (2 * n + 18446744073709551616).toNat from by omega]
    exact e
set_option maxRecDepth 10000 in
theorem zig_does (n : Int) (h1 : -9223372036854775808 ≤ n) (h2 : n ≤ 9223372036854775807) (H : AHeap) : Does Try.prog 23 [iA n] H (.ok (du (zigP n))) H := by
  refine Does.of_awp (hint := (fun _ => false)) Try.func23 (by kernel_rfl) rfl [2] (by kernel_rfl) (by decide) (by simp [Try.ntmps23]) ?_
  rw [Try.ntmps23]
  simp (implicitDefEqProofs := false) only [↓reduceIte, go_sem, oread, owrite, Nat.reduceAdd, Nat.reduceSub, Nat.reduceMul, Nat.reduceLT, Nat.reduceLeDiff, Nat.reduceEqDiff, Nat.reduceBEq, Int.reduceLE, Int.reduceLT, Int.reduceEq, Int.reduceNe, Int.reduceAdd, Int.reduceSub, Int.reduceMul, Int.reduceNeg, Int.reduceToNat, Int.reduceNatCast, reduceCtorEq, eq_self, zig_eq n h1 h2]
  refine AEnd.ret0 ?_
  simp (implicitDefEqProofs := false) only [↓reduceIte, go_sem, oread, owrite, Nat.reduceAdd, Nat.reduceSub, Nat.reduceMul, Nat.reduceLT, Nat.reduceLeDiff, Nat.reduceEqDiff, Nat.reduceBEq, Int.reduceLE, Int.reduceLT, Int.reduceEq, Int.reduceNe, Int.reduceAdd, Int.reduceSub, Int.reduceMul, Int.reduceNeg, Int.reduceToNat, Int.reduceNatCast, reduceCtorEq, eq_self]
end Go.Proofs.Ytcdnbefcccdaeaa

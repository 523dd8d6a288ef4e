/- cost.Add, cost.Mul and the document's: what they do. -/
import Derived.Test.YtfjdggcemfebpaaBase
import Derived.Laws.Externs
import Derived.Laws.Bits64b
import Derived.Lib.Mul64
namespace Go.Proofs.Ytfjdggcemfebpaa
open Go.Proofs.YtfjdggcemfebpaaAw Go.RowKit
set_option linter.unusedVariables false
set_option linter.unusedSimpArgs false
abbrev du (n : Nat) : AV := .d (.v (.int .u64 n))
def addS (a b : Nat) : Nat := if a + b < 18446744073709551616 then a + b else 18446744073709551615
def mulS (a b : Nat) : Nat := if a * b < 18446744073709551616 then a * b else 18446744073709551615

theorem RAs.closed {H : AHeap} {φ : Phi} {N : Addr → Prop} {w : World} {vals : Array Value} (vs : List Value) (h : RAs H φ N w (vs.map fun v => .d (.v v)) vals) : vals = vs.toArray := by
  obtain ⟨hl, hh⟩ := h
  simp only [List.length_map] at hl
  apply Array.ext
  · simpa using hl.symm
  · intro i h1 h2
    have := hh i (by simpa using h2) h1
    simp only [List.getElem_map] at this
    simpa using this.closed
theorem add64_does (a b : Nat) (ha : a < 18446744073709551616) (hb : b < 18446744073709551616) (H : AHeap) :
    Does Try.prog 25 [du a, du b, .d (.v (.int .u64 0))] H (.ok (.tup [du ((a + b) % 18446744073709551616), du ((a + b) / 18446744073709551616)])) H := by
  intro φ N w vals hR hA
  have hv := RAs.closed [.int .u64 (a : Int), .int .u64 (b : Int), .int .u64 0] hA
  subst hv
  refine .inr ⟨.tuple #[.int .u64 (((a + b) % 18446744073709551616 : Nat) : Int), .int .u64 (((a + b) / 18446744073709551616 : Nat) : Int)], w, ?_, φ, N, hR, Since.refl, ?_⟩
  · rw [run_callFunc_extern (e := add64Entry) Try.func25 (by kernel_rfl) (by kernel_rfl) (by kernel_rfl) (by kernel_rfl), run_add64 a b 0 (by omega) (by omega) (by omega) (by omega)]
    simp only [Result.andThen]
    congr 5 <;> omega
  · refine .tup _ _ rfl fun i h1 h2 => ?_
    match i, h1 with
    | 0, _ => exact .d (.v _ rfl)
    | 1, _ => exact .d (.v _ rfl)

set_option maxRecDepth 10000 in
theorem add_does (a b : Nat) (ha : a < 18446744073709551616) (hb : b < 18446744073709551616) (H : AHeap) :
    Does Try.prog 12 [du a, du b] H (.ok (du (addS a b))) H := by
  refine Does.of_awp (hint := (fun _ => false)) Try.func12 (by kernel_rfl) rfl [4] (by kernel_rfl) (by decide) (by simp [Try.ntmps12]) ?_
  rw [Try.ntmps12]
  simp (implicitDefEqProofs := false) only [↓reduceIte, go_sem, oread, owrite, Nat.reduceAdd, Nat.reduceSub, Nat.reduceMul, Nat.reduceLT, Nat.reduceLeDiff, Nat.reduceEqDiff, Nat.reduceBEq, Int.reduceLE, Int.reduceLT, Int.reduceEq, Int.reduceNe, Int.reduceAdd, Int.reduceSub, Int.reduceMul, Int.reduceNeg, Int.reduceToNat, Int.reduceNatCast, reduceCtorEq, eq_self, du]
  refine KCall.ok (add64_does a b ha hb H) ?_
  simp (implicitDefEqProofs := false) only [↓reduceIte, go_sem, oread, owrite, Nat.reduceAdd, Nat.reduceSub, Nat.reduceMul, Nat.reduceLT, Nat.reduceLeDiff, Nat.reduceEqDiff, Nat.reduceBEq, Int.reduceLE, Int.reduceLT, Int.reduceEq, Int.reduceNe, Int.reduceAdd, Int.reduceSub, Int.reduceMul, Int.reduceNeg, Int.reduceToNat, Int.reduceNatCast, reduceCtorEq, eq_self, du]
  by_cases h : a + b < 18446744073709551616
  · have h0 : ((a + b) / 18446744073709551616) = 0 := by omega
    refine awp_F (by simp (implicitDefEqProofs := false) only [↓reduceIte, go_sem, oread, owrite, Nat.reduceAdd, Nat.reduceSub, Nat.reduceMul, Nat.reduceLT, Nat.reduceLeDiff, Nat.reduceEqDiff, Nat.reduceBEq, Int.reduceLE, Int.reduceLT, Int.reduceEq, Int.reduceNe, Int.reduceAdd, Int.reduceSub, Int.reduceMul, Int.reduceNeg, Int.reduceToNat, Int.reduceNatCast, reduceCtorEq, eq_self, h0]) ?_
    simp (implicitDefEqProofs := false) only [↓reduceIte, go_sem, oread, owrite, Nat.reduceAdd, Nat.reduceSub, Nat.reduceMul, Nat.reduceLT, Nat.reduceLeDiff, Nat.reduceEqDiff, Nat.reduceBEq, Int.reduceLE, Int.reduceLT, Int.reduceEq, Int.reduceNe, Int.reduceAdd, Int.reduceSub, Int.reduceMul, Int.reduceNeg, Int.reduceToNat, Int.reduceNatCast, reduceCtorEq, eq_self]
    refine AEnd.ret0 ?_
    simp (implicitDefEqProofs := false) only [↓reduceIte, go_sem, oread, owrite, Nat.reduceAdd, Nat.reduceSub, Nat.reduceMul, Nat.reduceLT, Nat.reduceLeDiff, Nat.reduceEqDiff, Nat.reduceBEq, Int.reduceLE, Int.reduceLT, Int.reduceEq, Int.reduceNe, Int.reduceAdd, Int.reduceSub, Int.reduceMul, Int.reduceNeg, Int.reduceToNat, Int.reduceNatCast, reduceCtorEq, eq_self, addS, du, if_pos h, Nat.mod_eq_of_lt h]
  · have h0 : ((a + b) / 18446744073709551616) = 1 := by omega
    refine awp_T (by simp (implicitDefEqProofs := false) only [↓reduceIte, go_sem, oread, owrite, Nat.reduceAdd, Nat.reduceSub, Nat.reduceMul, Nat.reduceLT, Nat.reduceLeDiff, Nat.reduceEqDiff, Nat.reduceBEq, Int.reduceLE, Int.reduceLT, Int.reduceEq, Int.reduceNe, Int.reduceAdd, Int.reduceSub, Int.reduceMul, Int.reduceNeg, Int.reduceToNat, Int.reduceNatCast, reduceCtorEq, eq_self, h0]) ?_
    simp (implicitDefEqProofs := false) only [↓reduceIte, go_sem, oread, owrite, Nat.reduceAdd, Nat.reduceSub, Nat.reduceMul, Nat.reduceLT, Nat.reduceLeDiff, Nat.reduceEqDiff, Nat.reduceBEq, Int.reduceLE, Int.reduceLT, Int.reduceEq, Int.reduceNe, Int.reduceAdd, Int.reduceSub, Int.reduceMul, Int.reduceNeg, Int.reduceToNat, Int.reduceNatCast, reduceCtorEq, eq_self]
    refine AEnd.ret0 ?_
    simp (implicitDefEqProofs := false) only [↓reduceIte, go_sem, oread, owrite, Nat.reduceAdd, Nat.reduceSub, Nat.reduceMul, Nat.reduceLT, Nat.reduceLeDiff, Nat.reduceEqDiff, Nat.reduceBEq, Int.reduceLE, Int.reduceLT, Int.reduceEq, Int.reduceNe, Int.reduceAdd, Int.reduceSub, Int.reduceMul, Int.reduceNeg, Int.reduceToNat, Int.reduceNatCast, reduceCtorEq, eq_self, addS, du, if_neg h]
    try rfl

set_option maxRecDepth 10000 in
theorem radd_does (a b : Nat) (ha : a < 18446744073709551616) (hb : b < 18446744073709551616) (H : AHeap) :
    Does Try.prog 13 [du a, du b] H (.ok (du (addS a b))) H := by
  refine Does.of_awp (hint := (fun _ => false)) Try.func13 (by kernel_rfl) rfl [4] (by kernel_rfl) (by decide) (by simp [Try.ntmps13]) ?_
  rw [Try.ntmps13]
  simp (implicitDefEqProofs := false) only [↓reduceIte, go_sem, oread, owrite, Nat.reduceAdd, Nat.reduceSub, Nat.reduceMul, Nat.reduceLT, Nat.reduceLeDiff, Nat.reduceEqDiff, Nat.reduceBEq, Int.reduceLE, Int.reduceLT, Int.reduceEq, Int.reduceNe, Int.reduceAdd, Int.reduceSub, Int.reduceMul, Int.reduceNeg, Int.reduceToNat, Int.reduceNatCast, reduceCtorEq, eq_self, du]
  rw [wrapu64_in (18446744073709551615 - b) (by omega) (by omega)]
  by_cases h : a + b < 18446744073709551616
  · refine awp_F (by simp (implicitDefEqProofs := false) only [↓reduceIte, go_sem, oread, owrite, Nat.reduceAdd, Nat.reduceSub, Nat.reduceMul, Nat.reduceLT, Nat.reduceLeDiff, Nat.reduceEqDiff, Nat.reduceBEq, Int.reduceLE, Int.reduceLT, Int.reduceEq, Int.reduceNe, Int.reduceAdd, Int.reduceSub, Int.reduceMul, Int.reduceNeg, Int.reduceToNat, Int.reduceNatCast, reduceCtorEq, eq_self]; congr 3; simp; omega) ?_
    simp (implicitDefEqProofs := false) only [↓reduceIte, go_sem, oread, owrite, Nat.reduceAdd, Nat.reduceSub, Nat.reduceMul, Nat.reduceLT, Nat.reduceLeDiff, Nat.reduceEqDiff, Nat.reduceBEq, Int.reduceLE, Int.reduceLT, Int.reduceEq, Int.reduceNe, Int.reduceAdd, Int.reduceSub, Int.reduceMul, Int.reduceNeg, Int.reduceToNat, Int.reduceNatCast, reduceCtorEq, eq_self]
    refine AEnd.ret0 ?_
    simp (implicitDefEqProofs := false) only [↓reduceIte, go_sem, oread, owrite, Nat.reduceAdd, Nat.reduceSub, Nat.reduceMul, Nat.reduceLT, Nat.reduceLeDiff, Nat.reduceEqDiff, Nat.reduceBEq, Int.reduceLE, Int.reduceLT, Int.reduceEq, Int.reduceNe, Int.reduceAdd, Int.reduceSub, Int.reduceMul, Int.reduceNeg, Int.reduceToNat, Int.reduceNatCast, reduceCtorEq, eq_self, addS, du, if_pos h]
    rw [wrapu64_in _ (by omega) (by omega)]
    try rfl
  · refine awp_T (by simp (implicitDefEqProofs := false) only [↓reduceIte, go_sem, oread, owrite, Nat.reduceAdd, Nat.reduceSub, Nat.reduceMul, Nat.reduceLT, Nat.reduceLeDiff, Nat.reduceEqDiff, Nat.reduceBEq, Int.reduceLE, Int.reduceLT, Int.reduceEq, Int.reduceNe, Int.reduceAdd, Int.reduceSub, Int.reduceMul, Int.reduceNeg, Int.reduceToNat, Int.reduceNatCast, reduceCtorEq, eq_self]; congr 3; simp; omega) ?_
    simp (implicitDefEqProofs := false) only [↓reduceIte, go_sem, oread, owrite, Nat.reduceAdd, Nat.reduceSub, Nat.reduceMul, Nat.reduceLT, Nat.reduceLeDiff, Nat.reduceEqDiff, Nat.reduceBEq, Int.reduceLE, Int.reduceLT, Int.reduceEq, Int.reduceNe, Int.reduceAdd, Int.reduceSub, Int.reduceMul, Int.reduceNeg, Int.reduceToNat, Int.reduceNatCast, reduceCtorEq, eq_self]
    refine AEnd.ret0 ?_
    simp (implicitDefEqProofs := false) only [↓reduceIte, go_sem, oread, owrite, Nat.reduceAdd, Nat.reduceSub, Nat.reduceMul, Nat.reduceLT, Nat.reduceLeDiff, Nat.reduceEqDiff, Nat.reduceBEq, Int.reduceLE, Int.reduceLT, Int.reduceEq, Int.reduceNe, Int.reduceAdd, Int.reduceSub, Int.reduceMul, Int.reduceNeg, Int.reduceToNat, Int.reduceNatCast, reduceCtorEq, eq_self, addS, du, if_neg h]
    try rfl
theorem maskN (a : Nat) (ha : a < 18446744073709551616) : IntKind.u64.wrap (andI .u64 (a : Int) 4294967295) = ((a % 4294967296 : Nat) : Int) := by
  have h := bits_and_u64_nat a 4294967295 ha (by omega)
  have e : a &&& 4294967295 = a % 4294967296 := Nat.and_two_pow_sub_one_eq_mod a 32
  rw [e] at h
  exact h
theorem shrN (a : Nat) : shrI .u64 (a : Int) 32 = ((a / 4294967296 : Nat) : Int) := by
  show (a : Int).fdiv (4294967296 : Int) = _
  rw [Int.fdiv_eq_ediv_of_nonneg _ (by omega)]
  omega
theorem wrapN (a : Nat) (ha : a < 18446744073709551616) : IntKind.u64.wrap (a : Int) = (a : Int) := wrapu64_in _ (by omega) (by omega)
theorem wrapM (a : Nat) : IntKind.u64.wrap (a : Int) = ((a % 18446744073709551616 : Nat) : Int) := by
  simp [IntKind.wrap, IntKind.signed, IntKind.bits]
end Go.Proofs.Ytfjdggcemfebpaa

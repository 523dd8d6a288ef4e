/- delta.Steps, delta.Sorted, delta.Bytes: what they do. -/
import Derived.Test.YtcdnbefcccdaeaaDelta2
import Derived.Test.YtcdnbefcccdaeaaPack
namespace Go.Proofs.Ytcdnbefcccdaeaa
open Go.Proofs.YtcdnbefcccdaeaaAw Go.RowKit
set_option linter.unusedVariables false
set_option linter.unusedSimpArgs false
theorem zigP_lt {n : Int} (h1 : -9223372036854775808 ≤ n) (h2 : n ≤ 9223372036854775807) : zigP n < 18446744073709551616 := by unfold zigP; split <;> omega
theorem wrap64_rng (n : Int) : -9223372036854775808 ≤ IntKind.i64.wrap n ∧ IntKind.i64.wrap n ≤ 9223372036854775807 := by
  have h1 := Int.emod_nonneg n (show (18446744073709551616 : Int) ≠ 0 by decide)
  have h2 := Int.emod_lt_of_pos n (show (0 : Int) < 18446744073709551616 by decide)
  simp only [IntKind.wrap, IntKind.signed, IntKind.bits]
  simp only [show ((2 : Int) ^ 64) = 18446744073709551616 from rfl, show ((2 : Int) ^ (64 - 1)) = 9223372036854775808 from rfl]
  generalize n % 18446744073709551616 = m at *
  by_cases h : m ≥ 9223372036854775808 <;> simp [h] <;> omega
def diffP (a b : Val) : Nat := zigP (IntKind.i64.wrap (b.i - a.i))
def stepsP (l : List Val) : List Nat := List.zipWith diffP l l.tail
theorem stepsP_len (l : List Val) : (stepsP l).length = l.length - 1 := by simp [stepsP]
theorem stepsP_get (l : List Val) (k : Nat) (h : k + 1 < l.length) : (stepsP l)[k]? = some (diffP l[k] l[k + 1]) := by
  simp [stepsP, List.getElem?_zipWith, List.getElem?_tail, h, show k < l.length by omega]
theorem diffP_lt (a b : Val) : diffP a b < 18446744073709551616 := zigP_lt (wrap64_rng _).1 (wrap64_rng _).2
theorem stepsP_lt (l : List Val) : ∀ n ∈ stepsP l, n < 18446744073709551616 := by
  intro n hn
  obtain ⟨k, hk⟩ := List.getElem?_of_mem hn
  have hlt := (List.getElem?_eq_some_iff.1 hk).1
  rw [stepsP_len] at hlt
  rw [stepsP_get l k (by omega)] at hk
  cases hk
  exact diffP_lt _ _
theorem take_steps (l : List Val) (k : Nat) (h : k + 1 < l.length) : (stepsP l).take (k + 1) = (stepsP l).take k ++ [diffP l[k] l[k + 1]] := by
  rw [List.take_add_one, stepsP_get l k h]; rfl
set_option maxRecDepth 10000 in
set_option maxHeartbeats 1000000 in
theorem steps_does (l : List Val) (nn : Bool) (H : AHeap) (hl : l.length ≤ 1000000000000) : Does Try.prog 11 [.d (.list nn (l.map Val.enc))] H (.ok (.d (.list false (us (stepsP l))))) H := by
  have hsl := stepsP_len l
  refine Does.of_awp (hint := (fun _ => false)) Try.func11 (by kernel_rfl) rfl [2] (by kernel_rfl) (by decide) (by simp [Try.ntmps11]) ?_
  rw [Try.ntmps11]
  simp (implicitDefEqProofs := false) only [↓reduceIte, go_sem, oread, owrite, Nat.reduceAdd, Nat.reduceSub, Nat.reduceMul, Nat.reduceLT, Nat.reduceLeDiff, Nat.reduceEqDiff, Nat.reduceBEq, Int.reduceLE, Int.reduceLT, Int.reduceEq, Int.reduceNe, Int.reduceAdd, Int.reduceSub, Int.reduceMul, Int.reduceNeg, Int.reduceToNat, Int.reduceNatCast, reduceCtorEq, eq_self]
  refine awp_for3 (fun k s H' => H' = H ++ [.arr 48 1 k (us ((stepsP l).take k))] ∧ s 0 = .d (.list nn (l.map Val.enc)) ∧ s 3 = .sl H.length k 0 k ∧ s 4 = iA ((k : Int) + 1)) (l.length - 1) (by omega) (Weak.virt1 _ _ 3 48 1 (by decide) (by simp (implicitDefEqProofs := false) only [↓reduceIte, go_sem, oread, owrite, Nat.reduceAdd, Nat.reduceSub, Nat.reduceMul, Nat.reduceLT, Nat.reduceLeDiff, Nat.reduceEqDiff, Nat.reduceBEq, Int.reduceLE, Int.reduceLT, Int.reduceEq, Int.reduceNe, Int.reduceAdd, Int.reduceSub, Int.reduceMul, Int.reduceNeg, Int.reduceToNat, Int.reduceNatCast, reduceCtorEq, eq_self]) _) ?_ ?_ ?_
  · refine ⟨?_, ?_⟩
    · simp (implicitDefEqProofs := false) only [↓reduceIte, go_sem, oread, owrite, Nat.reduceAdd, Nat.reduceSub, Nat.reduceMul, Nat.reduceLT, Nat.reduceLeDiff, Nat.reduceEqDiff, Nat.reduceBEq, Int.reduceLE, Int.reduceLT, Int.reduceEq, Int.reduceNe, Int.reduceAdd, Int.reduceSub, Int.reduceMul, Int.reduceNeg, Int.reduceToNat, Int.reduceNatCast, reduceCtorEq, eq_self, List.take_zero, us_nil]
    · simp (implicitDefEqProofs := false) only [↓reduceIte, go_sem, oread, owrite, Nat.reduceAdd, Nat.reduceSub, Nat.reduceMul, Nat.reduceLT, Nat.reduceLeDiff, Nat.reduceEqDiff, Nat.reduceBEq, Int.reduceLE, Int.reduceLT, Int.reduceEq, Int.reduceNe, Int.reduceAdd, Int.reduceSub, Int.reduceMul, Int.reduceNeg, Int.reduceToNat, Int.reduceNatCast, reduceCtorEq, eq_self]
  · rintro k s H' hk hw ⟨rfl, t0, t3, t4⟩
    have hk1 : k < l.length := by omega
    have hk2 : k + 1 < l.length := by omega
    have hx := List.getElem?_eq_getElem hk1
    have hy := List.getElem?_eq_getElem hk2
    have hs := take_steps l k hk2
    generalize l[k] = x at hx hs
    generalize l[k + 1] = y at hy hs
    have hlen : ((stepsP l).take k).length = k := by simp; omega
    have hw2 : IntKind.i64.wrap ((k : Int) + 1 - 1) = (k : Int) := by rw [wrap64_in _ (by omega) (by omega)]; omega
    have hw3 : IntKind.i64.wrap ((k : Int) + 1 + 1) = (k : Int) + 1 + 1 := wrap64_in _ (by omega) (by omega)
    have hc : ((k : Int) + 1 < (l.length : Int)) = True := eq_true (by omega)
    have ht : ((k : Int) + 1).toNat = k + 1 := by omega
    have hp : (0 ≤ (k : Int) + 1) = True := eq_true (by omega)
    generalize (stepsP l).take k = L at hs hlen
    simp (implicitDefEqProofs := false) only [↓reduceIte, go_sem, oread, owrite, Nat.reduceAdd, Nat.reduceSub, Nat.reduceMul, Nat.reduceLT, Nat.reduceLeDiff, Nat.reduceEqDiff, Nat.reduceBEq, Int.reduceLE, Int.reduceLT, Int.reduceEq, Int.reduceNe, Int.reduceAdd, Int.reduceSub, Int.reduceMul, Int.reduceNeg, Int.reduceToNat, Int.reduceNatCast, reduceCtorEq, eq_self, t0, t3, t4, hc]
    refine awp_drawK 15 K.mixed (by kernel_rfl) (by kernel_rfl) ?_
    simp (implicitDefEqProofs := false) only [↓reduceIte, go_sem, oread, owrite, Nat.reduceAdd, Nat.reduceSub, Nat.reduceMul, Nat.reduceLT, Nat.reduceLeDiff, Nat.reduceEqDiff, Nat.reduceBEq, Int.reduceLE, Int.reduceLT, Int.reduceEq, Int.reduceNe, Int.reduceAdd, Int.reduceSub, Int.reduceMul, Int.reduceNeg, Int.reduceToNat, Int.reduceNatCast, reduceCtorEq, eq_self, t0, t3, t4, hw2, hx, hy, hc, ht, hp, hk1, hk2, Val.enc]
    refine KCall.ok (zig_does _ (wrap64_rng _).1 (wrap64_rng _).2 _) ?_
    simp (implicitDefEqProofs := false) only [↓reduceIte, go_sem, oread, owrite, Nat.reduceAdd, Nat.reduceSub, Nat.reduceMul, Nat.reduceLT, Nat.reduceLeDiff, Nat.reduceEqDiff, Nat.reduceBEq, Int.reduceLE, Int.reduceLT, Int.reduceEq, Int.reduceNe, Int.reduceAdd, Int.reduceSub, Int.reduceMul, Int.reduceNeg, Int.reduceToNat, Int.reduceNatCast, reduceCtorEq, eq_self, us_len, hlen, t4, us_snoc]
    refine ⟨by omega, by omega, Rnd.same ⟨?_, ?_⟩⟩
    · rw [hs]; rfl
    · simp (implicitDefEqProofs := false) only [↓reduceIte, go_sem, oread, owrite, Nat.reduceAdd, Nat.reduceSub, Nat.reduceMul, Nat.reduceLT, Nat.reduceLeDiff, Nat.reduceEqDiff, Nat.reduceBEq, Int.reduceLE, Int.reduceLT, Int.reduceEq, Int.reduceNe, Int.reduceAdd, Int.reduceSub, Int.reduceMul, Int.reduceNeg, Int.reduceToNat, Int.reduceNatCast, reduceCtorEq, eq_self, t0, hw3]
      trace_state
  · rintro s H' ⟨rfl, t0, t3, t4⟩
    have hc : (((l.length - 1 : Nat) : Int) + 1 < (l.length : Int)) = False := eq_false (by omega)
    simp (implicitDefEqProofs := false) only [↓reduceIte, go_sem, oread, owrite, Nat.reduceAdd, Nat.reduceSub, Nat.reduceMul, Nat.reduceLT, Nat.reduceLeDiff, Nat.reduceEqDiff, Nat.reduceBEq, Int.reduceLE, Int.reduceLT, Int.reduceEq, Int.reduceNe, Int.reduceAdd, Int.reduceSub, Int.reduceMul, Int.reduceNeg, Int.reduceToNat, Int.reduceNatCast, reduceCtorEq, eq_self, t0, t3, t4, hc]
    refine AEnd.ret ?_
    simp (implicitDefEqProofs := false) only [↓reduceIte, go_sem, oread, owrite, Nat.reduceAdd, Nat.reduceSub, Nat.reduceMul, Nat.reduceLT, Nat.reduceLeDiff, Nat.reduceEqDiff, Nat.reduceBEq, Int.reduceLE, Int.reduceLT, Int.reduceEq, Int.reduceNe, Int.reduceAdd, Int.reduceSub, Int.reduceMul, Int.reduceNeg, Int.reduceToNat, Int.reduceNatCast, reduceCtorEq, eq_self, take_len, us_len, hsl]
end Go.Proofs.Ytcdnbefcccdaeaa

/- The law PredThree: what it does. -/
import Derived.Test.YtmhmnmokmamnoaaLaw13
namespace Go.Proofs.Ytmhmnmokmamnoaa
open Go.Proofs.YtmhmnmokmamnoaaAw Go.RowKit
set_option linter.unusedVariables false
set_option linter.unusedSimpArgs false
theorem holds_bare7 (c v : Val) : holdsP ⟨0, 7, c⟩ v = decide (v.kind = 0) := by simp [holdsP, bareP]
theorem holds_bare8 (c v : Val) : holdsP ⟨0, 8, c⟩ v = !decide (v.kind = 0) := by simp [holdsP, bareP]
theorem holds_ask (op : Int) (c v : Val) (h : bareP op = false) : holdsP ⟨0, op, c⟩ v = if v.kind = 0 ∨ v.kind ≠ c.kind then false else askP op (cmpV v c) := by simp [holdsP, h]
theorem ask_1 (c : Int) : askP 1 c = decide (c = 0) := rfl
theorem ask_2 (c : Int) : askP 2 c = !decide (c = 0) := rfl
theorem ask_3 (c : Int) : askP 3 c = decide (c < 0) := rfl
theorem ask_4 (c : Int) : askP 4 c = decide (c ≤ 0) := rfl
theorem ask_5 (c : Int) : askP 5 c = decide (0 < c) := rfl
theorem ask_6 (c : Int) : askP 6 c = decide (0 ≤ c) := rfl
set_option maxRecDepth 10000 in
set_option maxHeartbeats 2000000 in
theorem predThree_walk (c v : Val) (H : AHeap) : Does Try.prog 4 [c.av, v.av] H (.ok (bA true)) H := by
  refine Does.of_awp (hint := (fun _ => false)) Try.func4 (by kernel_rfl) rfl [4] (by kernel_rfl) (by decide) (by simp [Try.ntmps4]) ?_
  rw [Try.ntmps4]
  simp (implicitDefEqProofs := false) only [↓reduceIte, go_sem, oread, owrite, Nat.reduceAdd, Nat.reduceSub, Nat.reduceMul, Nat.reduceLT, Nat.reduceLeDiff, Nat.reduceEqDiff, Nat.reduceBEq, Int.reduceLE, Int.reduceLT, Int.reduceEq, Int.reduceNe, Int.reduceAdd, Int.reduceSub, Int.reduceMul, Int.reduceNeg, Int.reduceToNat, Int.reduceNatCast, reduceCtorEq, eq_self]
  refine KCall.ok (shown13_does _) ?_
  simp (implicitDefEqProofs := false) only [↓reduceIte, go_sem, oread, owrite, Nat.reduceAdd, Nat.reduceSub, Nat.reduceMul, Nat.reduceLT, Nat.reduceLeDiff, Nat.reduceEqDiff, Nat.reduceBEq, Int.reduceLE, Int.reduceLT, Int.reduceEq, Int.reduceNe, Int.reduceAdd, Int.reduceSub, Int.reduceMul, Int.reduceNeg, Int.reduceToNat, Int.reduceNatCast, reduceCtorEq, eq_self]
  by_cases h0 : c.kind = 0
  · simp (implicitDefEqProofs := false) only [↓reduceIte, go_sem, oread, owrite, Nat.reduceAdd, Nat.reduceSub, Nat.reduceMul, Nat.reduceLT, Nat.reduceLeDiff, Nat.reduceEqDiff, Nat.reduceBEq, Int.reduceLE, Int.reduceLT, Int.reduceEq, Int.reduceNe, Int.reduceAdd, Int.reduceSub, Int.reduceMul, Int.reduceNeg, Int.reduceToNat, Int.reduceNatCast, reduceCtorEq, eq_self, h0]
    refine AEnd.ret ?_
    simp (implicitDefEqProofs := false) only [↓reduceIte, go_sem, oread, owrite, Nat.reduceAdd, Nat.reduceSub, Nat.reduceMul, Nat.reduceLT, Nat.reduceLeDiff, Nat.reduceEqDiff, Nat.reduceBEq, Int.reduceLE, Int.reduceLT, Int.reduceEq, Int.reduceNe, Int.reduceAdd, Int.reduceSub, Int.reduceMul, Int.reduceNeg, Int.reduceToNat, Int.reduceNatCast, reduceCtorEq, eq_self]
  simp (implicitDefEqProofs := false) only [↓reduceIte, go_sem, oread, owrite, Nat.reduceAdd, Nat.reduceSub, Nat.reduceMul, Nat.reduceLT, Nat.reduceLeDiff, Nat.reduceEqDiff, Nat.reduceBEq, Int.reduceLE, Int.reduceLT, Int.reduceEq, Int.reduceNe, Int.reduceAdd, Int.reduceSub, Int.reduceMul, Int.reduceNeg, Int.reduceToNat, Int.reduceNatCast, reduceCtorEq, eq_self, h0]
  refine KCall.ok (holds_does ⟨0, 1, c⟩ v _) ?_
  simp (implicitDefEqProofs := false) only [↓reduceIte, go_sem, oread, owrite, Nat.reduceAdd, Nat.reduceSub, Nat.reduceMul, Nat.reduceLT, Nat.reduceLeDiff, Nat.reduceEqDiff, Nat.reduceBEq, Int.reduceLE, Int.reduceLT, Int.reduceEq, Int.reduceNe, Int.reduceAdd, Int.reduceSub, Int.reduceMul, Int.reduceNeg, Int.reduceToNat, Int.reduceNatCast, reduceCtorEq, eq_self]
  refine KCall.ok (holds_does ⟨0, 2, c⟩ v _) ?_
  simp (implicitDefEqProofs := false) only [↓reduceIte, go_sem, oread, owrite, Nat.reduceAdd, Nat.reduceSub, Nat.reduceMul, Nat.reduceLT, Nat.reduceLeDiff, Nat.reduceEqDiff, Nat.reduceBEq, Int.reduceLE, Int.reduceLT, Int.reduceEq, Int.reduceNe, Int.reduceAdd, Int.reduceSub, Int.reduceMul, Int.reduceNeg, Int.reduceToNat, Int.reduceNatCast, reduceCtorEq, eq_self]
  refine KCall.ok (holds_does ⟨0, 3, c⟩ v _) ?_
  simp (implicitDefEqProofs := false) only [↓reduceIte, go_sem, oread, owrite, Nat.reduceAdd, Nat.reduceSub, Nat.reduceMul, Nat.reduceLT, Nat.reduceLeDiff, Nat.reduceEqDiff, Nat.reduceBEq, Int.reduceLE, Int.reduceLT, Int.reduceEq, Int.reduceNe, Int.reduceAdd, Int.reduceSub, Int.reduceMul, Int.reduceNeg, Int.reduceToNat, Int.reduceNatCast, reduceCtorEq, eq_self]
  refine KCall.ok (holds_does ⟨0, 4, c⟩ v _) ?_
  simp (implicitDefEqProofs := false) only [↓reduceIte, go_sem, oread, owrite, Nat.reduceAdd, Nat.reduceSub, Nat.reduceMul, Nat.reduceLT, Nat.reduceLeDiff, Nat.reduceEqDiff, Nat.reduceBEq, Int.reduceLE, Int.reduceLT, Int.reduceEq, Int.reduceNe, Int.reduceAdd, Int.reduceSub, Int.reduceMul, Int.reduceNeg, Int.reduceToNat, Int.reduceNatCast, reduceCtorEq, eq_self]
  refine KCall.ok (holds_does ⟨0, 5, c⟩ v _) ?_
  simp (implicitDefEqProofs := false) only [↓reduceIte, go_sem, oread, owrite, Nat.reduceAdd, Nat.reduceSub, Nat.reduceMul, Nat.reduceLT, Nat.reduceLeDiff, Nat.reduceEqDiff, Nat.reduceBEq, Int.reduceLE, Int.reduceLT, Int.reduceEq, Int.reduceNe, Int.reduceAdd, Int.reduceSub, Int.reduceMul, Int.reduceNeg, Int.reduceToNat, Int.reduceNatCast, reduceCtorEq, eq_self]
  refine KCall.ok (holds_does ⟨0, 6, c⟩ v _) ?_
  simp (implicitDefEqProofs := false) only [↓reduceIte, go_sem, oread, owrite, Nat.reduceAdd, Nat.reduceSub, Nat.reduceMul, Nat.reduceLT, Nat.reduceLeDiff, Nat.reduceEqDiff, Nat.reduceBEq, Int.reduceLE, Int.reduceLT, Int.reduceEq, Int.reduceNe, Int.reduceAdd, Int.reduceSub, Int.reduceMul, Int.reduceNeg, Int.reduceToNat, Int.reduceNatCast, reduceCtorEq, eq_self]
  refine KCall.ok (holds_does ⟨0, 7, ⟨0, 0, noS⟩⟩ v _) ?_
  simp (implicitDefEqProofs := false) only [↓reduceIte, go_sem, oread, owrite, Nat.reduceAdd, Nat.reduceSub, Nat.reduceMul, Nat.reduceLT, Nat.reduceLeDiff, Nat.reduceEqDiff, Nat.reduceBEq, Int.reduceLE, Int.reduceLT, Int.reduceEq, Int.reduceNe, Int.reduceAdd, Int.reduceSub, Int.reduceMul, Int.reduceNeg, Int.reduceToNat, Int.reduceNatCast, reduceCtorEq, eq_self]
  refine KCall.ok (holds_does ⟨0, 8, ⟨0, 0, noS⟩⟩ v _) ?_
  rw [holds_bare7, holds_bare8, holds_ask 1 c v rfl, holds_ask 2 c v rfl, holds_ask 3 c v rfl, holds_ask 4 c v rfl, holds_ask 5 c v rfl, holds_ask 6 c v rfl, ask_1, ask_2, ask_3, ask_4, ask_5, ask_6]
  by_cases hk : v.kind = c.kind
  · have hv0 : ¬ v.kind = 0 := by rw [hk]; exact h0
    rw [if_neg (by simp [h0, hv0, hk]), if_neg (by simp [h0, hv0, hk]), if_neg (by simp [h0, hv0, hk]), if_neg (by simp [h0, hv0, hk]), if_neg (by simp [h0, hv0, hk]), if_neg (by simp [h0, hv0, hk])]
    have hk' := eq_true hk
    generalize cmpV v c = z
    rcases Int.lt_trichotomy z 0 with hz | hz | hz
    · have e1 : decide (z = 0) = false := decide_eq_false (by omega)
      have e2 : decide (z < 0) = true := decide_eq_true (by omega)
      have e3 : decide (z ≤ 0) = true := decide_eq_true (by omega)
      have e4 : decide (0 < z) = false := decide_eq_false (by omega)
      have e5 : decide (0 ≤ z) = false := decide_eq_false (by omega)
      rw [e1, e2, e3, e4, e5]
      simp (implicitDefEqProofs := false) only [↓reduceIte, go_sem, oread, owrite, Nat.reduceAdd, Nat.reduceSub, Nat.reduceMul, Nat.reduceLT, Nat.reduceLeDiff, Nat.reduceEqDiff, Nat.reduceBEq, Int.reduceLE, Int.reduceLT, Int.reduceEq, Int.reduceNe, Int.reduceAdd, Int.reduceSub, Int.reduceMul, Int.reduceNeg, Int.reduceToNat, Int.reduceNatCast, reduceCtorEq, eq_self, hv0, hk']
      refine AEnd.ret ?_
      simp (implicitDefEqProofs := false) only [↓reduceIte, go_sem, oread, owrite, Nat.reduceAdd, Nat.reduceSub, Nat.reduceMul, Nat.reduceLT, Nat.reduceLeDiff, Nat.reduceEqDiff, Nat.reduceBEq, Int.reduceLE, Int.reduceLT, Int.reduceEq, Int.reduceNe, Int.reduceAdd, Int.reduceSub, Int.reduceMul, Int.reduceNeg, Int.reduceToNat, Int.reduceNatCast, reduceCtorEq, eq_self]
    · have e1 : decide (z = 0) = true := decide_eq_true (by omega)
      have e2 : decide (z < 0) = false := decide_eq_false (by omega)
      have e3 : decide (z ≤ 0) = true := decide_eq_true (by omega)
      have e4 : decide (0 < z) = false := decide_eq_false (by omega)
      have e5 : decide (0 ≤ z) = true := decide_eq_true (by omega)
      rw [e1, e2, e3, e4, e5]
      simp (implicitDefEqProofs := false) only [↓reduceIte, go_sem, oread, owrite, Nat.reduceAdd, Nat.reduceSub, Nat.reduceMul, Nat.reduceLT, Nat.reduceLeDiff, Nat.reduceEqDiff, Nat.reduceBEq, Int.reduceLE, Int.reduceLT, Int.reduceEq, Int.reduceNe, Int.reduceAdd, Int.reduceSub, Int.reduceMul, Int.reduceNeg, Int.reduceToNat, Int.reduceNatCast, reduceCtorEq, eq_self, hv0, hk']
      refine AEnd.ret ?_
      simp (implicitDefEqProofs := false) only [↓reduceIte, go_sem, oread, owrite, Nat.reduceAdd, Nat.reduceSub, Nat.reduceMul, Nat.reduceLT, Nat.reduceLeDiff, Nat.reduceEqDiff, Nat.reduceBEq, Int.reduceLE, Int.reduceLT, Int.reduceEq, Int.reduceNe, Int.reduceAdd, Int.reduceSub, Int.reduceMul, Int.reduceNeg, Int.reduceToNat, Int.reduceNatCast, reduceCtorEq, eq_self]
    · have e1 : decide (z = 0) = false := decide_eq_false (by omega)
      have e2 : decide (z < 0) = false := decide_eq_false (by omega)
      have e3 : decide (z ≤ 0) = false := decide_eq_false (by omega)
      have e4 : decide (0 < z) = true := decide_eq_true (by omega)
      have e5 : decide (0 ≤ z) = true := decide_eq_true (by omega)
      rw [e1, e2, e3, e4, e5]
      simp (implicitDefEqProofs := false) only [↓reduceIte, go_sem, oread, owrite, Nat.reduceAdd, Nat.reduceSub, Nat.reduceMul, Nat.reduceLT, Nat.reduceLeDiff, Nat.reduceEqDiff, Nat.reduceBEq, Int.reduceLE, Int.reduceLT, Int.reduceEq, Int.reduceNe, Int.reduceAdd, Int.reduceSub, Int.reduceMul, Int.reduceNeg, Int.reduceToNat, Int.reduceNatCast, reduceCtorEq, eq_self, hv0, hk']
      refine AEnd.ret ?_
      simp (implicitDefEqProofs := false) only [↓reduceIte, go_sem, oread, owrite, Nat.reduceAdd, Nat.reduceSub, Nat.reduceMul, Nat.reduceLT, Nat.reduceLeDiff, Nat.reduceEqDiff, Nat.reduceBEq, Int.reduceLE, Int.reduceLT, Int.reduceEq, Int.reduceNe, Int.reduceAdd, Int.reduceSub, Int.reduceMul, Int.reduceNeg, Int.reduceToNat, Int.reduceNatCast, reduceCtorEq, eq_self]
  · rw [if_pos (.inr hk), if_pos (.inr hk), if_pos (.inr hk), if_pos (.inr hk), if_pos (.inr hk), if_pos (.inr hk)]
    by_cases hv0 : v.kind = 0
    · have hk2 : ((0 : Int) = c.kind) = False := eq_false fun e => h0 e.symm
      simp (implicitDefEqProofs := false) only [↓reduceIte, go_sem, oread, owrite, Nat.reduceAdd, Nat.reduceSub, Nat.reduceMul, Nat.reduceLT, Nat.reduceLeDiff, Nat.reduceEqDiff, Nat.reduceBEq, Int.reduceLE, Int.reduceLT, Int.reduceEq, Int.reduceNe, Int.reduceAdd, Int.reduceSub, Int.reduceMul, Int.reduceNeg, Int.reduceToNat, Int.reduceNatCast, reduceCtorEq, eq_self, hv0, hk2]
      refine AEnd.ret ?_
      simp (implicitDefEqProofs := false) only [↓reduceIte, go_sem, oread, owrite, Nat.reduceAdd, Nat.reduceSub, Nat.reduceMul, Nat.reduceLT, Nat.reduceLeDiff, Nat.reduceEqDiff, Nat.reduceBEq, Int.reduceLE, Int.reduceLT, Int.reduceEq, Int.reduceNe, Int.reduceAdd, Int.reduceSub, Int.reduceMul, Int.reduceNeg, Int.reduceToNat, Int.reduceNatCast, reduceCtorEq, eq_self]
    · simp (implicitDefEqProofs := false) only [↓reduceIte, go_sem, oread, owrite, Nat.reduceAdd, Nat.reduceSub, Nat.reduceMul, Nat.reduceLT, Nat.reduceLeDiff, Nat.reduceEqDiff, Nat.reduceBEq, Int.reduceLE, Int.reduceLT, Int.reduceEq, Int.reduceNe, Int.reduceAdd, Int.reduceSub, Int.reduceMul, Int.reduceNeg, Int.reduceToNat, Int.reduceNatCast, reduceCtorEq, eq_self, hv0, hk]
      refine AEnd.ret ?_
      simp (implicitDefEqProofs := false) only [↓reduceIte, go_sem, oread, owrite, Nat.reduceAdd, Nat.reduceSub, Nat.reduceMul, Nat.reduceLT, Nat.reduceLeDiff, Nat.reduceEqDiff, Nat.reduceBEq, Int.reduceLE, Int.reduceLT, Int.reduceEq, Int.reduceNe, Int.reduceAdd, Int.reduceSub, Int.reduceMul, Int.reduceNeg, Int.reduceToNat, Int.reduceNatCast, reduceCtorEq, eq_self]
theorem argVal {x : AV} (h : ArgOk Try.prog 25 x) : ∃ v : Val, x = v.av ∧ v.Ok := by
  obtain ⟨ds, rfl, hf⟩ := arg_agg h K.agB25 (shs := shVal) (by kernel_rfl)
  obtain ⟨v, rfl, hv⟩ := val_inv hf
  exact ⟨v, rfl, hv⟩
theorem predThree_does (x0 : AV) (h0 : ArgOk Try.prog 25 x0) (x1 : AV) (h1 : ArgOk Try.prog 25 x1) : Does Try.prog 4 [x0, x1] [] (.ok (.d (.v (.bool true)))) [] := by
  obtain ⟨c, rfl, _⟩ := argVal h0
  obtain ⟨v, rfl, _⟩ := argVal h1
  exact predThree_walk c v []
end Go.Proofs.Ytmhmnmokmamnoaa

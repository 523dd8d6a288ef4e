/- slices.Clone over Atom: what it does. -/
import Derived.Test.YtmhmnmokmamnoaaAwJ
import Derived.Test.YtmhmnmokmamnoaaData
namespace Go.Proofs.Ytmhmnmokmamnoaa
open Go.Proofs.YtmhmnmokmamnoaaAw Go.RowKit
set_option linter.unusedVariables false
set_option linter.unusedSimpArgs false
namespace SA
theorem encK (l : List Atom) : (∀ c ∈ l.map Atom.enc, c.length = 5) = True := eq_true fun c hc => by obtain ⟨a, _, rfl⟩ := List.mem_map.1 hc; rfl
theorem nilnil (K : Value → Prop) : binK Try.prog .eql 36 (.slice none 0 0) (.slice none 0 0) K = K (.bool true) := nilEq_bin (e := 32) (by kernel_rfl) K
set_option maxRecDepth 10000 in
theorem cloneNil_does (H : AHeap) : Does Try.prog 39 [.d (.v (.slice none 0 0))] H (.ok (.d (.v (.slice none 0 0)))) H := by
  refine Does.of_awp (hint := (fun _ => false)) Try.func39 (by kernel_rfl) rfl [2] (by kernel_rfl) (by decide) (by simp [Try.ntmps39]) ?_
  rw [Try.ntmps39]
  simp (implicitDefEqProofs := false) only [↓reduceIte, go_sem, oread, owrite, Nat.reduceAdd, Nat.reduceSub, Nat.reduceMul, Nat.reduceLT, Nat.reduceLeDiff, Nat.reduceEqDiff, Nat.reduceBEq, Int.reduceLE, Int.reduceLT, Int.reduceEq, Int.reduceNe, Int.reduceAdd, Int.reduceSub, Int.reduceMul, Int.reduceNeg, Int.reduceToNat, Int.reduceNatCast, reduceCtorEq, eq_self, nilnil]
  refine AEnd.ret0 ?_
  simp (implicitDefEqProofs := false) only [↓reduceIte, go_sem, oread, owrite, Nat.reduceAdd, Nat.reduceSub, Nat.reduceMul, Nat.reduceLT, Nat.reduceLeDiff, Nat.reduceEqDiff, Nat.reduceBEq, Int.reduceLE, Int.reduceLT, Int.reduceEq, Int.reduceNe, Int.reduceAdd, Int.reduceSub, Int.reduceMul, Int.reduceNeg, Int.reduceToNat, Int.reduceNatCast, reduceCtorEq, eq_self]
set_option maxRecDepth 10000 in
theorem cloneK_does (l : List Atom) (nn : Bool) (H : AHeap) (h0 : nn = true ∨ l ≠ []) (hl : l.length ≤ 1000000000000) : Does Try.prog 39 [.d (.list nn (l.map Atom.enc))] H (.ok (.sl H.length 1 0 l.length)) (H ++ [.arr 32 5 1 (l.map Atom.enc)]) := by
  have e1 : (nn || !(l.map Atom.enc).isEmpty) = true := by
    rcases h0 with h | h
    · simp [h]
    · cases l with
      | nil => exact absurd rfl h
      | cons a l => simp
  refine Does.of_awp (hint := (fun _ => false)) Try.func39 (by kernel_rfl) rfl [2] (by kernel_rfl) (by decide) (by simp [Try.ntmps39]) ?_
  rw [Try.ntmps39]
  simp (implicitDefEqProofs := false) only [↓reduceIte, go_sem, oread, owrite, Nat.reduceAdd, Nat.reduceSub, Nat.reduceMul, Nat.reduceLT, Nat.reduceLeDiff, Nat.reduceEqDiff, Nat.reduceBEq, Int.reduceLE, Int.reduceLT, Int.reduceEq, Int.reduceNe, Int.reduceAdd, Int.reduceSub, Int.reduceMul, Int.reduceNeg, Int.reduceToNat, Int.reduceNatCast, reduceCtorEq, eq_self, e1, encK]
  refine ⟨by omega, by omega, _, Weak.refl _ _, ?_⟩
  simp (implicitDefEqProofs := false) only [↓reduceIte, go_sem, oread, owrite, Nat.reduceAdd, Nat.reduceSub, Nat.reduceMul, Nat.reduceLT, Nat.reduceLeDiff, Nat.reduceEqDiff, Nat.reduceBEq, Int.reduceLE, Int.reduceLT, Int.reduceEq, Int.reduceNe, Int.reduceAdd, Int.reduceSub, Int.reduceMul, Int.reduceNeg, Int.reduceToNat, Int.reduceNatCast, reduceCtorEq, eq_self]
/-- A copy of one's own. -/
theorem clone_does (l : List Atom) (nn : Bool) (H : AHeap) (hl : l.length ≤ 1000000000000) : Does Try.prog 39 [.d (.list nn (l.map Atom.enc))] H (.ok (.sl H.length 1 0 l.length)) (H ++ [.arr 32 5 1 (l.map Atom.enc)]) := by
  cases nn with
  | true => exact cloneK_does l true H (.inl rfl) hl
  | false =>
    cases l with
    | cons a l => exact cloneK_does _ false H (.inr (by simp)) hl
    | nil =>
      refine Does.splitNil [] [] ?_ (cloneK_does [] true H (.inl rfl) (by simp))
      have := (cloneNil_does H).weak (Weak.virtV (sOne _) H 0 32 5 1 (by decide) rfl)
      simpa [sOne] using this
end SA
end Go.Proofs.Ytmhmnmokmamnoaa

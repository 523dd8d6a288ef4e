/- slices.Clone over Val: what it does. -/
import Derived.Test.YtkapgooedfompaaAwJ
import Derived.Test.YtkapgooedfompaaData
namespace Go.Proofs.Ytkapgooedfompaa
open Go.Proofs.YtkapgooedfompaaAw Go.RowKit
set_option linter.unusedVariables false
set_option linter.unusedSimpArgs false
namespace SV
theorem encK (l : List Val) : (∀ c ∈ l.map Val.enc, c.length = 3) = True := eq_true fun c hc => by obtain ⟨a, _, rfl⟩ := List.mem_map.1 hc; rfl
theorem nilnil (K : Value → Prop) : binK Try.prog .eql 22 (.slice none 0 0) (.slice none 0 0) K = K (.bool true) := nilEq_bin (e := 24) (by kernel_rfl) K
set_option maxRecDepth 10000 in
theorem cloneNil_does (H : AHeap) : Does Try.prog 24 [.d (.v (.slice none 0 0))] H (.ok (.d (.v (.slice none 0 0)))) H := by
  refine Does.of_awp (hint := (fun _ => false)) Try.func24 (by kernel_rfl) rfl [2] (by kernel_rfl) (by decide) (by simp [Try.ntmps24]) ?_
  rw [Try.ntmps24]
  simp (implicitDefEqProofs := false) only [↓reduceIte, go_sem, oread, owrite, Nat.reduceAdd, Nat.reduceSub, Nat.reduceMul, Nat.reduceLT, Nat.reduceLeDiff, Nat.reduceEqDiff, Nat.reduceBEq, Int.reduceLE, Int.reduceLT, Int.reduceEq, Int.reduceNe, Int.reduceAdd, Int.reduceSub, Int.reduceMul, Int.reduceNeg, Int.reduceToNat, Int.reduceNatCast, reduceCtorEq, eq_self, nilnil]
  refine AEnd.ret0 ?_
  simp (implicitDefEqProofs := false) only [↓reduceIte, go_sem, oread, owrite, Nat.reduceAdd, Nat.reduceSub, Nat.reduceMul, Nat.reduceLT, Nat.reduceLeDiff, Nat.reduceEqDiff, Nat.reduceBEq, Int.reduceLE, Int.reduceLT, Int.reduceEq, Int.reduceNe, Int.reduceAdd, Int.reduceSub, Int.reduceMul, Int.reduceNeg, Int.reduceToNat, Int.reduceNatCast, reduceCtorEq, eq_self]
set_option maxRecDepth 10000 in
theorem cloneK_does (l : List Val) (nn : Bool) (H : AHeap) (h0 : nn = true ∨ l ≠ []) (hl : l.length ≤ 1000000000000) : Does Try.prog 24 [.d (.list nn (l.map Val.enc))] H (.ok (.sl H.length 1 0 l.length)) (H ++ [.arr 24 3 1 (l.map Val.enc)]) := by
  have e1 : (nn || !(l.map Val.enc).isEmpty) = true := by
    rcases h0 with h | h
    · simp [h]
    · cases l with
      | nil => exact absurd rfl h
      | cons a l => simp
  refine Does.of_awp (hint := (fun _ => false)) Try.func24 (by kernel_rfl) rfl [2] (by kernel_rfl) (by decide) (by simp [Try.ntmps24]) ?_
  rw [Try.ntmps24]
  simp (implicitDefEqProofs := false) only [↓reduceIte, go_sem, oread, owrite, Nat.reduceAdd, Nat.reduceSub, Nat.reduceMul, Nat.reduceLT, Nat.reduceLeDiff, Nat.reduceEqDiff, Nat.reduceBEq, Int.reduceLE, Int.reduceLT, Int.reduceEq, Int.reduceNe, Int.reduceAdd, Int.reduceSub, Int.reduceMul, Int.reduceNeg, Int.reduceToNat, Int.reduceNatCast, reduceCtorEq, eq_self, e1, encK]
  refine ⟨by omega, by omega, _, Weak.refl _ _, ?_⟩
  simp (implicitDefEqProofs := false) only [↓reduceIte, go_sem, oread, owrite, Nat.reduceAdd, Nat.reduceSub, Nat.reduceMul, Nat.reduceLT, Nat.reduceLeDiff, Nat.reduceEqDiff, Nat.reduceBEq, Int.reduceLE, Int.reduceLT, Int.reduceEq, Int.reduceNe, Int.reduceAdd, Int.reduceSub, Int.reduceMul, Int.reduceNeg, Int.reduceToNat, Int.reduceNatCast, reduceCtorEq, eq_self]
/-- A copy of one's own. -/
theorem clone_does (l : List Val) (nn : Bool) (H : AHeap) (hl : l.length ≤ 1000000000000) : Does Try.prog 24 [.d (.list nn (l.map Val.enc))] H (.ok (.sl H.length 1 0 l.length)) (H ++ [.arr 24 3 1 (l.map Val.enc)]) := by
  cases nn with
  | true => exact cloneK_does l true H (.inl rfl) hl
  | false =>
    cases l with
    | cons a l => exact cloneK_does _ false H (.inr (by simp)) hl
    | nil =>
      refine Does.splitNil [] [] ?_ (cloneK_does [] true H (.inl rfl) (by simp))
      have := (cloneNil_does H).weak (Weak.virtV (sOne _) H 0 24 3 1 (by decide) rfl)
      simpa [sOne] using this
end SV
end Go.Proofs.Ytkapgooedfompaa

/- The law PredAnds: what it does. -/
import Derived.Test.YtmhmnmokmamnoaaLaw13
namespace Go.Proofs.Ytmhmnmokmamnoaa
open Go.Proofs.YtmhmnmokmamnoaaAw Go.RowKit
set_option linter.unusedVariables false
set_option linter.unusedSimpArgs false
theorem allP_append (l m : List Atom) (row : List Val) : allP (l ++ m) row = (allP l row && allP m row) := by simp [allP]
set_option maxRecDepth 10000 in
set_option maxHeartbeats 2000000 in
theorem predAnds_walk (l m : List Atom) (row : List Val) (hl : l.length ≤ 1000000000000000) (hm : m.length ≤ 1000000000000000) (H : AHeap) : Does Try.prog 6 [.d (.list false (l.map Atom.enc)), .d (.list false (m.map Atom.enc)), .d (.list false (row.map Val.enc))] H (.ok (bA true)) H := by
  refine Does.of_awp (hint := (fun t => t == 1000005)) Try.func6 (by kernel_rfl) rfl [6] (by kernel_rfl) (by decide) (by simp [Try.ntmps6]) ?_
  rw [Try.ntmps6]
  simp (implicitDefEqProofs := false) only [↓reduceIte, go_sem, oread, owrite, Nat.reduceAdd, Nat.reduceSub, Nat.reduceMul, Nat.reduceLT, Nat.reduceLeDiff, Nat.reduceEqDiff, Nat.reduceBEq, Int.reduceLE, Int.reduceLT, Int.reduceEq, Int.reduceNe, Int.reduceAdd, Int.reduceSub, Int.reduceMul, Int.reduceNeg, Int.reduceToNat, Int.reduceNatCast, reduceCtorEq, eq_self]
  refine KCall.ok (shown13_does _) ?_
  simp (implicitDefEqProofs := false) only [↓reduceIte, go_sem, oread, owrite, Nat.reduceAdd, Nat.reduceSub, Nat.reduceMul, Nat.reduceLT, Nat.reduceLeDiff, Nat.reduceEqDiff, Nat.reduceBEq, Int.reduceLE, Int.reduceLT, Int.reduceEq, Int.reduceNe, Int.reduceAdd, Int.reduceSub, Int.reduceMul, Int.reduceNeg, Int.reduceToNat, Int.reduceNatCast, reduceCtorEq, eq_self]
  refine KCall.ok (few13_does l _ hl) ?_
  simp (implicitDefEqProofs := false) only [↓reduceIte, go_sem, oread, owrite, Nat.reduceAdd, Nat.reduceSub, Nat.reduceMul, Nat.reduceLT, Nat.reduceLeDiff, Nat.reduceEqDiff, Nat.reduceBEq, Int.reduceLE, Int.reduceLT, Int.reduceEq, Int.reduceNe, Int.reduceAdd, Int.reduceSub, Int.reduceMul, Int.reduceNeg, Int.reduceToNat, Int.reduceNatCast, reduceCtorEq, eq_self]
  refine KCall.ok (few13_does m _ hm) ?_
  have hl' : (l.take 100).length ≤ 100 := by simp; omega
  have hm' : (m.take 100).length ≤ 100 := by simp; omega
  clear hl hm
  generalize l.take 100 = l at hl' ⊢
  generalize m.take 100 = m at hm' ⊢
  simp (implicitDefEqProofs := false) only [↓reduceIte, go_sem, oread, owrite, Nat.reduceAdd, Nat.reduceSub, Nat.reduceMul, Nat.reduceLT, Nat.reduceLeDiff, Nat.reduceEqDiff, Nat.reduceBEq, Int.reduceLE, Int.reduceLT, Int.reduceEq, Int.reduceNe, Int.reduceAdd, Int.reduceSub, Int.reduceMul, Int.reduceNeg, Int.reduceToNat, Int.reduceNatCast, reduceCtorEq, eq_self, enc5]
  refine ⟨by omega, by omega, by omega, by omega, _, _, Weak.drop H _ _, ?_⟩
  have e1 : List.take (l.length + m.length) (List.map Atom.enc l ++ List.map Atom.enc m) = (l ++ m).map Atom.enc := by rw [List.map_append]; exact List.take_of_length_le (by simp)
  simp (implicitDefEqProofs := false) only [↓reduceIte, go_sem, oread, owrite, Nat.reduceAdd, Nat.reduceSub, Nat.reduceMul, Nat.reduceLT, Nat.reduceLeDiff, Nat.reduceEqDiff, Nat.reduceBEq, Int.reduceLE, Int.reduceLT, Int.reduceEq, Int.reduceNe, Int.reduceAdd, Int.reduceSub, Int.reduceMul, Int.reduceNeg, Int.reduceToNat, Int.reduceNatCast, reduceCtorEq, eq_self]
  rw [e1]
  refine KCall.ok (all_does (l ++ m) row _ _ _ (by simp; omega)) ?_
  simp (implicitDefEqProofs := false) only [↓reduceIte, go_sem, oread, owrite, Nat.reduceAdd, Nat.reduceSub, Nat.reduceMul, Nat.reduceLT, Nat.reduceLeDiff, Nat.reduceEqDiff, Nat.reduceBEq, Int.reduceLE, Int.reduceLT, Int.reduceEq, Int.reduceNe, Int.reduceAdd, Int.reduceSub, Int.reduceMul, Int.reduceNeg, Int.reduceToNat, Int.reduceNatCast, reduceCtorEq, eq_self]
  refine KCall.ok (all_does l row _ _ _ (by omega)) ?_
  have e2 := allP_append l m row
  generalize allP (l ++ m) row = w at e2 ⊢
  have e3 : allP [] row = true := rfl
  cases h1 : allP l row with
  | true =>
    simp (implicitDefEqProofs := false) only [↓reduceIte, go_sem, oread, owrite, Nat.reduceAdd, Nat.reduceSub, Nat.reduceMul, Nat.reduceLT, Nat.reduceLeDiff, Nat.reduceEqDiff, Nat.reduceBEq, Int.reduceLE, Int.reduceLT, Int.reduceEq, Int.reduceNe, Int.reduceAdd, Int.reduceSub, Int.reduceMul, Int.reduceNeg, Int.reduceToNat, Int.reduceNatCast, reduceCtorEq, eq_self]
    refine KCall.ok (all_does m row _ _ _ (by omega)) ?_
    rw [h1, Bool.true_and] at e2
    subst e2
    cases h2 : allP m row with
    | true =>
      simp (implicitDefEqProofs := false) only [↓reduceIte, go_sem, oread, owrite, Nat.reduceAdd, Nat.reduceSub, Nat.reduceMul, Nat.reduceLT, Nat.reduceLeDiff, Nat.reduceEqDiff, Nat.reduceBEq, Int.reduceLE, Int.reduceLT, Int.reduceEq, Int.reduceNe, Int.reduceAdd, Int.reduceSub, Int.reduceMul, Int.reduceNeg, Int.reduceToNat, Int.reduceNatCast, reduceCtorEq, eq_self]
      refine KCall.sub (.cons .nil (.cons (.refl _) .nil)) (all_does [] row false false _ (by simp)) ?_
      rw [e3]
      simp (implicitDefEqProofs := false) only [↓reduceIte, go_sem, oread, owrite, Nat.reduceAdd, Nat.reduceSub, Nat.reduceMul, Nat.reduceLT, Nat.reduceLeDiff, Nat.reduceEqDiff, Nat.reduceBEq, Int.reduceLE, Int.reduceLT, Int.reduceEq, Int.reduceNe, Int.reduceAdd, Int.reduceSub, Int.reduceMul, Int.reduceNeg, Int.reduceToNat, Int.reduceNatCast, reduceCtorEq, eq_self]
      refine AEnd.ret0 ?_
      simp (implicitDefEqProofs := false) only [↓reduceIte, go_sem, oread, owrite, Nat.reduceAdd, Nat.reduceSub, Nat.reduceMul, Nat.reduceLT, Nat.reduceLeDiff, Nat.reduceEqDiff, Nat.reduceBEq, Int.reduceLE, Int.reduceLT, Int.reduceEq, Int.reduceNe, Int.reduceAdd, Int.reduceSub, Int.reduceMul, Int.reduceNeg, Int.reduceToNat, Int.reduceNatCast, reduceCtorEq, eq_self]
    | false =>
      simp (implicitDefEqProofs := false) only [↓reduceIte, go_sem, oread, owrite, Nat.reduceAdd, Nat.reduceSub, Nat.reduceMul, Nat.reduceLT, Nat.reduceLeDiff, Nat.reduceEqDiff, Nat.reduceBEq, Int.reduceLE, Int.reduceLT, Int.reduceEq, Int.reduceNe, Int.reduceAdd, Int.reduceSub, Int.reduceMul, Int.reduceNeg, Int.reduceToNat, Int.reduceNatCast, reduceCtorEq, eq_self]
      refine KCall.sub (.cons .nil (.cons (.refl _) .nil)) (all_does [] row false false _ (by simp)) ?_
      rw [e3]
      simp (implicitDefEqProofs := false) only [↓reduceIte, go_sem, oread, owrite, Nat.reduceAdd, Nat.reduceSub, Nat.reduceMul, Nat.reduceLT, Nat.reduceLeDiff, Nat.reduceEqDiff, Nat.reduceBEq, Int.reduceLE, Int.reduceLT, Int.reduceEq, Int.reduceNe, Int.reduceAdd, Int.reduceSub, Int.reduceMul, Int.reduceNeg, Int.reduceToNat, Int.reduceNatCast, reduceCtorEq, eq_self]
      refine AEnd.ret0 ?_
      simp (implicitDefEqProofs := false) only [↓reduceIte, go_sem, oread, owrite, Nat.reduceAdd, Nat.reduceSub, Nat.reduceMul, Nat.reduceLT, Nat.reduceLeDiff, Nat.reduceEqDiff, Nat.reduceBEq, Int.reduceLE, Int.reduceLT, Int.reduceEq, Int.reduceNe, Int.reduceAdd, Int.reduceSub, Int.reduceMul, Int.reduceNeg, Int.reduceToNat, Int.reduceNatCast, reduceCtorEq, eq_self]
  | false =>
    rw [h1, Bool.false_and] at e2
    subst e2
    simp (implicitDefEqProofs := false) only [↓reduceIte, go_sem, oread, owrite, Nat.reduceAdd, Nat.reduceSub, Nat.reduceMul, Nat.reduceLT, Nat.reduceLeDiff, Nat.reduceEqDiff, Nat.reduceBEq, Int.reduceLE, Int.reduceLT, Int.reduceEq, Int.reduceNe, Int.reduceAdd, Int.reduceSub, Int.reduceMul, Int.reduceNeg, Int.reduceToNat, Int.reduceNatCast, reduceCtorEq, eq_self]
    refine KCall.sub (.cons .nil (.cons (.refl _) .nil)) (all_does [] row false false _ (by simp)) ?_
    rw [e3]
    simp (implicitDefEqProofs := false) only [↓reduceIte, go_sem, oread, owrite, Nat.reduceAdd, Nat.reduceSub, Nat.reduceMul, Nat.reduceLT, Nat.reduceLeDiff, Nat.reduceEqDiff, Nat.reduceBEq, Int.reduceLE, Int.reduceLT, Int.reduceEq, Int.reduceNe, Int.reduceAdd, Int.reduceSub, Int.reduceMul, Int.reduceNeg, Int.reduceToNat, Int.reduceNatCast, reduceCtorEq, eq_self]
    refine AEnd.ret0 ?_
    simp (implicitDefEqProofs := false) only [↓reduceIte, go_sem, oread, owrite, Nat.reduceAdd, Nat.reduceSub, Nat.reduceMul, Nat.reduceLT, Nat.reduceLeDiff, Nat.reduceEqDiff, Nat.reduceBEq, Int.reduceLE, Int.reduceLT, Int.reduceEq, Int.reduceNe, Int.reduceAdd, Int.reduceSub, Int.reduceMul, Int.reduceNeg, Int.reduceToNat, Int.reduceNatCast, reduceCtorEq, eq_self]
theorem argAtoms {x : AV} (h : ArgOk Try.prog 36 x) : ∃ l : List Atom, x = .d (.list false (l.map Atom.enc)) ∧ l.length ≤ 1000000000000000 ∧ ∀ a ∈ l, a.Ok := by
  obtain ⟨d, rfl, hf⟩ := arg_one h K.agB36 (sh := .slice 48 shAtom) (by kernel_rfl)
  obtain ⟨l, rfl, hl, hn⟩ := atoms_inv hf
  exact ⟨l, rfl, by omega, hn⟩
theorem argVals {x : AV} (h : ArgOk Try.prog 22 x) : ∃ l : List Val, x = .d (.list false (l.map Val.enc)) ∧ l.length ≤ 1000000000000000 ∧ ∀ a ∈ l, a.Ok := by
  obtain ⟨d, rfl, hf⟩ := arg_one h K.agB22 (sh := .slice 32 shVal) (by kernel_rfl)
  obtain ⟨l, rfl, hl, hn⟩ := vals_inv hf
  exact ⟨l, rfl, by omega, hn⟩
theorem predAnds_does (x0 : AV) (h0 : ArgOk Try.prog 36 x0) (x1 : AV) (h1 : ArgOk Try.prog 36 x1) (x2 : AV) (h2 : ArgOk Try.prog 22 x2) : Does Try.prog 6 [x0, x1, x2] [] (.ok (.d (.v (.bool true)))) [] := by
  obtain ⟨l, rfl, hl, _⟩ := argAtoms h0
  obtain ⟨m, rfl, hm, _⟩ := argAtoms h1
  obtain ⟨row, rfl, _, _⟩ := argVals h2
  exact predAnds_walk l m row hl hm []
end Go.Proofs.Ytmhmnmokmamnoaa

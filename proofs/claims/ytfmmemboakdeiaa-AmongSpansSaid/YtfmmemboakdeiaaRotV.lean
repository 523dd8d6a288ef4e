/- slices' rotate over Val: what it does. -/
import Derived.Test.YtfmmemboakdeiaaSwapRV
namespace Go.Proofs.Ytfmmemboakdeiaa
open Go.Proofs.YtfmmemboakdeiaaAw Go.RowKit
set_option linter.unusedVariables false
set_option linter.unusedSimpArgs false
namespace SV
structure RotI where
  L : List Val
  P : List Val
  U : List Val
  V : List Val
  Q : List Val
set_option maxRecDepth 10000 in
set_option maxHeartbeats 1000000 in
theorem rotate_does (H : AHeap) (id ver : Nat) (hid : id < H.length) (g : FuncId) (caps : List AV) (P U V Q L T : List Val) (hL : L = P ++ U ++ V ++ Q) (hT : T = P ++ V ++ U ++ Q) (a m b n : Nat) (ha : P.length = a) (hm : P.length + U.length = m) (hb : P.length + U.length + V.length = b) (hU : 0 < U.length) (hV : 0 < V.length)
    (hn : L.length = n) (hbig : n ≤ 1000000000000) :
    Does Try.prog 72 [.sl id ver 0 n, iA a, iA m, iA b, .fn g caps] (aH H id ver L) (.ok (.tup [])) (aH H id ver T) := by
  have hnl : P.length + U.length + V.length + Q.length = n := by rw [← hn, hL]; simp; omega
  generalize hE0 : aH H id ver L = E0
  have w1 : IntKind.i64.wrap ((m : Int) - (a : Int)) = ((U.length : Nat) : Int) := by rw [wrap64_in _ (by omega) (by omega)]; omega
  have w2 : IntKind.i64.wrap ((b : Int) - (m : Int)) = ((V.length : Nat) : Int) := by rw [wrap64_in _ (by omega) (by omega)]; omega
  refine Does.of_awp (hint := (fun _ => false)) Try.func72 (by kernel_rfl) rfl [] (by kernel_rfl) (by decide) (by simp [Try.ntmps72]) ?_
  rw [Try.ntmps72]
  simp (implicitDefEqProofs := false) only [↓reduceIte, go_sem, oread, owrite, Nat.reduceAdd, Nat.reduceSub, Nat.reduceMul, Nat.reduceLT, Nat.reduceLeDiff, Nat.reduceEqDiff, Nat.reduceBEq, Int.reduceLE, Int.reduceLT, Int.reduceEq, Int.reduceNe, Int.reduceAdd, Int.reduceSub, Int.reduceMul, Int.reduceNeg, Int.reduceToNat, Int.reduceNatCast, reduceCtorEq, eq_self, w1, w2]
  refine awp_loop _ _ _ _ (fun (x : RotI) s H' => H' = aH H id ver x.L ∧ x.L = x.P ++ x.U ++ x.V ++ x.Q ∧ T = x.P ++ x.V ++ x.U ++ x.Q ∧ x.P.length + x.U.length = m ∧ 0 < x.U.length ∧ 0 < x.V.length ∧ x.L.length = n ∧
      s 0 = .sl id ver 0 n ∧ s 2 = iA m ∧ s 4 = .fn g caps ∧ s 10 = iA x.U.length ∧ s 11 = iA x.V.length) (fun x => x.U.length + x.V.length) ⟨L, P, U, V, Q⟩ (Weak.refl _ _) ?_ ?_
  · refine ⟨hE0.symm, hL, hT, hm, hU, hV, hn, ?_⟩
    simp (implicitDefEqProofs := false) only [↓reduceIte, go_sem, oread, owrite, Nat.reduceAdd, Nat.reduceSub, Nat.reduceMul, Nat.reduceLT, Nat.reduceLeDiff, Nat.reduceEqDiff, Nat.reduceBEq, Int.reduceLE, Int.reduceLT, Int.reduceEq, Int.reduceNe, Int.reduceAdd, Int.reduceSub, Int.reduceMul, Int.reduceNeg, Int.reduceToNat, Int.reduceNatCast, reduceCtorEq, eq_self]
  · rintro ⟨L', P', U', V', Q'⟩ s H' ⟨rfl, hL', hT', hm', hU', hV', hn', t0, t2, t4, t10, t11⟩
    simp only at hL' hT' hm' hU' hV' hn' t0 t2 t4 t10 t11
    have hnl' : P'.length + U'.length + V'.length + Q'.length = n := by rw [← hn', hL']; simp; omega
    have w3 : IntKind.i64.wrap ((m : Int) - (U'.length : Int)) = ((P'.length : Nat) : Int) := by rw [wrap64_in _ (by omega) (by omega)]; omega
    by_cases hij : U'.length = V'.length
    · have hij' : (((U'.length : Nat) : Int) != ((V'.length : Nat) : Int)) = false := by simp [hij]
      simp (implicitDefEqProofs := false) only [↓reduceIte, go_sem, oread, owrite, Nat.reduceAdd, Nat.reduceSub, Nat.reduceMul, Nat.reduceLT, Nat.reduceLeDiff, Nat.reduceEqDiff, Nat.reduceBEq, Int.reduceLE, Int.reduceLT, Int.reduceEq, Int.reduceNe, Int.reduceAdd, Int.reduceSub, Int.reduceMul, Int.reduceNeg, Int.reduceToNat, Int.reduceNatCast, reduceCtorEq, eq_self, t10, t11, hij']
      simp (implicitDefEqProofs := false) only [↓reduceIte, go_sem, oread, owrite, Nat.reduceAdd, Nat.reduceSub, Nat.reduceMul, Nat.reduceLT, Nat.reduceLeDiff, Nat.reduceEqDiff, Nat.reduceBEq, Int.reduceLE, Int.reduceLT, Int.reduceEq, Int.reduceNe, Int.reduceAdd, Int.reduceSub, Int.reduceMul, Int.reduceNeg, Int.reduceToNat, Int.reduceNatCast, reduceCtorEq, eq_self, t0, t2, t4, t10, w3]
      refine KCall.ok (swapRange_at H id ver hid g caps P' U' [] V' Q' L' T P'.length m U'.length n (by rw [hL']; simp) (by rw [hT']; simp) rfl rfl (by omega) (by simp; omega) hn' hbig) ?_
      simp (implicitDefEqProofs := false) only [↓reduceIte, go_sem, oread, owrite, Nat.reduceAdd, Nat.reduceSub, Nat.reduceMul, Nat.reduceLT, Nat.reduceLeDiff, Nat.reduceEqDiff, Nat.reduceBEq, Int.reduceLE, Int.reduceLT, Int.reduceEq, Int.reduceNe, Int.reduceAdd, Int.reduceSub, Int.reduceMul, Int.reduceNeg, Int.reduceToNat, Int.reduceNatCast, reduceCtorEq, eq_self]
      exact ⟨_, Weak.refl _ _, rfl⟩
    · have hij' : (((U'.length : Nat) : Int) != ((V'.length : Nat) : Int)) = true := by simp; omega
      by_cases hgt : V'.length < U'.length
      · have hgt' : (((V'.length : Nat) : Int) < ((U'.length : Nat) : Int)) = True := eq_true (by omega)
        have e1 : U'.take V'.length ++ U'.drop V'.length = U' := List.take_append_drop _ _
        have l1 : (U'.take V'.length).length = V'.length := by simp; omega
        have l2 : (U'.drop V'.length).length = U'.length - V'.length := by simp
        generalize U'.take V'.length = X at *
        generalize U'.drop V'.length = Y at *
        have e2 := congrArg List.length e1
        simp only [List.length_append] at e2
        have w4 : IntKind.i64.wrap (U'.length - (V'.length : Int)) = ((Y.length : Nat) : Int) := by rw [wrap64_in _ (by omega) (by omega)]; omega
        obtain ⟨L2, hL2⟩ : ∃ L2, L2 = P' ++ V' ++ Y ++ X ++ Q' := ⟨_, rfl⟩
        have hl2 : L2.length = n := by rw [hL2]; simp only [List.length_append] at *; omega
        simp (implicitDefEqProofs := false) only [↓reduceIte, go_sem, oread, owrite, Nat.reduceAdd, Nat.reduceSub, Nat.reduceMul, Nat.reduceLT, Nat.reduceLeDiff, Nat.reduceEqDiff, Nat.reduceBEq, Int.reduceLE, Int.reduceLT, Int.reduceEq, Int.reduceNe, Int.reduceAdd, Int.reduceSub, Int.reduceMul, Int.reduceNeg, Int.reduceToNat, Int.reduceNatCast, reduceCtorEq, eq_self, t10, t11, hij', hgt']
        simp (implicitDefEqProofs := false) only [↓reduceIte, go_sem, oread, owrite, Nat.reduceAdd, Nat.reduceSub, Nat.reduceMul, Nat.reduceLT, Nat.reduceLeDiff, Nat.reduceEqDiff, Nat.reduceBEq, Int.reduceLE, Int.reduceLT, Int.reduceEq, Int.reduceNe, Int.reduceAdd, Int.reduceSub, Int.reduceMul, Int.reduceNeg, Int.reduceToNat, Int.reduceNatCast, reduceCtorEq, eq_self, t0, t2, t4, t10, t11, w3]
        refine KCall.ok (swapRange_at H id ver hid g caps P' X Y V' Q' L' L2 P'.length m V'.length n (by rw [hL', ← e1]; simp) hL2 rfl l1 rfl (by omega) hn' hbig) ?_
        simp (implicitDefEqProofs := false) only [↓reduceIte, go_sem, oread, owrite, Nat.reduceAdd, Nat.reduceSub, Nat.reduceMul, Nat.reduceLT, Nat.reduceLeDiff, Nat.reduceEqDiff, Nat.reduceBEq, Int.reduceLE, Int.reduceLT, Int.reduceEq, Int.reduceNe, Int.reduceAdd, Int.reduceSub, Int.reduceMul, Int.reduceNeg, Int.reduceToNat, Int.reduceNatCast, reduceCtorEq, eq_self, t10, t11, w4]
        refine ⟨_, _, ⟨L2, P' ++ V', Y, X, Q'⟩, Weak.refl _ _, ⟨rfl, by rw [hL2]; simp, by rw [hT', ← e1]; simp, ?_, ?_, ?_, hl2, ?_⟩, ?_⟩
        · simp only [List.length_append]; omega
        · simp only; omega
        · simp only; omega
        · simp (implicitDefEqProofs := false) only [↓reduceIte, go_sem, oread, owrite, Nat.reduceAdd, Nat.reduceSub, Nat.reduceMul, Nat.reduceLT, Nat.reduceLeDiff, Nat.reduceEqDiff, Nat.reduceBEq, Int.reduceLE, Int.reduceLT, Int.reduceEq, Int.reduceNe, Int.reduceAdd, Int.reduceSub, Int.reduceMul, Int.reduceNeg, Int.reduceToNat, Int.reduceNatCast, reduceCtorEq, eq_self, t0, t2, t4, t11, l1]
        · simp only; omega
      · have hgt' : (((V'.length : Nat) : Int) < ((U'.length : Nat) : Int)) = False := eq_false (by omega)
        have e1 : V'.take (V'.length - U'.length) ++ V'.drop (V'.length - U'.length) = V' := List.take_append_drop _ _
        have l1 : (V'.take (V'.length - U'.length)).length = V'.length - U'.length := by simp
        have l2 : (V'.drop (V'.length - U'.length)).length = U'.length := by simp; omega
        generalize V'.take (V'.length - U'.length) = Y at *
        generalize V'.drop (V'.length - U'.length) = Z at *
        have e2 := congrArg List.length e1
        simp only [List.length_append] at e2
        have w4 : IntKind.i64.wrap (V'.length - (U'.length : Int)) = ((Y.length : Nat) : Int) := by rw [wrap64_in _ (by omega) (by omega)]; omega
        have w5 : IntKind.i64.wrap ((m : Int) + (V'.length : Int)) = (m : Int) + (V'.length : Int) := by rw [wrap64_in _ (by omega) (by omega)]
        have w6 : IntKind.i64.wrap ((m : Int) + (V'.length : Int) - (U'.length : Int)) = ((m + Y.length : Nat) : Int) := by rw [wrap64_in _ (by omega) (by omega)]; omega
        obtain ⟨L2, hL2⟩ : ∃ L2, L2 = P' ++ Z ++ Y ++ U' ++ Q' := ⟨_, rfl⟩
        have hl2' : L2.length = n := by rw [hL2]; simp only [List.length_append] at *; omega
        simp (implicitDefEqProofs := false) only [↓reduceIte, go_sem, oread, owrite, Nat.reduceAdd, Nat.reduceSub, Nat.reduceMul, Nat.reduceLT, Nat.reduceLeDiff, Nat.reduceEqDiff, Nat.reduceBEq, Int.reduceLE, Int.reduceLT, Int.reduceEq, Int.reduceNe, Int.reduceAdd, Int.reduceSub, Int.reduceMul, Int.reduceNeg, Int.reduceToNat, Int.reduceNatCast, reduceCtorEq, eq_self, t10, t11, hij', hgt']
        simp (implicitDefEqProofs := false) only [↓reduceIte, go_sem, oread, owrite, Nat.reduceAdd, Nat.reduceSub, Nat.reduceMul, Nat.reduceLT, Nat.reduceLeDiff, Nat.reduceEqDiff, Nat.reduceBEq, Int.reduceLE, Int.reduceLT, Int.reduceEq, Int.reduceNe, Int.reduceAdd, Int.reduceSub, Int.reduceMul, Int.reduceNeg, Int.reduceToNat, Int.reduceNatCast, reduceCtorEq, eq_self, t0, t2, t4, t10, t11, w3, w5, w6]
        refine KCall.ok (swapRange_at H id ver hid g caps P' U' Y Z Q' L' L2 P'.length (m + Y.length) U'.length n (by rw [hL', ← e1]; simp) hL2 rfl rfl l2 (by omega) hn' hbig) ?_
        simp (implicitDefEqProofs := false) only [↓reduceIte, go_sem, oread, owrite, Nat.reduceAdd, Nat.reduceSub, Nat.reduceMul, Nat.reduceLT, Nat.reduceLeDiff, Nat.reduceEqDiff, Nat.reduceBEq, Int.reduceLE, Int.reduceLT, Int.reduceEq, Int.reduceNe, Int.reduceAdd, Int.reduceSub, Int.reduceMul, Int.reduceNeg, Int.reduceToNat, Int.reduceNatCast, reduceCtorEq, eq_self, t10, t11, w4]
        refine ⟨_, _, ⟨L2, P', Z, Y, U' ++ Q'⟩, Weak.refl _ _, ⟨rfl, by rw [hL2]; simp, by rw [hT', ← e1]; simp, ?_, ?_, ?_, hl2', ?_⟩, ?_⟩
        · simp only; omega
        · simp only; omega
        · simp only; omega
        · simp (implicitDefEqProofs := false) only [↓reduceIte, go_sem, oread, owrite, Nat.reduceAdd, Nat.reduceSub, Nat.reduceMul, Nat.reduceLT, Nat.reduceLeDiff, Nat.reduceEqDiff, Nat.reduceBEq, Int.reduceLE, Int.reduceLT, Int.reduceEq, Int.reduceNe, Int.reduceAdd, Int.reduceSub, Int.reduceMul, Int.reduceNeg, Int.reduceToNat, Int.reduceNatCast, reduceCtorEq, eq_self, t0, t2, t4, t10, l2]
        · simp only; omega
end SV
end Go.Proofs.Ytfmmemboakdeiaa

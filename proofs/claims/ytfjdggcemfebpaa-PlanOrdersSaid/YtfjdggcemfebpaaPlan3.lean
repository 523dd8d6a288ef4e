/- The law PlanOrders, over what plan.Orders does. -/
import Derived.Test.YtfjdggcemfebpaaPlan2
namespace Go.Proofs.Ytfjdggcemfebpaa
open Go.Proofs.YtfjdggcemfebpaaAw Go.RowKit
set_option linter.unusedVariables false
set_option linter.unusedSimpArgs false
abbrev i8 (n : Int) : AV := .d (.v (.int .i8 n))
def facT : Nat → Int
  | 0 => 1
  | k + 1 => facT k * (k + 2)
def facN (n : Nat) : Nat := if 4 < n then 0 else n - 1
theorem upto_nodup (n : Nat) : (upto n).Nodup := by
  unfold upto
  rw [List.nodup_iff_pairwise_ne, List.pairwise_map]
  exact List.Pairwise.imp (fun {a b} h e => h (by omega)) (List.nodup_iff_pairwise_ne.1 List.nodup_range)
theorem ordersR_good : ∀ n, n ≤ 4 → (ordersR n).Nodup ∧ ((ordersR n).length : Int) = facT (n - 1) := by decide
theorem ordersP_good (n : Nat) : (ordersP n).Nodup ∧ ((ordersP n).length : Int) = facT (facN n) ∧ (ordersP n).length ≤ 24 ∧ ∀ o ∈ ordersP n, o.length = n := by
  unfold ordersP facN
  by_cases h : 4 < n
  · rw [if_pos h, if_pos h]
    refine ⟨by simp, by simp [facT], by simp, fun o ho => ?_⟩
    rw [List.mem_singleton.1 ho, upto_len]
  · rw [if_neg h, if_neg h]
    obtain ⟨h1, h2⟩ := ordersR_good n (by omega)
    obtain ⟨h3, h4⟩ := ordersR_small n (by omega)
    exact ⟨h1, h2, h3, fun o ho => (h4 o ho).1⟩
theorem facT_le : ∀ k, k ≤ 3 → 0 ≤ facT k ∧ facT k ≤ 24 := by decide
set_option maxRecDepth 10000 in
set_option maxHeartbeats 2000000 in
theorem planOrders_neg (n : Int) (hn : n < 0) (hn2 : -128 ≤ n) (H : AHeap) (hsh : Does Try.prog 7 [] H (.ok (bA true)) H) (hp : Does Try.prog 8 [iA n] H (.ok (.d (.v (.slice none 0 0)))) H) :
    Does Try.prog 3 [i8 n] H (.ok (bA true)) H := by
  have e1 : IntKind.i64.wrap n = n := wrap64_in _ (by omega) (by omega)
  have e2 : ((2 : Int) ≤ n) = False := eq_false (by omega)
  refine Does.of_awp (hint := (fun _ => false)) Try.func3 (by kernel_rfl) rfl [2] (by kernel_rfl) (by decide) (by simp [Try.ntmps3]) ?_
  rw [Try.ntmps3]
  simp (implicitDefEqProofs := false) only [↓reduceIte, go_sem, oread, owrite, Nat.reduceAdd, Nat.reduceSub, Nat.reduceMul, Nat.reduceLT, Nat.reduceLeDiff, Nat.reduceEqDiff, Nat.reduceBEq, Int.reduceLE, Int.reduceLT, Int.reduceEq, Int.reduceNe, Int.reduceAdd, Int.reduceSub, Int.reduceMul, Int.reduceNeg, Int.reduceToNat, Int.reduceNatCast, reduceCtorEq, eq_self]
  refine KCall.ok hsh ?_
  simp (implicitDefEqProofs := false) only [↓reduceIte, go_sem, oread, owrite, Nat.reduceAdd, Nat.reduceSub, Nat.reduceMul, Nat.reduceLT, Nat.reduceLeDiff, Nat.reduceEqDiff, Nat.reduceBEq, Int.reduceLE, Int.reduceLT, Int.reduceEq, Int.reduceNe, Int.reduceAdd, Int.reduceSub, Int.reduceMul, Int.reduceNeg, Int.reduceToNat, Int.reduceNatCast, reduceCtorEq, eq_self, e1]
  refine KCall.ok hp ?_
  simp (implicitDefEqProofs := false) only [↓reduceIte, go_sem, oread, owrite, Nat.reduceAdd, Nat.reduceSub, Nat.reduceMul, Nat.reduceLT, Nat.reduceLeDiff, Nat.reduceEqDiff, Nat.reduceBEq, Int.reduceLE, Int.reduceLT, Int.reduceEq, Int.reduceNe, Int.reduceAdd, Int.reduceSub, Int.reduceMul, Int.reduceNeg, Int.reduceToNat, Int.reduceNatCast, reduceCtorEq, eq_self, e1]
  refine KCall.ok (orders22_neg n hn H) ?_
  simp (implicitDefEqProofs := false) only [↓reduceIte, go_sem, oread, owrite, Nat.reduceAdd, Nat.reduceSub, Nat.reduceMul, Nat.reduceLT, Nat.reduceLeDiff, Nat.reduceEqDiff, Nat.reduceBEq, Int.reduceLE, Int.reduceLT, Int.reduceEq, Int.reduceNe, Int.reduceAdd, Int.reduceSub, Int.reduceMul, Int.reduceNeg, Int.reduceToNat, Int.reduceNatCast, reduceCtorEq, eq_self]
  refine awp_for3 (fun k s H' => H' = H ∧ k = 0 ∧ s 0 = i8 n ∧ s 3 = bA true ∧ s 4 = .d (.v (.slice none 0 0)) ∧ s 7 = iA 2) 0 (by omega) (Weak.refl _ _) ?_ ?_ ?_
  · simp (implicitDefEqProofs := false) only [↓reduceIte, go_sem, oread, owrite, Nat.reduceAdd, Nat.reduceSub, Nat.reduceMul, Nat.reduceLT, Nat.reduceLeDiff, Nat.reduceEqDiff, Nat.reduceBEq, Int.reduceLE, Int.reduceLT, Int.reduceEq, Int.reduceNe, Int.reduceAdd, Int.reduceSub, Int.reduceMul, Int.reduceNeg, Int.reduceToNat, Int.reduceNatCast, reduceCtorEq, eq_self]
  · intro k s H' hk; omega
  · rintro s H' ⟨rfl, _, t0, t3, t4, t7⟩
    simp (implicitDefEqProofs := false) only [↓reduceIte, go_sem, oread, owrite, Nat.reduceAdd, Nat.reduceSub, Nat.reduceMul, Nat.reduceLT, Nat.reduceLeDiff, Nat.reduceEqDiff, Nat.reduceBEq, Int.reduceLE, Int.reduceLT, Int.reduceEq, Int.reduceNe, Int.reduceAdd, Int.reduceSub, Int.reduceMul, Int.reduceNeg, Int.reduceToNat, Int.reduceNatCast, reduceCtorEq, eq_self, t0, t7, e1, e2, hn]
    refine awp_for3 (fun k s H'' => H'' = H' ∧ k = 0 ∧ s 3 = bA true ∧ s 4 = .d (.v (.slice none 0 0)) ∧ s 6 = iA 0 ∧ s 8 = iA 0) 0 (by omega) (Weak.refl _ _) ?_ ?_ ?_
    · simp (implicitDefEqProofs := false) only [↓reduceIte, go_sem, oread, owrite, Nat.reduceAdd, Nat.reduceSub, Nat.reduceMul, Nat.reduceLT, Nat.reduceLeDiff, Nat.reduceEqDiff, Nat.reduceBEq, Int.reduceLE, Int.reduceLT, Int.reduceEq, Int.reduceNe, Int.reduceAdd, Int.reduceSub, Int.reduceMul, Int.reduceNeg, Int.reduceToNat, Int.reduceNatCast, reduceCtorEq, eq_self, t3, t4]
    · intro k s H' hk; omega
    · rintro s H'' ⟨rfl, _, t3, t4, t6, t8⟩
      simp (implicitDefEqProofs := false) only [↓reduceIte, go_sem, oread, owrite, Nat.reduceAdd, Nat.reduceSub, Nat.reduceMul, Nat.reduceLT, Nat.reduceLeDiff, Nat.reduceEqDiff, Nat.reduceBEq, Int.reduceLE, Int.reduceLT, Int.reduceEq, Int.reduceNe, Int.reduceAdd, Int.reduceSub, Int.reduceMul, Int.reduceNeg, Int.reduceToNat, Int.reduceNatCast, reduceCtorEq, eq_self, t4, t8, t3, t6]
      refine AEnd.ret0 ?_
      simp (implicitDefEqProofs := false) only [↓reduceIte, go_sem, oread, owrite, Nat.reduceAdd, Nat.reduceSub, Nat.reduceMul, Nat.reduceLT, Nat.reduceLeDiff, Nat.reduceEqDiff, Nat.reduceBEq, Int.reduceLE, Int.reduceLT, Int.reduceEq, Int.reduceNe, Int.reduceAdd, Int.reduceSub, Int.reduceMul, Int.reduceNeg, Int.reduceToNat, Int.reduceNatCast, reduceCtorEq, eq_self]
set_option maxRecDepth 10000 in
set_option maxHeartbeats 2000000 in
theorem planOrders_pos (n : Nat) (hn : n ≤ 127) (nn : Bool) (H : AHeap) (hsh : Does Try.prog 7 [] H (.ok (bA true)) H) (hp : Does Try.prog 8 [iA n] H (.ok (.d (.list nn ((ordersP n).map encO)))) H) :
    Does Try.prog 3 [i8 n] H (.ok (bA true)) H := by
  have e1 : IntKind.i64.wrap (n : Int) = n := wrap64_in _ (by omega) (by omega)
  obtain ⟨n2, hq⟩ := orders22_does n (by omega) H
  obtain ⟨g1, g2, g3, g4⟩ := ordersP_good n
  have hfc : facN n ≤ 3 := by unfold facN; split <;> omega
  have hf4 : ∀ k, k < facN n → ((k : Int) + 2 ≤ (n : Int)) ∧ n ≤ 4 := by intro k hk; unfold facN at hk; split at hk <;> omega
  have hfd : ((facN n : Int) + 2 ≤ (n : Int)) → 4 < n := by intro h; unfold facN at h; split at h <;> omega
  generalize ordersP n = S at *
  refine Does.of_awp (hint := (fun _ => false)) Try.func3 (by kernel_rfl) rfl [2] (by kernel_rfl) (by decide) (by simp [Try.ntmps3]) ?_
  rw [Try.ntmps3]
  simp (implicitDefEqProofs := false) only [↓reduceIte, go_sem, oread, owrite, Nat.reduceAdd, Nat.reduceSub, Nat.reduceMul, Nat.reduceLT, Nat.reduceLeDiff, Nat.reduceEqDiff, Nat.reduceBEq, Int.reduceLE, Int.reduceLT, Int.reduceEq, Int.reduceNe, Int.reduceAdd, Int.reduceSub, Int.reduceMul, Int.reduceNeg, Int.reduceToNat, Int.reduceNatCast, reduceCtorEq, eq_self]
  refine KCall.ok hsh ?_
  simp (implicitDefEqProofs := false) only [↓reduceIte, go_sem, oread, owrite, Nat.reduceAdd, Nat.reduceSub, Nat.reduceMul, Nat.reduceLT, Nat.reduceLeDiff, Nat.reduceEqDiff, Nat.reduceBEq, Int.reduceLE, Int.reduceLT, Int.reduceEq, Int.reduceNe, Int.reduceAdd, Int.reduceSub, Int.reduceMul, Int.reduceNeg, Int.reduceToNat, Int.reduceNatCast, reduceCtorEq, eq_self, e1]
  refine KCall.ok hp ?_
  simp (implicitDefEqProofs := false) only [↓reduceIte, go_sem, oread, owrite, Nat.reduceAdd, Nat.reduceSub, Nat.reduceMul, Nat.reduceLT, Nat.reduceLeDiff, Nat.reduceEqDiff, Nat.reduceBEq, Int.reduceLE, Int.reduceLT, Int.reduceEq, Int.reduceNe, Int.reduceAdd, Int.reduceSub, Int.reduceMul, Int.reduceNeg, Int.reduceToNat, Int.reduceNatCast, reduceCtorEq, eq_self, e1]
  refine KCall.ok hq ?_
  simp (implicitDefEqProofs := false) only [↓reduceIte, go_sem, oread, owrite, Nat.reduceAdd, Nat.reduceSub, Nat.reduceMul, Nat.reduceLT, Nat.reduceLeDiff, Nat.reduceEqDiff, Nat.reduceBEq, Int.reduceLE, Int.reduceLT, Int.reduceEq, Int.reduceNe, Int.reduceAdd, Int.reduceSub, Int.reduceMul, Int.reduceNeg, Int.reduceToNat, Int.reduceNatCast, reduceCtorEq, eq_self]
  refine awp_for3 (fun k s H' => H' = H ∧ s 0 = i8 n ∧ s 3 = bA true ∧ s 4 = .d (.list nn (S.map encO)) ∧ s 5 = .d (.list n2 (S.map encO)) ∧ s 6 = iA (facT k) ∧ s 7 = iA ((k : Int) + 2)) (facN n) (by omega) (Weak.refl _ _) ?_ ?_ ?_
  · simp (implicitDefEqProofs := false) only [↓reduceIte, go_sem, oread, owrite, Nat.reduceAdd, Nat.reduceSub, Nat.reduceMul, Nat.reduceLT, Nat.reduceLeDiff, Nat.reduceEqDiff, Nat.reduceBEq, Int.reduceLE, Int.reduceLT, Int.reduceEq, Int.reduceNe, Int.reduceAdd, Int.reduceSub, Int.reduceMul, Int.reduceNeg, Int.reduceToNat, Int.reduceNatCast, reduceCtorEq, eq_self, facT]
  · rintro k s H' hk hw ⟨rfl, t0, t3, t4, t5, t6, t7⟩
    obtain ⟨c1, c2⟩ := hf4 k hk
    obtain ⟨f1, f2⟩ := facT_le (k + 1) (by omega)
    have f3 : facT (k + 1) = facT k * ((k : Int) + 2) := rfl
    have c3 : ((n : Int) ≤ 4) = True := eq_true (by omega)
    simp (implicitDefEqProofs := false) only [↓reduceIte, go_sem, oread, owrite, Nat.reduceAdd, Nat.reduceSub, Nat.reduceMul, Nat.reduceLT, Nat.reduceLeDiff, Nat.reduceEqDiff, Nat.reduceBEq, Int.reduceLE, Int.reduceLT, Int.reduceEq, Int.reduceNe, Int.reduceAdd, Int.reduceSub, Int.reduceMul, Int.reduceNeg, Int.reduceToNat, Int.reduceNatCast, reduceCtorEq, eq_self, t0, t7, e1, eq_true c1, c3, eq_true c2]
    simp (implicitDefEqProofs := false) only [↓reduceIte, go_sem, oread, owrite, Nat.reduceAdd, Nat.reduceSub, Nat.reduceMul, Nat.reduceLT, Nat.reduceLeDiff, Nat.reduceEqDiff, Nat.reduceBEq, Int.reduceLE, Int.reduceLT, Int.reduceEq, Int.reduceNe, Int.reduceAdd, Int.reduceSub, Int.reduceMul, Int.reduceNeg, Int.reduceToNat, Int.reduceNatCast, reduceCtorEq, eq_self, t6, t7, ← f3, wrap64_in (facT (k + 1)) (by omega) (by omega), wrap64_in ((k : Int) + 2 + 1) (by omega) (by omega)]
    refine Rnd.same ⟨rfl, ?_⟩
    simp (implicitDefEqProofs := false) only [↓reduceIte, go_sem, oread, owrite, Nat.reduceAdd, Nat.reduceSub, Nat.reduceMul, Nat.reduceLT, Nat.reduceLeDiff, Nat.reduceEqDiff, Nat.reduceBEq, Int.reduceLE, Int.reduceLT, Int.reduceEq, Int.reduceNe, Int.reduceAdd, Int.reduceSub, Int.reduceMul, Int.reduceNeg, Int.reduceToNat, Int.reduceNatCast, reduceCtorEq, eq_self, t0, t3, t4, t5, show (k : Int) + 2 + 1 = (k : Int) + 1 + 2 from by omega]
  · rintro s H' ⟨rfl, t0, t3, t4, t5, t6, t7⟩
    have htest : (((facN n : Nat) : Int) + 2 ≤ (n : Int)) = False ∨ ((((facN n : Nat) : Int) + 2 ≤ (n : Int)) = True ∧ ((n : Int) ≤ 4) = False ∧ (n ≤ 4) = False) := by
      by_cases h : ((facN n : Nat) : Int) + 2 ≤ (n : Int)
      · have := hfd h
        exact .inr ⟨eq_true h, eq_false (by omega), eq_false (by omega)⟩
      · exact .inl (eq_false h)
    have c0 : ((n : Int) < 0) = False := eq_false (by omega)
    rw [← g2] at t6
    rcases htest with c1 | ⟨c1, c2, c3⟩
    · simp (implicitDefEqProofs := false) only [↓reduceIte, go_sem, oread, owrite, Nat.reduceAdd, Nat.reduceSub, Nat.reduceMul, Nat.reduceLT, Nat.reduceLeDiff, Nat.reduceEqDiff, Nat.reduceBEq, Int.reduceLE, Int.reduceLT, Int.reduceEq, Int.reduceNe, Int.reduceAdd, Int.reduceSub, Int.reduceMul, Int.reduceNeg, Int.reduceToNat, Int.reduceNatCast, reduceCtorEq, eq_self, t0, t7, e1, c1, c0]
      refine awp_for3 (fun k s H'' => H'' = H' ∧ s 0 = i8 n ∧ s 3 = bA true ∧ s 4 = .d (.list nn (S.map encO)) ∧ s 5 = .d (.list n2 (S.map encO)) ∧ s 6 = iA S.length ∧ s 8 = iA k) S.length (by omega) (Weak.refl _ _) ?_ ?_ ?_
      · simp (implicitDefEqProofs := false) only [↓reduceIte, go_sem, oread, owrite, Nat.reduceAdd, Nat.reduceSub, Nat.reduceMul, Nat.reduceLT, Nat.reduceLeDiff, Nat.reduceEqDiff, Nat.reduceBEq, Int.reduceLE, Int.reduceLT, Int.reduceEq, Int.reduceNe, Int.reduceAdd, Int.reduceSub, Int.reduceMul, Int.reduceNeg, Int.reduceToNat, Int.reduceNatCast, reduceCtorEq, eq_self, t0, t3, t4, t5, t6]
      · rintro k s H3 hk hw ⟨rfl, t0, t3, t4, t5, t6, t8⟩
        have hx := List.getElem?_eq_getElem hk
        have hlen := g4 S[k] (List.getElem_mem hk)
        have hne : ∀ i (hi : i < k), ¬ S[k] = S[i]'(by omega) := by
          intro i hi e
          have := (List.getElem_inj g1).1 e
          omega
        generalize S[k] = x at hx hlen hne
        simp (implicitDefEqProofs := false) only [↓reduceIte, go_sem, oread, owrite, Nat.reduceAdd, Nat.reduceSub, Nat.reduceMul, Nat.reduceLT, Nat.reduceLeDiff, Nat.reduceEqDiff, Nat.reduceBEq, Int.reduceLE, Int.reduceLT, Int.reduceEq, Int.reduceNe, Int.reduceAdd, Int.reduceSub, Int.reduceMul, Int.reduceNeg, Int.reduceToNat, Int.reduceNatCast, reduceCtorEq, eq_self, t4, t8, hk]
        refine awp_draw K.mixed (by kernel_rfl) ?_
        simp (implicitDefEqProofs := false) only [↓reduceIte, go_sem, oread, owrite, Nat.reduceAdd, Nat.reduceSub, Nat.reduceMul, Nat.reduceLT, Nat.reduceLeDiff, Nat.reduceEqDiff, Nat.reduceBEq, Int.reduceLE, Int.reduceLT, Int.reduceEq, Int.reduceNe, Int.reduceAdd, Int.reduceSub, Int.reduceMul, Int.reduceNeg, Int.reduceToNat, Int.reduceNatCast, reduceCtorEq, eq_self, t0, t4, t5, t8, hx, encO]
        refine KCall.ok (ints12_does x x _ _ _ (by omega)) ?_
        simp (implicitDefEqProofs := false) only [↓reduceIte, go_sem, oread, owrite, Nat.reduceAdd, Nat.reduceSub, Nat.reduceMul, Nat.reduceLT, Nat.reduceLeDiff, Nat.reduceEqDiff, Nat.reduceBEq, Int.reduceLE, Int.reduceLT, Int.reduceEq, Int.reduceNe, Int.reduceAdd, Int.reduceSub, Int.reduceMul, Int.reduceNeg, Int.reduceToNat, Int.reduceNatCast, reduceCtorEq, eq_self, t0, t4, t8, hx, encO, ints_len, hlen, e1]
        refine awp_for3 (fun i s H4 => H4 = H3 ∧ s 0 = i8 n ∧ s 3 = bA true ∧ s 4 = .d (.list nn (S.map encO)) ∧ s 5 = .d (.list n2 (S.map encO)) ∧ s 6 = iA S.length ∧ s 8 = iA k ∧ s 9 = iA i) k (by omega) (Weak.refl _ _) ?_ ?_ ?_
        · simp (implicitDefEqProofs := false) only [↓reduceIte, go_sem, oread, owrite, Nat.reduceAdd, Nat.reduceSub, Nat.reduceMul, Nat.reduceLT, Nat.reduceLeDiff, Nat.reduceEqDiff, Nat.reduceBEq, Int.reduceLE, Int.reduceLT, Int.reduceEq, Int.reduceNe, Int.reduceAdd, Int.reduceSub, Int.reduceMul, Int.reduceNeg, Int.reduceToNat, Int.reduceNatCast, reduceCtorEq, eq_self, t0, t3, t4, t5, t6, t8]
        · rintro i s H4 hi hwi ⟨rfl, t0, t3, t4, t5, t6, t8, t9⟩
          have hi2 : i < S.length := by omega
          have hy := List.getElem?_eq_getElem hi2
          have hne2 := hne i hi
          generalize S[i] = y at hy hne2
          simp (implicitDefEqProofs := false) only [↓reduceIte, go_sem, oread, owrite, Nat.reduceAdd, Nat.reduceSub, Nat.reduceMul, Nat.reduceLT, Nat.reduceLeDiff, Nat.reduceEqDiff, Nat.reduceBEq, Int.reduceLE, Int.reduceLT, Int.reduceEq, Int.reduceNe, Int.reduceAdd, Int.reduceSub, Int.reduceMul, Int.reduceNeg, Int.reduceToNat, Int.reduceNatCast, reduceCtorEq, eq_self, t8, t9, hi]
          refine awp_draw K.mixed (by kernel_rfl) ?_
          simp (implicitDefEqProofs := false) only [↓reduceIte, go_sem, oread, owrite, Nat.reduceAdd, Nat.reduceSub, Nat.reduceMul, Nat.reduceLT, Nat.reduceLeDiff, Nat.reduceEqDiff, Nat.reduceBEq, Int.reduceLE, Int.reduceLT, Int.reduceEq, Int.reduceNe, Int.reduceAdd, Int.reduceSub, Int.reduceMul, Int.reduceNeg, Int.reduceToNat, Int.reduceNatCast, reduceCtorEq, eq_self, t4, t8, t9, hx, hy, encO]
          refine KCall.ok (ints12_does x y _ _ _ (by omega)) ?_
          simp (implicitDefEqProofs := false) only [↓reduceIte, go_sem, oread, owrite, Nat.reduceAdd, Nat.reduceSub, Nat.reduceMul, Nat.reduceLT, Nat.reduceLeDiff, Nat.reduceEqDiff, Nat.reduceBEq, Int.reduceLE, Int.reduceLT, Int.reduceEq, Int.reduceNe, Int.reduceAdd, Int.reduceSub, Int.reduceMul, Int.reduceNeg, Int.reduceToNat, Int.reduceNatCast, reduceCtorEq, eq_self, hne2, t9]
          refine Rnd.same ⟨rfl, ?_⟩
          simp (implicitDefEqProofs := false) only [↓reduceIte, go_sem, oread, owrite, Nat.reduceAdd, Nat.reduceSub, Nat.reduceMul, Nat.reduceLT, Nat.reduceLeDiff, Nat.reduceEqDiff, Nat.reduceBEq, Int.reduceLE, Int.reduceLT, Int.reduceEq, Int.reduceNe, Int.reduceAdd, Int.reduceSub, Int.reduceMul, Int.reduceNeg, Int.reduceToNat, Int.reduceNatCast, reduceCtorEq, eq_self, t0, t3, t4, t5, t6, t8, hwi]
        · rintro s H4 ⟨rfl, t0, t3, t4, t5, t6, t8, t9⟩
          simp (implicitDefEqProofs := false) only [↓reduceIte, go_sem, oread, owrite, Nat.reduceAdd, Nat.reduceSub, Nat.reduceMul, Nat.reduceLT, Nat.reduceLeDiff, Nat.reduceEqDiff, Nat.reduceBEq, Int.reduceLE, Int.reduceLT, Int.reduceEq, Int.reduceNe, Int.reduceAdd, Int.reduceSub, Int.reduceMul, Int.reduceNeg, Int.reduceToNat, Int.reduceNatCast, reduceCtorEq, eq_self, t8, t9]
          refine Rnd.same ⟨rfl, ?_⟩
          simp (implicitDefEqProofs := false) only [↓reduceIte, go_sem, oread, owrite, Nat.reduceAdd, Nat.reduceSub, Nat.reduceMul, Nat.reduceLT, Nat.reduceLeDiff, Nat.reduceEqDiff, Nat.reduceBEq, Int.reduceLE, Int.reduceLT, Int.reduceEq, Int.reduceNe, Int.reduceAdd, Int.reduceSub, Int.reduceMul, Int.reduceNeg, Int.reduceToNat, Int.reduceNatCast, reduceCtorEq, eq_self, t0, t3, t4, t5, t6, hw]
      · rintro s H'' ⟨rfl, t0, t3, t4, t5, t6, t8⟩
        simp (implicitDefEqProofs := false) only [↓reduceIte, go_sem, oread, owrite, Nat.reduceAdd, Nat.reduceSub, Nat.reduceMul, Nat.reduceLT, Nat.reduceLeDiff, Nat.reduceEqDiff, Nat.reduceBEq, Int.reduceLE, Int.reduceLT, Int.reduceEq, Int.reduceNe, Int.reduceAdd, Int.reduceSub, Int.reduceMul, Int.reduceNeg, Int.reduceToNat, Int.reduceNatCast, reduceCtorEq, eq_self, t3, t4, t6, t8]
        refine AEnd.ret0 ?_
        simp (implicitDefEqProofs := false) only [↓reduceIte, go_sem, oread, owrite, Nat.reduceAdd, Nat.reduceSub, Nat.reduceMul, Nat.reduceLT, Nat.reduceLeDiff, Nat.reduceEqDiff, Nat.reduceBEq, Int.reduceLE, Int.reduceLT, Int.reduceEq, Int.reduceNe, Int.reduceAdd, Int.reduceSub, Int.reduceMul, Int.reduceNeg, Int.reduceToNat, Int.reduceNatCast, reduceCtorEq, eq_self]
    · simp (implicitDefEqProofs := false) only [↓reduceIte, go_sem, oread, owrite, Nat.reduceAdd, Nat.reduceSub, Nat.reduceMul, Nat.reduceLT, Nat.reduceLeDiff, Nat.reduceEqDiff, Nat.reduceBEq, Int.reduceLE, Int.reduceLT, Int.reduceEq, Int.reduceNe, Int.reduceAdd, Int.reduceSub, Int.reduceMul, Int.reduceNeg, Int.reduceToNat, Int.reduceNatCast, reduceCtorEq, eq_self, t0, t7, e1, c1, c2, c3, c0]
      refine awp_for3 (fun k s H'' => H'' = H' ∧ s 0 = i8 n ∧ s 3 = bA true ∧ s 4 = .d (.list nn (S.map encO)) ∧ s 5 = .d (.list n2 (S.map encO)) ∧ s 6 = iA S.length ∧ s 8 = iA k) S.length (by omega) (Weak.refl _ _) ?_ ?_ ?_
      · simp (implicitDefEqProofs := false) only [↓reduceIte, go_sem, oread, owrite, Nat.reduceAdd, Nat.reduceSub, Nat.reduceMul, Nat.reduceLT, Nat.reduceLeDiff, Nat.reduceEqDiff, Nat.reduceBEq, Int.reduceLE, Int.reduceLT, Int.reduceEq, Int.reduceNe, Int.reduceAdd, Int.reduceSub, Int.reduceMul, Int.reduceNeg, Int.reduceToNat, Int.reduceNatCast, reduceCtorEq, eq_self, t0, t3, t4, t5, t6]
      · rintro k s H3 hk hw ⟨rfl, t0, t3, t4, t5, t6, t8⟩
        have hx := List.getElem?_eq_getElem hk
        have hlen := g4 S[k] (List.getElem_mem hk)
        have hne : ∀ i (hi : i < k), ¬ S[k] = S[i]'(by omega) := by
          intro i hi e
          have := (List.getElem_inj g1).1 e
          omega
        generalize S[k] = x at hx hlen hne
        simp (implicitDefEqProofs := false) only [↓reduceIte, go_sem, oread, owrite, Nat.reduceAdd, Nat.reduceSub, Nat.reduceMul, Nat.reduceLT, Nat.reduceLeDiff, Nat.reduceEqDiff, Nat.reduceBEq, Int.reduceLE, Int.reduceLT, Int.reduceEq, Int.reduceNe, Int.reduceAdd, Int.reduceSub, Int.reduceMul, Int.reduceNeg, Int.reduceToNat, Int.reduceNatCast, reduceCtorEq, eq_self, t4, t8, hk]
        refine awp_draw K.mixed (by kernel_rfl) ?_
        simp (implicitDefEqProofs := false) only [↓reduceIte, go_sem, oread, owrite, Nat.reduceAdd, Nat.reduceSub, Nat.reduceMul, Nat.reduceLT, Nat.reduceLeDiff, Nat.reduceEqDiff, Nat.reduceBEq, Int.reduceLE, Int.reduceLT, Int.reduceEq, Int.reduceNe, Int.reduceAdd, Int.reduceSub, Int.reduceMul, Int.reduceNeg, Int.reduceToNat, Int.reduceNatCast, reduceCtorEq, eq_self, t0, t4, t5, t8, hx, encO]
        refine KCall.ok (ints12_does x x _ _ _ (by omega)) ?_
        simp (implicitDefEqProofs := false) only [↓reduceIte, go_sem, oread, owrite, Nat.reduceAdd, Nat.reduceSub, Nat.reduceMul, Nat.reduceLT, Nat.reduceLeDiff, Nat.reduceEqDiff, Nat.reduceBEq, Int.reduceLE, Int.reduceLT, Int.reduceEq, Int.reduceNe, Int.reduceAdd, Int.reduceSub, Int.reduceMul, Int.reduceNeg, Int.reduceToNat, Int.reduceNatCast, reduceCtorEq, eq_self, t0, t4, t8, hx, encO, ints_len, hlen, e1]
        refine awp_for3 (fun i s H4 => H4 = H3 ∧ s 0 = i8 n ∧ s 3 = bA true ∧ s 4 = .d (.list nn (S.map encO)) ∧ s 5 = .d (.list n2 (S.map encO)) ∧ s 6 = iA S.length ∧ s 8 = iA k ∧ s 9 = iA i) k (by omega) (Weak.refl _ _) ?_ ?_ ?_
        · simp (implicitDefEqProofs := false) only [↓reduceIte, go_sem, oread, owrite, Nat.reduceAdd, Nat.reduceSub, Nat.reduceMul, Nat.reduceLT, Nat.reduceLeDiff, Nat.reduceEqDiff, Nat.reduceBEq, Int.reduceLE, Int.reduceLT, Int.reduceEq, Int.reduceNe, Int.reduceAdd, Int.reduceSub, Int.reduceMul, Int.reduceNeg, Int.reduceToNat, Int.reduceNatCast, reduceCtorEq, eq_self, t0, t3, t4, t5, t6, t8]
        · rintro i s H4 hi hwi ⟨rfl, t0, t3, t4, t5, t6, t8, t9⟩
          have hi2 : i < S.length := by omega
          have hy := List.getElem?_eq_getElem hi2
          have hne2 := hne i hi
          generalize S[i] = y at hy hne2
          simp (implicitDefEqProofs := false) only [↓reduceIte, go_sem, oread, owrite, Nat.reduceAdd, Nat.reduceSub, Nat.reduceMul, Nat.reduceLT, Nat.reduceLeDiff, Nat.reduceEqDiff, Nat.reduceBEq, Int.reduceLE, Int.reduceLT, Int.reduceEq, Int.reduceNe, Int.reduceAdd, Int.reduceSub, Int.reduceMul, Int.reduceNeg, Int.reduceToNat, Int.reduceNatCast, reduceCtorEq, eq_self, t8, t9, hi]
          refine awp_draw K.mixed (by kernel_rfl) ?_
          simp (implicitDefEqProofs := false) only [↓reduceIte, go_sem, oread, owrite, Nat.reduceAdd, Nat.reduceSub, Nat.reduceMul, Nat.reduceLT, Nat.reduceLeDiff, Nat.reduceEqDiff, Nat.reduceBEq, Int.reduceLE, Int.reduceLT, Int.reduceEq, Int.reduceNe, Int.reduceAdd, Int.reduceSub, Int.reduceMul, Int.reduceNeg, Int.reduceToNat, Int.reduceNatCast, reduceCtorEq, eq_self, t4, t8, t9, hx, hy, encO]
          refine KCall.ok (ints12_does x y _ _ _ (by omega)) ?_
          simp (implicitDefEqProofs := false) only [↓reduceIte, go_sem, oread, owrite, Nat.reduceAdd, Nat.reduceSub, Nat.reduceMul, Nat.reduceLT, Nat.reduceLeDiff, Nat.reduceEqDiff, Nat.reduceBEq, Int.reduceLE, Int.reduceLT, Int.reduceEq, Int.reduceNe, Int.reduceAdd, Int.reduceSub, Int.reduceMul, Int.reduceNeg, Int.reduceToNat, Int.reduceNatCast, reduceCtorEq, eq_self, hne2, t9]
          refine Rnd.same ⟨rfl, ?_⟩
          simp (implicitDefEqProofs := false) only [↓reduceIte, go_sem, oread, owrite, Nat.reduceAdd, Nat.reduceSub, Nat.reduceMul, Nat.reduceLT, Nat.reduceLeDiff, Nat.reduceEqDiff, Nat.reduceBEq, Int.reduceLE, Int.reduceLT, Int.reduceEq, Int.reduceNe, Int.reduceAdd, Int.reduceSub, Int.reduceMul, Int.reduceNeg, Int.reduceToNat, Int.reduceNatCast, reduceCtorEq, eq_self, t0, t3, t4, t5, t6, t8, hwi]
        · rintro s H4 ⟨rfl, t0, t3, t4, t5, t6, t8, t9⟩
          simp (implicitDefEqProofs := false) only [↓reduceIte, go_sem, oread, owrite, Nat.reduceAdd, Nat.reduceSub, Nat.reduceMul, Nat.reduceLT, Nat.reduceLeDiff, Nat.reduceEqDiff, Nat.reduceBEq, Int.reduceLE, Int.reduceLT, Int.reduceEq, Int.reduceNe, Int.reduceAdd, Int.reduceSub, Int.reduceMul, Int.reduceNeg, Int.reduceToNat, Int.reduceNatCast, reduceCtorEq, eq_self, t8, t9]
          refine Rnd.same ⟨rfl, ?_⟩
          simp (implicitDefEqProofs := false) only [↓reduceIte, go_sem, oread, owrite, Nat.reduceAdd, Nat.reduceSub, Nat.reduceMul, Nat.reduceLT, Nat.reduceLeDiff, Nat.reduceEqDiff, Nat.reduceBEq, Int.reduceLE, Int.reduceLT, Int.reduceEq, Int.reduceNe, Int.reduceAdd, Int.reduceSub, Int.reduceMul, Int.reduceNeg, Int.reduceToNat, Int.reduceNatCast, reduceCtorEq, eq_self, t0, t3, t4, t5, t6, hw]
      · rintro s H'' ⟨rfl, t0, t3, t4, t5, t6, t8⟩
        simp (implicitDefEqProofs := false) only [↓reduceIte, go_sem, oread, owrite, Nat.reduceAdd, Nat.reduceSub, Nat.reduceMul, Nat.reduceLT, Nat.reduceLeDiff, Nat.reduceEqDiff, Nat.reduceBEq, Int.reduceLE, Int.reduceLT, Int.reduceEq, Int.reduceNe, Int.reduceAdd, Int.reduceSub, Int.reduceMul, Int.reduceNeg, Int.reduceToNat, Int.reduceNatCast, reduceCtorEq, eq_self, t3, t4, t6, t8]
        refine AEnd.ret0 ?_
        simp (implicitDefEqProofs := false) only [↓reduceIte, go_sem, oread, owrite, Nat.reduceAdd, Nat.reduceSub, Nat.reduceMul, Nat.reduceLT, Nat.reduceLeDiff, Nat.reduceEqDiff, Nat.reduceBEq, Int.reduceLE, Int.reduceLT, Int.reduceEq, Int.reduceNe, Int.reduceAdd, Int.reduceSub, Int.reduceMul, Int.reduceNeg, Int.reduceToNat, Int.reduceNatCast, reduceCtorEq, eq_self]
end Go.Proofs.Ytfjdggcemfebpaa

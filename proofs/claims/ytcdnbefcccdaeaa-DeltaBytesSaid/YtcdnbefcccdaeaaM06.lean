/- The document's Steps, Sorted, Bytes, Of (layer 10), the law's few: what they do. The law DeltaBack: what it does. The law DeltaBytes: what it does. The row of the law astragal/astragallaw10.DeltaBytes, printed by a small program of this session. -/
import Derived.Test.YtcdnbefcccdaeaaRows
import Derived.WalkKit
import Derived.ProofKit
import Derived.OpenShut
import Derived.ShutString
import Derived.ChangeOld
import Derived.Below
import Derived.SizedLaws
import Derived.Carry
import Derived.Test.YtcdnbefcccdaeaaM05
namespace Go.Proofs.Ytcdnbefcccdaeaa
open Go.Proofs.YtcdnbefcccdaeaaAw Go.RowKit
set_option linter.unusedVariables false
set_option linter.unusedSimpArgs false
set_option maxRecDepth 10000 in
set_option maxHeartbeats 1000000 in
theorem rsteps_does (l : List Val) (nn : Bool) (H : AHeap) (hl : l.length ≤ 1000000000000) : Does Try.prog 17 [.d (.list nn (l.map Val.enc))] H (.ok (.d (.list false (us (stepsP l))))) H := by
  have hsl := stepsP_len l
  refine Does.of_awp (hint := (fun _ => false)) Try.func17 (by kernel_rfl) rfl [2] (by kernel_rfl) (by decide) (by simp [Try.ntmps17]) ?_
  rw [Try.ntmps17]
  simp (implicitDefEqProofs := false) only [↓reduceIte, go_sem, oread, owrite, Nat.reduceAdd, Nat.reduceSub, Nat.reduceMul, Nat.reduceLT, Nat.reduceLeDiff, Nat.reduceEqDiff, Nat.reduceBEq, Int.reduceLE, Int.reduceLT, Int.reduceEq, Int.reduceNe, Int.reduceAdd, Int.reduceSub, Int.reduceMul, Int.reduceNeg, Int.reduceToNat, Int.reduceNatCast, reduceCtorEq, eq_self]
  refine awp_for3 (fun k s H' => H' = H ++ [.arr 48 1 k (us ((stepsP l).take k))] ∧ s 0 = .d (.list nn (l.map Val.enc)) ∧ s 3 = .sl H.length k 0 k ∧ s 4 = iA ((k : Int) + 1)) (l.length - 1) (by omega) (Weak.virt1 _ _ 3 48 1 (by decide) (by simp (implicitDefEqProofs := false) only [↓reduceIte, go_sem, oread, owrite, Nat.reduceAdd, Nat.reduceSub, Nat.reduceMul, Nat.reduceLT, Nat.reduceLeDiff, Nat.reduceEqDiff, Nat.reduceBEq, Int.reduceLE, Int.reduceLT, Int.reduceEq, Int.reduceNe, Int.reduceAdd, Int.reduceSub, Int.reduceMul, Int.reduceNeg, Int.reduceToNat, Int.reduceNatCast, reduceCtorEq, eq_self]) _) ?_ ?_ ?_
  · refine ⟨?_, ?_⟩
    · simp (implicitDefEqProofs := false) only [↓reduceIte, go_sem, oread, owrite, Nat.reduceAdd, Nat.reduceSub, Nat.reduceMul, Nat.reduceLT, Nat.reduceLeDiff, Nat.reduceEqDiff, Nat.reduceBEq, Int.reduceLE, Int.reduceLT, Int.reduceEq, Int.reduceNe, Int.reduceAdd, Int.reduceSub, Int.reduceMul, Int.reduceNeg, Int.reduceToNat, Int.reduceNatCast, reduceCtorEq, eq_self, List.take_zero, us_nil]
    · simp (implicitDefEqProofs := false) only [↓reduceIte, go_sem, oread, owrite, Nat.reduceAdd, Nat.reduceSub, Nat.reduceMul, Nat.reduceLT, Nat.reduceLeDiff, Nat.reduceEqDiff, Nat.reduceBEq, Int.reduceLE, Int.reduceLT, Int.reduceEq, Int.reduceNe, Int.reduceAdd, Int.reduceSub, Int.reduceMul, Int.reduceNeg, Int.reduceToNat, Int.reduceNatCast, reduceCtorEq, eq_self]
  · rintro k s H' hk hw ⟨rfl, t0, t3, t4⟩
    have hk1 : k < l.length := by omega
    have hk2 : k + 1 < l.length := by omega
    have hx := List.getElem?_eq_getElem hk1
    have hy := List.getElem?_eq_getElem hk2
    have hs := take_steps l k hk2
    generalize l[k] = x at hx hs
    generalize l[k + 1] = y at hy hs
    have hlen : ((stepsP l).take k).length = k := by simp; omega
    have hw2 : IntKind.i64.wrap ((k : Int) + 1 - 1) = (k : Int) := by rw [wrap64_in _ (by omega) (by omega)]; omega
    have hw3 : IntKind.i64.wrap ((k : Int) + 1 + 1) = (k : Int) + 1 + 1 := wrap64_in _ (by omega) (by omega)
    have hc : ((k : Int) + 1 < (l.length : Int)) = True := eq_true (by omega)
    have ht : ((k : Int) + 1).toNat = k + 1 := by omega
    have hp : (0 ≤ (k : Int) + 1) = True := eq_true (by omega)
    generalize (stepsP l).take k = L at hs hlen
    simp (implicitDefEqProofs := false) only [↓reduceIte, go_sem, oread, owrite, Nat.reduceAdd, Nat.reduceSub, Nat.reduceMul, Nat.reduceLT, Nat.reduceLeDiff, Nat.reduceEqDiff, Nat.reduceBEq, Int.reduceLE, Int.reduceLT, Int.reduceEq, Int.reduceNe, Int.reduceAdd, Int.reduceSub, Int.reduceMul, Int.reduceNeg, Int.reduceToNat, Int.reduceNatCast, reduceCtorEq, eq_self, t0, t3, t4, hc, List.length_map]
    refine awp_drawK 15 K.mixed (by kernel_rfl) (by kernel_rfl) ?_
    simp (implicitDefEqProofs := false) only [↓reduceIte, go_sem, oread, owrite, Nat.reduceAdd, Nat.reduceSub, Nat.reduceMul, Nat.reduceLT, Nat.reduceLeDiff, Nat.reduceEqDiff, Nat.reduceBEq, Int.reduceLE, Int.reduceLT, Int.reduceEq, Int.reduceNe, Int.reduceAdd, Int.reduceSub, Int.reduceMul, Int.reduceNeg, Int.reduceToNat, Int.reduceNatCast, reduceCtorEq, eq_self, t0, t3, t4, hw2, hx, hy, hc, ht, hp, hk1, hk2, Val.enc]
    refine KCall.ok (rzig_does _ (wrap64_rng _).1 (wrap64_rng _).2 _) ?_
    simp (implicitDefEqProofs := false) only [↓reduceIte, go_sem, oread, owrite, Nat.reduceAdd, Nat.reduceSub, Nat.reduceMul, Nat.reduceLT, Nat.reduceLeDiff, Nat.reduceEqDiff, Nat.reduceBEq, Int.reduceLE, Int.reduceLT, Int.reduceEq, Int.reduceNe, Int.reduceAdd, Int.reduceSub, Int.reduceMul, Int.reduceNeg, Int.reduceToNat, Int.reduceNatCast, reduceCtorEq, eq_self, us_len, hlen, t4, us_snoc]
    refine ⟨by omega, by omega, Rnd.same ⟨?_, ?_⟩⟩
    · rw [hs]; rfl
    · simp (implicitDefEqProofs := false) only [↓reduceIte, go_sem, oread, owrite, Nat.reduceAdd, Nat.reduceSub, Nat.reduceMul, Nat.reduceLT, Nat.reduceLeDiff, Nat.reduceEqDiff, Nat.reduceBEq, Int.reduceLE, Int.reduceLT, Int.reduceEq, Int.reduceNe, Int.reduceAdd, Int.reduceSub, Int.reduceMul, Int.reduceNeg, Int.reduceToNat, Int.reduceNatCast, reduceCtorEq, eq_self, t0, hw3]
  · rintro s H' ⟨rfl, t0, t3, t4⟩
    have hc : (((l.length - 1 : Nat) : Int) + 1 < (l.length : Int)) = False := eq_false (by omega)
    simp (implicitDefEqProofs := false) only [↓reduceIte, go_sem, oread, owrite, Nat.reduceAdd, Nat.reduceSub, Nat.reduceMul, Nat.reduceLT, Nat.reduceLeDiff, Nat.reduceEqDiff, Nat.reduceBEq, Int.reduceLE, Int.reduceLT, Int.reduceEq, Int.reduceNe, Int.reduceAdd, Int.reduceSub, Int.reduceMul, Int.reduceNeg, Int.reduceToNat, Int.reduceNatCast, reduceCtorEq, eq_self, t0, t3, t4, hc, List.length_map]
    refine AEnd.ret ?_
    simp (implicitDefEqProofs := false) only [↓reduceIte, go_sem, oread, owrite, Nat.reduceAdd, Nat.reduceSub, Nat.reduceMul, Nat.reduceLT, Nat.reduceLeDiff, Nat.reduceEqDiff, Nat.reduceBEq, Int.reduceLE, Int.reduceLT, Int.reduceEq, Int.reduceNe, Int.reduceAdd, Int.reduceSub, Int.reduceMul, Int.reduceNeg, Int.reduceToNat, Int.reduceNatCast, reduceCtorEq, eq_self, take_len, us_len, hsl]
set_option maxRecDepth 10000 in
set_option maxHeartbeats 1000000 in
theorem rsorted_does (l : List Val) (nn : Bool) (H : AHeap) (hl : l.length ≤ 1000000000000) (hs : ∀ v ∈ l, v.s.size ≤ 140737488351232) : Does Try.prog 18 [.d (.list nn (l.map Val.enc))] H (.ok (bA (sortedP l))) H := by
  refine Does.of_awp (hint := (fun _ => false)) Try.func18 (by kernel_rfl) rfl [2] (by kernel_rfl) (by decide) (by simp [Try.ntmps18]) ?_
  rw [Try.ntmps18]
  simp (implicitDefEqProofs := false) only [↓reduceIte, go_sem, oread, owrite, Nat.reduceAdd, Nat.reduceSub, Nat.reduceMul, Nat.reduceLT, Nat.reduceLeDiff, Nat.reduceEqDiff, Nat.reduceBEq, Int.reduceLE, Int.reduceLT, Int.reduceEq, Int.reduceNe, Int.reduceAdd, Int.reduceSub, Int.reduceMul, Int.reduceNeg, Int.reduceToNat, Int.reduceNatCast, reduceCtorEq, eq_self]
  refine awp_for3 (fun k s H' => H' = H ∧ (∀ j, j < k → okAt l j) ∧ s 0 = .d (.list nn (l.map Val.enc)) ∧ s 3 = iA ((k : Int) + 1)) (l.length - 1) (by omega) (Weak.refl _ _) ?_ ?_ ?_
  · refine ⟨rfl, fun j h => by omega, ?_⟩
    simp (implicitDefEqProofs := false) only [↓reduceIte, go_sem, oread, owrite, Nat.reduceAdd, Nat.reduceSub, Nat.reduceMul, Nat.reduceLT, Nat.reduceLeDiff, Nat.reduceEqDiff, Nat.reduceBEq, Int.reduceLE, Int.reduceLT, Int.reduceEq, Int.reduceNe, Int.reduceAdd, Int.reduceSub, Int.reduceMul, Int.reduceNeg, Int.reduceToNat, Int.reduceNatCast, reduceCtorEq, eq_self]
  · rintro k s H' hk hw ⟨rfl, hp, t0, t3⟩
    have hk1 : k < l.length := by omega
    have hk2 : k + 1 < l.length := by omega
    have hx := List.getElem?_eq_getElem hk1
    have hy := List.getElem?_eq_getElem hk2
    have hsz := hs _ (List.getElem_mem hk2)
    have hpp : cmpV l[k] l[k + 1] ≤ 0 → ∀ j, j < k + 1 → okAt l j := fun h j hj x y hx' hy' => by
      by_cases e : j = k
      · subst e
        rw [hx] at hx'; rw [hy] at hy'; cases hx'; cases hy'; exact h
      · exact hp j (by omega) x y hx' hy'
    have hbad : ¬ cmpV l[k] l[k + 1] ≤ 0 → sortedP l = false := fun h => by
      rw [Bool.eq_false_iff]
      exact fun h2 => h ((sortedP_iff l).1 h2 k _ _ hx hy)
    have hanti := cmpV_tri.anti l[k + 1] l[k]
    generalize l[k] = x at *
    generalize l[k + 1] = y at *
    have hw2 : IntKind.i64.wrap ((k : Int) + 1 - 1) = (k : Int) := by rw [wrap64_in _ (by omega) (by omega)]; omega
    have hw3 : IntKind.i64.wrap ((k : Int) + 1 + 1) = (k : Int) + 1 + 1 := wrap64_in _ (by omega) (by omega)
    have hc : ((k : Int) + 1 < (l.length : Int)) = True := eq_true (by omega)
    have ht : ((k : Int) + 1).toNat = k + 1 := by omega
    have hp0 : (0 ≤ (k : Int) + 1) = True := eq_true (by omega)
    simp (implicitDefEqProofs := false) only [↓reduceIte, go_sem, oread, owrite, Nat.reduceAdd, Nat.reduceSub, Nat.reduceMul, Nat.reduceLT, Nat.reduceLeDiff, Nat.reduceEqDiff, Nat.reduceBEq, Int.reduceLE, Int.reduceLT, Int.reduceEq, Int.reduceNe, Int.reduceAdd, Int.reduceSub, Int.reduceMul, Int.reduceNeg, Int.reduceToNat, Int.reduceNatCast, reduceCtorEq, eq_self, t0, t3, hc, List.length_map]
    refine awp_draw K.mixed (by kernel_rfl) ?_
    simp (implicitDefEqProofs := false) only [↓reduceIte, go_sem, oread, owrite, Nat.reduceAdd, Nat.reduceSub, Nat.reduceMul, Nat.reduceLT, Nat.reduceLeDiff, Nat.reduceEqDiff, Nat.reduceBEq, Int.reduceLE, Int.reduceLT, Int.reduceEq, Int.reduceNe, Int.reduceAdd, Int.reduceSub, Int.reduceMul, Int.reduceNeg, Int.reduceToNat, Int.reduceNatCast, reduceCtorEq, eq_self, t0, t3, hw2, hx, hy, hc, ht, hp0, hk1, hk2, Val.enc]
    refine KCall.ok (vcmp05_does y x (by omega) _) ?_
    by_cases h : cmpV x y ≤ 0
    · simp (implicitDefEqProofs := false) only [↓reduceIte, go_sem, oread, owrite, Nat.reduceAdd, Nat.reduceSub, Nat.reduceMul, Nat.reduceLT, Nat.reduceLeDiff, Nat.reduceEqDiff, Nat.reduceBEq, Int.reduceLE, Int.reduceLT, Int.reduceEq, Int.reduceNe, Int.reduceAdd, Int.reduceSub, Int.reduceMul, Int.reduceNeg, Int.reduceToNat, Int.reduceNatCast, reduceCtorEq, eq_self, show (cmpV y x < 0) = False from eq_false (by omega), t3]
      refine Rnd.same ⟨rfl, hpp h, ?_⟩
      simp (implicitDefEqProofs := false) only [↓reduceIte, go_sem, oread, owrite, Nat.reduceAdd, Nat.reduceSub, Nat.reduceMul, Nat.reduceLT, Nat.reduceLeDiff, Nat.reduceEqDiff, Nat.reduceBEq, Int.reduceLE, Int.reduceLT, Int.reduceEq, Int.reduceNe, Int.reduceAdd, Int.reduceSub, Int.reduceMul, Int.reduceNeg, Int.reduceToNat, Int.reduceNatCast, reduceCtorEq, eq_self, t0, hw3]
    · simp (implicitDefEqProofs := false) only [↓reduceIte, go_sem, oread, owrite, Nat.reduceAdd, Nat.reduceSub, Nat.reduceMul, Nat.reduceLT, Nat.reduceLeDiff, Nat.reduceEqDiff, Nat.reduceBEq, Int.reduceLE, Int.reduceLT, Int.reduceEq, Int.reduceNe, Int.reduceAdd, Int.reduceSub, Int.reduceMul, Int.reduceNeg, Int.reduceToNat, Int.reduceNatCast, reduceCtorEq, eq_self, show (cmpV y x < 0) = True from eq_true (by omega)]
      refine AEnd.ret0 ?_
      simp (implicitDefEqProofs := false) only [↓reduceIte, go_sem, oread, owrite, Nat.reduceAdd, Nat.reduceSub, Nat.reduceMul, Nat.reduceLT, Nat.reduceLeDiff, Nat.reduceEqDiff, Nat.reduceBEq, Int.reduceLE, Int.reduceLT, Int.reduceEq, Int.reduceNe, Int.reduceAdd, Int.reduceSub, Int.reduceMul, Int.reduceNeg, Int.reduceToNat, Int.reduceNatCast, reduceCtorEq, eq_self, hbad h]
  · rintro s H' ⟨rfl, hp, t0, t3⟩
    have hc : (((l.length - 1 : Nat) : Int) + 1 < (l.length : Int)) = False := eq_false (by omega)
    have hT : sortedP l = true := (sortedP_iff l).2 fun j x y hx hy => hp j (by have := (List.getElem?_eq_some_iff.1 hy).1; omega) x y hx hy
    simp (implicitDefEqProofs := false) only [↓reduceIte, go_sem, oread, owrite, Nat.reduceAdd, Nat.reduceSub, Nat.reduceMul, Nat.reduceLT, Nat.reduceLeDiff, Nat.reduceEqDiff, Nat.reduceBEq, Int.reduceLE, Int.reduceLT, Int.reduceEq, Int.reduceNe, Int.reduceAdd, Int.reduceSub, Int.reduceMul, Int.reduceNeg, Int.reduceToNat, Int.reduceNatCast, reduceCtorEq, eq_self, t0, t3, hc, List.length_map]
    refine AEnd.ret0 ?_
    simp (implicitDefEqProofs := false) only [↓reduceIte, go_sem, oread, owrite, Nat.reduceAdd, Nat.reduceSub, Nat.reduceMul, Nat.reduceLT, Nat.reduceLeDiff, Nat.reduceEqDiff, Nat.reduceBEq, Int.reduceLE, Int.reduceLT, Int.reduceEq, Int.reduceNe, Int.reduceAdd, Int.reduceSub, Int.reduceMul, Int.reduceNeg, Int.reduceToNat, Int.reduceNatCast, reduceCtorEq, eq_self, hT]
set_option maxRecDepth 10000 in
set_option maxHeartbeats 1000000 in
theorem rdbytes_does (l : List Val) (hok : ∀ v ∈ l, I64 v.i) (nn : Bool) (H : AHeap) (hl : l.length ≤ 1000000000000) : Does Try.prog 14 [.d (.list nn (l.map Val.enc))] H (.ok (deltaR l)) H := by
  have hbad : ∀ b : Bool, b = true ∨ b = false := by decide
  refine Does.of_awp (hint := (fun _ => false)) Try.func14 (by kernel_rfl) rfl [2, 3] (by kernel_rfl) (by decide) (by simp [Try.ntmps14]) ?_
  rw [Try.ntmps14]
  simp (implicitDefEqProofs := false) only [↓reduceIte, go_sem, oread, owrite, Nat.reduceAdd, Nat.reduceSub, Nat.reduceMul, Nat.reduceLT, Nat.reduceLeDiff, Nat.reduceEqDiff, Nat.reduceBEq, Int.reduceLE, Int.reduceLT, Int.reduceEq, Int.reduceNe, Int.reduceAdd, Int.reduceSub, Int.reduceMul, Int.reduceNeg, Int.reduceToNat, Int.reduceNatCast, reduceCtorEq, eq_self]
  refine KCall.ok (rplain_does l 1 nn _ (by omega)) ?_
  by_cases h1 : plainP l 1 = 0
  · cases l with
    | nil =>
      simp (implicitDefEqProofs := false) only [↓reduceIte, go_sem, oread, owrite, Nat.reduceAdd, Nat.reduceSub, Nat.reduceMul, Nat.reduceLT, Nat.reduceLeDiff, Nat.reduceEqDiff, Nat.reduceBEq, Int.reduceLE, Int.reduceLT, Int.reduceEq, Int.reduceNe, Int.reduceAdd, Int.reduceSub, Int.reduceMul, Int.reduceNeg, Int.reduceToNat, Int.reduceNatCast, reduceCtorEq, eq_self, h1]
      refine AEnd.ret0 ?_
      simp (implicitDefEqProofs := false) only [↓reduceIte, go_sem, oread, owrite, Nat.reduceAdd, Nat.reduceSub, Nat.reduceMul, Nat.reduceLT, Nat.reduceLeDiff, Nat.reduceEqDiff, Nat.reduceBEq, Int.reduceLE, Int.reduceLT, Int.reduceEq, Int.reduceNe, Int.reduceAdd, Int.reduceSub, Int.reduceMul, Int.reduceNeg, Int.reduceToNat, Int.reduceNatCast, reduceCtorEq, eq_self, deltaR, h1, Ne, not_true, and_false]
    | cons v r =>
      have hs := stepsP_len (v :: r)
      have h4 := plainP_len h1
      have hll := hok v (by simp)
      have hss := stepsP_lt (v :: r)
      simp (implicitDefEqProofs := false) only [↓reduceIte, go_sem, oread, owrite, Nat.reduceAdd, Nat.reduceSub, Nat.reduceMul, Nat.reduceLT, Nat.reduceLeDiff, Nat.reduceEqDiff, Nat.reduceBEq, Int.reduceLE, Int.reduceLT, Int.reduceEq, Int.reduceNe, Int.reduceAdd, Int.reduceSub, Int.reduceMul, Int.reduceNeg, Int.reduceToNat, Int.reduceNatCast, reduceCtorEq, eq_self, h1, show (((r.length : Nat) : Int) + 1 = 0) = False from eq_false (by omega)]
      refine KCall.ok (rsteps_does (v :: r) nn _ hl) ?_
      simp (implicitDefEqProofs := false) only [↓reduceIte, go_sem, oread, owrite, Nat.reduceAdd, Nat.reduceSub, Nat.reduceMul, Nat.reduceLT, Nat.reduceLeDiff, Nat.reduceEqDiff, Nat.reduceBEq, Int.reduceLE, Int.reduceLT, Int.reduceEq, Int.reduceNe, Int.reduceAdd, Int.reduceSub, Int.reduceMul, Int.reduceNeg, Int.reduceToNat, Int.reduceNatCast, reduceCtorEq, eq_self]
      refine KCall.ok (rwidth_does _ false _ (by omega) hss) ?_
      have hw64 := widthP_le hss
      have hfit := widthP_fits (l := stepsP (v :: r))
      have hzl := zigP_lt hll.1 hll.2
      have hb : bytesD (v :: r) = putP (zigP v.i) ++ putP (widthP (stepsP (v :: r))) ++ packP (stepsP (v :: r)) (widthP (stepsP (v :: r))) := rfl
      generalize widthP (stepsP (v :: r)) = w at *
      generalize stepsP (v :: r) = S at *
      simp (implicitDefEqProofs := false) only [↓reduceIte, go_sem, oread, owrite, Nat.reduceAdd, Nat.reduceSub, Nat.reduceMul, Nat.reduceLT, Nat.reduceLeDiff, Nat.reduceEqDiff, Nat.reduceBEq, Int.reduceLE, Int.reduceLT, Int.reduceEq, Int.reduceNe, Int.reduceAdd, Int.reduceSub, Int.reduceMul, Int.reduceNeg, Int.reduceToNat, Int.reduceNatCast, reduceCtorEq, eq_self, Val.enc]
      refine KCall.ok (rzig_does _ hll.1 hll.2 _) ?_
      simp (implicitDefEqProofs := false) only [↓reduceIte, go_sem, oread, owrite, Nat.reduceAdd, Nat.reduceSub, Nat.reduceMul, Nat.reduceLT, Nat.reduceLeDiff, Nat.reduceEqDiff, Nat.reduceBEq, Int.reduceLE, Int.reduceLT, Int.reduceEq, Int.reduceNe, Int.reduceAdd, Int.reduceSub, Int.reduceMul, Int.reduceNeg, Int.reduceToNat, Int.reduceNatCast, reduceCtorEq, eq_self]
      refine KCall.ok (rputOwn_does _ hzl _) ?_
      simp (implicitDefEqProofs := false) only [↓reduceIte, go_sem, oread, owrite, Nat.reduceAdd, Nat.reduceSub, Nat.reduceMul, Nat.reduceLT, Nat.reduceLeDiff, Nat.reduceEqDiff, Nat.reduceBEq, Int.reduceLE, Int.reduceLT, Int.reduceEq, Int.reduceNe, Int.reduceAdd, Int.reduceSub, Int.reduceMul, Int.reduceNeg, Int.reduceToNat, Int.reduceNatCast, reduceCtorEq, eq_self, wrapU64N w (by omega)]
      refine KCall.ok (rput_does w (by omega) _) ?_
      have l1 := putP_len 10 (zigP v.i) (by omega)
      have l2 := putP_len 10 w (by omega)
      simp (implicitDefEqProofs := false) only [↓reduceIte, go_sem, oread, owrite, Nat.reduceAdd, Nat.reduceSub, Nat.reduceMul, Nat.reduceLT, Nat.reduceLeDiff, Nat.reduceEqDiff, Nat.reduceBEq, Int.reduceLE, Int.reduceLT, Int.reduceEq, Int.reduceNe, Int.reduceAdd, Int.reduceSub, Int.reduceMul, Int.reduceNeg, Int.reduceToNat, Int.reduceNatCast, reduceCtorEq, eq_self, bys_one, bys_len, bys_app]
      refine ⟨by omega, by omega, ?_⟩
      refine KCall.ok (rpack_does S w hw64 hss hfit (by omega) false _) ?_
      simp (implicitDefEqProofs := false) only [↓reduceIte, go_sem, oread, owrite, Nat.reduceAdd, Nat.reduceSub, Nat.reduceMul, Nat.reduceLT, Nat.reduceLeDiff, Nat.reduceEqDiff, Nat.reduceBEq, Int.reduceLE, Int.reduceLT, Int.reduceEq, Int.reduceNe, Int.reduceAdd, Int.reduceSub, Int.reduceMul, Int.reduceNeg, Int.reduceToNat, Int.reduceNatCast, reduceCtorEq, eq_self, bys_one, bys_len, bys_app, List.length_append]
      have l3 : (packP S w).length ≤ 100000 := by
        rw [packP, packB_len, bitsL_len]
        have : S.length * w ≤ 4096 * 64 := Nat.mul_le_mul (by omega) hw64
        omega
      refine ⟨by omega, by omega, AEnd.ret ?_⟩
      have ht : (bys (putP (zigP v.i) ++ (putP w ++ packP S w))).take ((putP (zigP v.i)).length + (putP w).length + (packP S w).length) = bys (putP (zigP v.i) ++ (putP w ++ packP S w)) := take_len _ _ (by rw [bys_len, List.length_append, List.length_append]; omega)
      simp (implicitDefEqProofs := false) only [↓reduceIte, go_sem, oread, owrite, Nat.reduceAdd, Nat.reduceSub, Nat.reduceMul, Nat.reduceLT, Nat.reduceLeDiff, Nat.reduceEqDiff, Nat.reduceBEq, Int.reduceLE, Int.reduceLT, Int.reduceEq, Int.reduceNe, Int.reduceAdd, Int.reduceSub, Int.reduceMul, Int.reduceNeg, Int.reduceToNat, Int.reduceNatCast, reduceCtorEq, eq_self, deltaR, h1, hb, ht, Ne, not_false_eq_true, and_self]
  · simp (implicitDefEqProofs := false) only [↓reduceIte, go_sem, oread, owrite, Nat.reduceAdd, Nat.reduceSub, Nat.reduceMul, Nat.reduceLT, Nat.reduceLeDiff, Nat.reduceEqDiff, Nat.reduceBEq, Int.reduceLE, Int.reduceLT, Int.reduceEq, Int.reduceNe, Int.reduceAdd, Int.reduceSub, Int.reduceMul, Int.reduceNeg, Int.reduceToNat, Int.reduceNatCast, reduceCtorEq, eq_self, h1]
    refine AEnd.ret0 ?_
    simp (implicitDefEqProofs := false) only [↓reduceIte, go_sem, oread, owrite, Nat.reduceAdd, Nat.reduceSub, Nat.reduceMul, Nat.reduceLT, Nat.reduceLeDiff, Nat.reduceEqDiff, Nat.reduceBEq, Int.reduceLE, Int.reduceLT, Int.reduceEq, Int.reduceNe, Int.reduceAdd, Int.reduceSub, Int.reduceMul, Int.reduceNeg, Int.reduceToNat, Int.reduceNatCast, reduceCtorEq, eq_self, deltaR, h1, false_and]
set_option maxRecDepth 10000 in
set_option maxHeartbeats 1000000 in
theorem rof_does (b : List Nat) (n : Int) (nn : Bool) (hl : b.length ≤ 140737488351232) (hb : ∀ c ∈ b, c < 256) (H : AHeap) :
    Does Try.prog 16 [.d (.list nn (bys b)), iA n] H (.ok (.tup [valsA (ofR b n).1, iA (ofR b n).2])) H := by
  refine Does.of_awp (hint := (fun _ => false)) Try.func16 (by kernel_rfl) rfl [4, 5] (by kernel_rfl) (by decide) (by simp [Try.ntmps16]) ?_
  rw [Try.ntmps16]
  by_cases h1 : n < 0
  · simp (implicitDefEqProofs := false) only [↓reduceIte, go_sem, oread, owrite, Nat.reduceAdd, Nat.reduceSub, Nat.reduceMul, Nat.reduceLT, Nat.reduceLeDiff, Nat.reduceEqDiff, Nat.reduceBEq, Int.reduceLE, Int.reduceLT, Int.reduceEq, Int.reduceNe, Int.reduceAdd, Int.reduceSub, Int.reduceMul, Int.reduceNeg, Int.reduceToNat, Int.reduceNatCast, reduceCtorEq, eq_self, h1]
    refine AEnd.ret0 ?_
    simp (implicitDefEqProofs := false) only [↓reduceIte, go_sem, oread, owrite, Nat.reduceAdd, Nat.reduceSub, Nat.reduceMul, Nat.reduceLT, Nat.reduceLeDiff, Nat.reduceEqDiff, Nat.reduceBEq, Int.reduceLE, Int.reduceLT, Int.reduceEq, Int.reduceNe, Int.reduceAdd, Int.reduceSub, Int.reduceMul, Int.reduceNeg, Int.reduceToNat, Int.reduceNatCast, reduceCtorEq, eq_self]
    simp [ofR, h1, valsA]
  by_cases h2 : 4096 < n
  · simp (implicitDefEqProofs := false) only [↓reduceIte, go_sem, oread, owrite, Nat.reduceAdd, Nat.reduceSub, Nat.reduceMul, Nat.reduceLT, Nat.reduceLeDiff, Nat.reduceEqDiff, Nat.reduceBEq, Int.reduceLE, Int.reduceLT, Int.reduceEq, Int.reduceNe, Int.reduceAdd, Int.reduceSub, Int.reduceMul, Int.reduceNeg, Int.reduceToNat, Int.reduceNatCast, reduceCtorEq, eq_self, h1, h2]
    refine AEnd.ret0 ?_
    simp (implicitDefEqProofs := false) only [↓reduceIte, go_sem, oread, owrite, Nat.reduceAdd, Nat.reduceSub, Nat.reduceMul, Nat.reduceLT, Nat.reduceLeDiff, Nat.reduceEqDiff, Nat.reduceBEq, Int.reduceLE, Int.reduceLT, Int.reduceEq, Int.reduceNe, Int.reduceAdd, Int.reduceSub, Int.reduceMul, Int.reduceNeg, Int.reduceToNat, Int.reduceNatCast, reduceCtorEq, eq_self]
    simp [ofR, h2, valsA]
  by_cases h3 : n = 0
  · subst h3
    by_cases h4 : 0 < b.length
    · have h4' : (0 < (b.length : Int)) = True := eq_true (by omega)
      simp (implicitDefEqProofs := false) only [↓reduceIte, go_sem, oread, owrite, Nat.reduceAdd, Nat.reduceSub, Nat.reduceMul, Nat.reduceLT, Nat.reduceLeDiff, Nat.reduceEqDiff, Nat.reduceBEq, Int.reduceLE, Int.reduceLT, Int.reduceEq, Int.reduceNe, Int.reduceAdd, Int.reduceSub, Int.reduceMul, Int.reduceNeg, Int.reduceToNat, Int.reduceNatCast, reduceCtorEq, eq_self, bys_len, h4']
      refine AEnd.ret0 ?_
      simp (implicitDefEqProofs := false) only [↓reduceIte, go_sem, oread, owrite, Nat.reduceAdd, Nat.reduceSub, Nat.reduceMul, Nat.reduceLT, Nat.reduceLeDiff, Nat.reduceEqDiff, Nat.reduceBEq, Int.reduceLE, Int.reduceLT, Int.reduceEq, Int.reduceNe, Int.reduceAdd, Int.reduceSub, Int.reduceMul, Int.reduceNeg, Int.reduceToNat, Int.reduceNatCast, reduceCtorEq, eq_self]
      simp [ofR, h4, valsA]
    · have h4' : (0 < (b.length : Int)) = False := eq_false (by omega)
      simp (implicitDefEqProofs := false) only [↓reduceIte, go_sem, oread, owrite, Nat.reduceAdd, Nat.reduceSub, Nat.reduceMul, Nat.reduceLT, Nat.reduceLeDiff, Nat.reduceEqDiff, Nat.reduceBEq, Int.reduceLE, Int.reduceLT, Int.reduceEq, Int.reduceNe, Int.reduceAdd, Int.reduceSub, Int.reduceMul, Int.reduceNeg, Int.reduceToNat, Int.reduceNatCast, reduceCtorEq, eq_self, bys_len, h4']
      refine AEnd.ret0 ?_
      simp (implicitDefEqProofs := false) only [↓reduceIte, go_sem, oread, owrite, Nat.reduceAdd, Nat.reduceSub, Nat.reduceMul, Nat.reduceLT, Nat.reduceLeDiff, Nat.reduceEqDiff, Nat.reduceBEq, Int.reduceLE, Int.reduceLT, Int.reduceEq, Int.reduceNe, Int.reduceAdd, Int.reduceSub, Int.reduceMul, Int.reduceNeg, Int.reduceToNat, Int.reduceNatCast, reduceCtorEq, eq_self]
      simp [ofR, h4, valsA]
  have hR : ofR b n = ofB b n.toNat := by simp [ofR, h1, h2, h3]
  rw [hR]
  obtain ⟨m, hm⟩ : ∃ m : Nat, n = ((m + 1 : Nat) : Int) := ⟨n.toNat - 1, by omega⟩
  have hwn : IntKind.i64.wrap (n - 1) = (m : Int) := by rw [wrap64_in _ (by omega) (by omega)]; omega
  unfold ofB
  rw [show n.toNat = m + 1 by omega, show m + 1 - 1 = m from rfl]
  have hgl := getP_le b
  have hglt := getP_lt b
  simp (implicitDefEqProofs := false) only [↓reduceIte, go_sem, oread, owrite, Nat.reduceAdd, Nat.reduceSub, Nat.reduceMul, Nat.reduceLT, Nat.reduceLeDiff, Nat.reduceEqDiff, Nat.reduceBEq, Int.reduceLE, Int.reduceLT, Int.reduceEq, Int.reduceNe, Int.reduceAdd, Int.reduceSub, Int.reduceMul, Int.reduceNeg, Int.reduceToNat, Int.reduceNatCast, reduceCtorEq, eq_self, h1, h2, h3]
  refine KCall.ok (rgetB_does b nn (by omega) hb H) ?_
  generalize getP b = g1 at *
  obtain ⟨first, k, e⟩ := g1
  simp only at hgl hglt
  by_cases he : e = 0
  · subst he
    have hk0 : ((0 : Int) ≤ (k : Int)) = True := eq_true (by omega)
    simp (implicitDefEqProofs := false) only [↓reduceIte, go_sem, oread, owrite, Nat.reduceAdd, Nat.reduceSub, Nat.reduceMul, Nat.reduceLT, Nat.reduceLeDiff, Nat.reduceEqDiff, Nat.reduceBEq, Int.reduceLE, Int.reduceLT, Int.reduceEq, Int.reduceNe, Int.reduceAdd, Int.reduceSub, Int.reduceMul, Int.reduceNeg, Int.reduceToNat, Int.reduceNatCast, reduceCtorEq, eq_self, bys_one, bys_len, hk0, drop_bys]
    refine ⟨by omega, ?_⟩
    rw [show (bys b).take b.length = bys b from take_len _ _ (bys_len _), drop_bys]
    have hgl2 := getP_le (b.drop k)
    have hglt2 := getP_lt (b.drop k)
    have hb2 : ∀ c ∈ b.drop k, c < 256 := fun c hc => hb c (List.mem_of_mem_drop hc)
    refine KCall.ok (rgetB_does (b.drop k) false (by simp; omega) hb2 H) ?_
    rw [List.length_drop] at hgl2
    generalize getP (b.drop k) = g2 at *
    obtain ⟨w, j, e⟩ := g2
    simp only at hgl2 hglt2
    by_cases he : e = 0
    · subst he
      by_cases hw : 64 < w
      · have hw' : (64 < (w : Int)) = True := eq_true (by omega)
        simp (implicitDefEqProofs := false) only [↓reduceIte, go_sem, oread, owrite, Nat.reduceAdd, Nat.reduceSub, Nat.reduceMul, Nat.reduceLT, Nat.reduceLeDiff, Nat.reduceEqDiff, Nat.reduceBEq, Int.reduceLE, Int.reduceLT, Int.reduceEq, Int.reduceNe, Int.reduceAdd, Int.reduceSub, Int.reduceMul, Int.reduceNeg, Int.reduceToNat, Int.reduceNatCast, reduceCtorEq, eq_self, hw']
        refine AEnd.ret0 ?_
        simp (implicitDefEqProofs := false) only [↓reduceIte, go_sem, oread, owrite, Nat.reduceAdd, Nat.reduceSub, Nat.reduceMul, Nat.reduceLT, Nat.reduceLeDiff, Nat.reduceEqDiff, Nat.reduceBEq, Int.reduceLE, Int.reduceLT, Int.reduceEq, Int.reduceNe, Int.reduceAdd, Int.reduceSub, Int.reduceMul, Int.reduceNeg, Int.reduceToNat, Int.reduceNatCast, reduceCtorEq, eq_self]
        simp [hw, valsA]
      · have hw' : (64 < (w : Int)) = False := eq_false (by omega)
        have hkj : IntKind.i64.wrap ((k : Int) + (j : Int)) = ((k + j : Nat) : Int) := by rw [wrap64_in _ (by omega) (by omega)]; rfl
        have hww : IntKind.i64.wrap (w : Int) = (w : Int) := wrap64_in _ (by omega) (by omega)
        obtain ⟨p, hp⟩ : ∃ p, p = k + j := ⟨_, rfl⟩
        rw [← hp] at hkj
        simp only [← hp]
        have hp0 : ((0 : Int) ≤ (p : Int)) = True := eq_true (by omega)
        simp (implicitDefEqProofs := false) only [↓reduceIte, go_sem, oread, owrite, Nat.reduceAdd, Nat.reduceSub, Nat.reduceMul, Nat.reduceLT, Nat.reduceLeDiff, Nat.reduceEqDiff, Nat.reduceBEq, Int.reduceLE, Int.reduceLT, Int.reduceEq, Int.reduceNe, Int.reduceAdd, Int.reduceSub, Int.reduceMul, Int.reduceNeg, Int.reduceToNat, Int.reduceNatCast, reduceCtorEq, eq_self, hw', hkj, hww, hwn, bys_one, bys_len, hp0]
        refine ⟨by omega, ?_⟩
        rw [show (bys b).take b.length = bys b from take_len _ _ (bys_len _), drop_bys]
        have hb3 : ∀ c ∈ b.drop p, c < 256 := fun c hc => hb c (List.mem_of_mem_drop hc)
        have hSl := unpackL_lt (b.drop p) m w (by omega)
        have hSn := unpackL_len (b.drop p) m w
        have hu := runpack_does (b.drop p) m w false (by simp; omega) hb3 (by omega) (by omega) H
        unfold unpackA at hu
        generalize unpackL (b.drop p) m w = S at *
        by_cases hue : unpackE (b.drop p) m w = 0
        · rw [hue] at hu ⊢
          refine KCall.ok hu ?_
          simp (implicitDefEqProofs := false) only [↓reduceIte, go_sem, oread, owrite, Nat.reduceAdd, Nat.reduceSub, Nat.reduceMul, Nat.reduceLT, Nat.reduceLeDiff, Nat.reduceEqDiff, Nat.reduceBEq, Int.reduceLE, Int.reduceLT, Int.reduceEq, Int.reduceNe, Int.reduceAdd, Int.reduceSub, Int.reduceMul, Int.reduceNeg, Int.reduceToNat, Int.reduceNatCast, reduceCtorEq, eq_self]
          refine KCall.ok (rwidth_does S false H (by omega) hSl) ?_
          by_cases hwd : widthP S = w
          · have hwd' : (((widthP S : Nat) : Int) = (w : Int)) = True := eq_true (by omega)
            simp (implicitDefEqProofs := false) only [↓reduceIte, go_sem, oread, owrite, Nat.reduceAdd, Nat.reduceSub, Nat.reduceMul, Nat.reduceLT, Nat.reduceLeDiff, Nat.reduceEqDiff, Nat.reduceBEq, Int.reduceLE, Int.reduceLT, Int.reduceEq, Int.reduceNe, Int.reduceAdd, Int.reduceSub, Int.reduceMul, Int.reduceNeg, Int.reduceToNat, Int.reduceNatCast, reduceCtorEq, eq_self, hww, hwd']
            refine KCall.ok (rzag_does first hglt H) ?_
            simp (implicitDefEqProofs := false) only [↓reduceIte, go_sem, oread, owrite, Nat.reduceAdd, Nat.reduceSub, Nat.reduceMul, Nat.reduceLT, Nat.reduceLeDiff, Nat.reduceEqDiff, Nat.reduceBEq, Int.reduceLE, Int.reduceLT, Int.reduceEq, Int.reduceNe, Int.reduceAdd, Int.reduceSub, Int.reduceMul, Int.reduceNeg, Int.reduceToNat, Int.reduceNatCast, reduceCtorEq, eq_self]
            obtain ⟨M, hM⟩ : ∃ M : Nat, M = m + 1 := ⟨_, rfl⟩
            rw [← hM] at hm
            refine awp_for3 (fun i s H' => H' = H ++ [.arr 26 3 i ((sumL (zagP first) S i).map Val.enc)] ∧ s 1 = iA M ∧ s 12 = .d (.list false (us S)) ∧ s 14 = iA (sumN (zagP first) S (i - 1)) ∧ s 15 = .sl H.length i 0 i ∧ s 16 = iA i) M (by omega) (Weak.virt1 _ _ 15 26 3 (by decide) (by simp (implicitDefEqProofs := false) only [↓reduceIte, go_sem, oread, owrite, Nat.reduceAdd, Nat.reduceSub, Nat.reduceMul, Nat.reduceLT, Nat.reduceLeDiff, Nat.reduceEqDiff, Nat.reduceBEq, Int.reduceLE, Int.reduceLT, Int.reduceEq, Int.reduceNe, Int.reduceAdd, Int.reduceSub, Int.reduceMul, Int.reduceNeg, Int.reduceToNat, Int.reduceNatCast, reduceCtorEq, eq_self]) _) ?_ ?_ ?_
            · rw [show (sumL (zagP first) S 0).map Val.enc = [] from rfl]
              refine ⟨rfl, ?_⟩
              simp (implicitDefEqProofs := false) only [↓reduceIte, go_sem, oread, owrite, Nat.reduceAdd, Nat.reduceSub, Nat.reduceMul, Nat.reduceLT, Nat.reduceLeDiff, Nat.reduceEqDiff, Nat.reduceBEq, Int.reduceLE, Int.reduceLT, Int.reduceEq, Int.reduceNe, Int.reduceAdd, Int.reduceSub, Int.reduceMul, Int.reduceNeg, Int.reduceToNat, Int.reduceNatCast, reduceCtorEq, eq_self, hm]
              rfl
            · rintro i s H' hi hw2 ⟨rfl, t1, t12, t14, t15, t16⟩
              have hsu := sumL_succ (zagP first) S i
              have hln := sumL_len (zagP first) S i
              have hsn2 : ∀ (L : List Val) z, L.map Val.enc ++ [[D.v (.int .i64 1), D.v (.int .i64 z), D.v (.string ⟨#[]⟩)]] = (L ++ [num10 z]).map Val.enc := fun L z => by simp [Val.enc, num10, noS]
              by_cases h0 : i = 0
              · subst h0
                have hsn2 := hsn2 (sumL (zagP first) S 0)
                rw [show (0 : Nat) - 1 = 0 from rfl] at t14
                rw [show (0 : Nat) + 1 - 1 = 0 from rfl, hsu]
                generalize sumL (zagP first) S 0 = L at *
                generalize sumN (zagP first) S 0 = y at *
                have hi0 : (0 < (M : Int)) = True := eq_true (by omega)
                simp (implicitDefEqProofs := false) only [↓reduceIte, go_sem, oread, owrite, Nat.reduceAdd, Nat.reduceSub, Nat.reduceMul, Nat.reduceLT, Nat.reduceLeDiff, Nat.reduceEqDiff, Nat.reduceBEq, Int.reduceLE, Int.reduceLT, Int.reduceEq, Int.reduceNe, Int.reduceAdd, Int.reduceSub, Int.reduceMul, Int.reduceNeg, Int.reduceToNat, Int.reduceNatCast, reduceCtorEq, eq_self, t1, t12, t14, t15, t16, hi0, List.length_map, hln, hsn2]
                refine Rnd.same ⟨?_, ?_⟩
                · simp (implicitDefEqProofs := false) only [↓reduceIte, go_sem, oread, owrite, Nat.reduceAdd, Nat.reduceSub, Nat.reduceMul, Nat.reduceLT, Nat.reduceLeDiff, Nat.reduceEqDiff, Nat.reduceBEq, Int.reduceLE, Int.reduceLT, Int.reduceEq, Int.reduceNe, Int.reduceAdd, Int.reduceSub, Int.reduceMul, Int.reduceNeg, Int.reduceToNat, Int.reduceNatCast, reduceCtorEq, eq_self]
                · simp (implicitDefEqProofs := false) only [↓reduceIte, go_sem, oread, owrite, Nat.reduceAdd, Nat.reduceSub, Nat.reduceMul, Nat.reduceLT, Nat.reduceLeDiff, Nat.reduceEqDiff, Nat.reduceBEq, Int.reduceLE, Int.reduceLT, Int.reduceEq, Int.reduceNe, Int.reduceAdd, Int.reduceSub, Int.reduceMul, Int.reduceNeg, Int.reduceToNat, Int.reduceNatCast, reduceCtorEq, eq_self, t1, t12, t14]
                  rfl
              · have hx := us_get S (i - 1) (by omega)
                have hgd : S.getD (i - 1) 0 = S[i - 1]'(by omega) := by simp [List.getD, show i - 1 < S.length by omega]
                have hsx := hSl _ (List.getElem_mem (show i - 1 < S.length by omega))
                have hsn : IntKind.i64.wrap (sumN (zagP first) S (i - 1) + zagP (S[i - 1]'(by omega))) = sumN (zagP first) S i := by
                  obtain ⟨j, rfl⟩ : ∃ j, i = j + 1 := ⟨i - 1, by omega⟩
                  rw [← hgd]; rfl
                have hi0 : (0 < (i : Int)) = True := eq_true (by omega)
                have hw3 : IntKind.i64.wrap ((i : Int) - 1) = ((i - 1 : Nat) : Int) := by rw [wrap64_in _ (by omega) (by omega)]; omega
                have hil : i - 1 < S.length := by omega
                have hsn2 := hsn2 (sumL (zagP first) S i)
                rw [show i + 1 - 1 = i from rfl, hsu]
                generalize S[i - 1]'(by omega) = x at *
                generalize sumN (zagP first) S (i - 1) = y at *
                generalize sumN (zagP first) S i = z at *
                generalize sumL (zagP first) S i = L at *
                simp (implicitDefEqProofs := false) only [↓reduceIte, go_sem, oread, owrite, Nat.reduceAdd, Nat.reduceSub, Nat.reduceMul, Nat.reduceLT, Nat.reduceLeDiff, Nat.reduceEqDiff, Nat.reduceBEq, Int.reduceLE, Int.reduceLT, Int.reduceEq, Int.reduceNe, Int.reduceAdd, Int.reduceSub, Int.reduceMul, Int.reduceNeg, Int.reduceToNat, Int.reduceNatCast, reduceCtorEq, eq_self, t1, t12, t14, t15, t16, hi, hi0, hw3, us_len, hil, hx]
                refine KCall.ok (rzag_does x hsx _) ?_
                simp (implicitDefEqProofs := false) only [↓reduceIte, go_sem, oread, owrite, Nat.reduceAdd, Nat.reduceSub, Nat.reduceMul, Nat.reduceLT, Nat.reduceLeDiff, Nat.reduceEqDiff, Nat.reduceBEq, Int.reduceLE, Int.reduceLT, Int.reduceEq, Int.reduceNe, Int.reduceAdd, Int.reduceSub, Int.reduceMul, Int.reduceNeg, Int.reduceToNat, Int.reduceNatCast, reduceCtorEq, eq_self, t14, t15, hsn, List.length_map, hln, hsn2]
                refine ⟨by omega, by omega, ?_⟩
                simp (implicitDefEqProofs := false) only [↓reduceIte, go_sem, oread, owrite, Nat.reduceAdd, Nat.reduceSub, Nat.reduceMul, Nat.reduceLT, Nat.reduceLeDiff, Nat.reduceEqDiff, Nat.reduceBEq, Int.reduceLE, Int.reduceLT, Int.reduceEq, Int.reduceNe, Int.reduceAdd, Int.reduceSub, Int.reduceMul, Int.reduceNeg, Int.reduceToNat, Int.reduceNatCast, reduceCtorEq, eq_self, t16]
                refine Rnd.same ⟨?_, ?_⟩
                · simp (implicitDefEqProofs := false) only [↓reduceIte, go_sem, oread, owrite, Nat.reduceAdd, Nat.reduceSub, Nat.reduceMul, Nat.reduceLT, Nat.reduceLeDiff, Nat.reduceEqDiff, Nat.reduceBEq, Int.reduceLE, Int.reduceLT, Int.reduceEq, Int.reduceNe, Int.reduceAdd, Int.reduceSub, Int.reduceMul, Int.reduceNeg, Int.reduceToNat, Int.reduceNatCast, reduceCtorEq, eq_self]
                · simp (implicitDefEqProofs := false) only [↓reduceIte, go_sem, oread, owrite, Nat.reduceAdd, Nat.reduceSub, Nat.reduceMul, Nat.reduceLT, Nat.reduceLeDiff, Nat.reduceEqDiff, Nat.reduceBEq, Int.reduceLE, Int.reduceLT, Int.reduceEq, Int.reduceNe, Int.reduceAdd, Int.reduceSub, Int.reduceMul, Int.reduceNeg, Int.reduceToNat, Int.reduceNatCast, reduceCtorEq, eq_self, t1, t12, hw2]
            · rintro s H' ⟨rfl, t1, t12, t14, t15, t16⟩
              simp (implicitDefEqProofs := false) only [↓reduceIte, go_sem, oread, owrite, Nat.reduceAdd, Nat.reduceSub, Nat.reduceMul, Nat.reduceLT, Nat.reduceLeDiff, Nat.reduceEqDiff, Nat.reduceBEq, Int.reduceLE, Int.reduceLT, Int.reduceEq, Int.reduceNe, Int.reduceAdd, Int.reduceSub, Int.reduceMul, Int.reduceNeg, Int.reduceToNat, Int.reduceNatCast, reduceCtorEq, eq_self, t1, t15, t16]
              refine AEnd.ret ?_
              simp (implicitDefEqProofs := false) only [↓reduceIte, go_sem, oread, owrite, Nat.reduceAdd, Nat.reduceSub, Nat.reduceMul, Nat.reduceLT, Nat.reduceLeDiff, Nat.reduceEqDiff, Nat.reduceBEq, Int.reduceLE, Int.reduceLT, Int.reduceEq, Int.reduceNe, Int.reduceAdd, Int.reduceSub, Int.reduceMul, Int.reduceNeg, Int.reduceToNat, Int.reduceNatCast, reduceCtorEq, eq_self]
              rw [show ((sumL (zagP first) S M).map Val.enc).take M = (sumL (zagP first) S M).map Val.enc from take_len _ _ (by rw [List.length_map, sumL_len])]
              simp [hw, hwd, valsA, hM]
          · have hwd' : (((widthP S : Nat) : Int) = (w : Int)) = False := eq_false (by omega)
            simp (implicitDefEqProofs := false) only [↓reduceIte, go_sem, oread, owrite, Nat.reduceAdd, Nat.reduceSub, Nat.reduceMul, Nat.reduceLT, Nat.reduceLeDiff, Nat.reduceEqDiff, Nat.reduceBEq, Int.reduceLE, Int.reduceLT, Int.reduceEq, Int.reduceNe, Int.reduceAdd, Int.reduceSub, Int.reduceMul, Int.reduceNeg, Int.reduceToNat, Int.reduceNatCast, reduceCtorEq, eq_self, hww, hwd']
            refine AEnd.ret0 ?_
            simp (implicitDefEqProofs := false) only [↓reduceIte, go_sem, oread, owrite, Nat.reduceAdd, Nat.reduceSub, Nat.reduceMul, Nat.reduceLT, Nat.reduceLeDiff, Nat.reduceEqDiff, Nat.reduceBEq, Int.reduceLE, Int.reduceLT, Int.reduceEq, Int.reduceNe, Int.reduceAdd, Int.reduceSub, Int.reduceMul, Int.reduceNeg, Int.reduceToNat, Int.reduceNatCast, reduceCtorEq, eq_self]
            simp [hw, hwd, valsA]
        · rw [if_neg hue] at hu
          refine KCall.ok hu ?_
          simp (implicitDefEqProofs := false) only [↓reduceIte, go_sem, oread, owrite, Nat.reduceAdd, Nat.reduceSub, Nat.reduceMul, Nat.reduceLT, Nat.reduceLeDiff, Nat.reduceEqDiff, Nat.reduceBEq, Int.reduceLE, Int.reduceLT, Int.reduceEq, Int.reduceNe, Int.reduceAdd, Int.reduceSub, Int.reduceMul, Int.reduceNeg, Int.reduceToNat, Int.reduceNatCast, reduceCtorEq, eq_self, hue]
          refine AEnd.ret0 ?_
          simp (implicitDefEqProofs := false) only [↓reduceIte, go_sem, oread, owrite, Nat.reduceAdd, Nat.reduceSub, Nat.reduceMul, Nat.reduceLT, Nat.reduceLeDiff, Nat.reduceEqDiff, Nat.reduceBEq, Int.reduceLE, Int.reduceLT, Int.reduceEq, Int.reduceNe, Int.reduceAdd, Int.reduceSub, Int.reduceMul, Int.reduceNeg, Int.reduceToNat, Int.reduceNatCast, reduceCtorEq, eq_self]
          simp [hw, hue, valsA]
    · simp (implicitDefEqProofs := false) only [↓reduceIte, go_sem, oread, owrite, Nat.reduceAdd, Nat.reduceSub, Nat.reduceMul, Nat.reduceLT, Nat.reduceLeDiff, Nat.reduceEqDiff, Nat.reduceBEq, Int.reduceLE, Int.reduceLT, Int.reduceEq, Int.reduceNe, Int.reduceAdd, Int.reduceSub, Int.reduceMul, Int.reduceNeg, Int.reduceToNat, Int.reduceNatCast, reduceCtorEq, eq_self, he]
      refine AEnd.ret0 ?_
      simp (implicitDefEqProofs := false) only [↓reduceIte, go_sem, oread, owrite, Nat.reduceAdd, Nat.reduceSub, Nat.reduceMul, Nat.reduceLT, Nat.reduceLeDiff, Nat.reduceEqDiff, Nat.reduceBEq, Int.reduceLE, Int.reduceLT, Int.reduceEq, Int.reduceNe, Int.reduceAdd, Int.reduceSub, Int.reduceMul, Int.reduceNeg, Int.reduceToNat, Int.reduceNatCast, reduceCtorEq, eq_self]
      simp [he, valsA]
  · simp (implicitDefEqProofs := false) only [↓reduceIte, go_sem, oread, owrite, Nat.reduceAdd, Nat.reduceSub, Nat.reduceMul, Nat.reduceLT, Nat.reduceLeDiff, Nat.reduceEqDiff, Nat.reduceBEq, Int.reduceLE, Int.reduceLT, Int.reduceEq, Int.reduceNe, Int.reduceAdd, Int.reduceSub, Int.reduceMul, Int.reduceNeg, Int.reduceToNat, Int.reduceNatCast, reduceCtorEq, eq_self, he]
    refine AEnd.ret0 ?_
    simp (implicitDefEqProofs := false) only [↓reduceIte, go_sem, oread, owrite, Nat.reduceAdd, Nat.reduceSub, Nat.reduceMul, Nat.reduceLT, Nat.reduceLeDiff, Nat.reduceEqDiff, Nat.reduceBEq, Int.reduceLE, Int.reduceLT, Int.reduceEq, Int.reduceNe, Int.reduceAdd, Int.reduceSub, Int.reduceMul, Int.reduceNeg, Int.reduceToNat, Int.reduceNatCast, reduceCtorEq, eq_self]
    simp [he, valsA]
/-! ### few -/
def fsum : List Val → Nat → Nat
  | [], n => n
  | v :: r, n => if n ≤ 100000 then fsum r (n + v.s.size) else n
theorem fsum_cons (v : Val) (r : List Val) (n : Nat) : fsum (v :: r) n = if n ≤ 100000 then fsum r (n + v.s.size) else n := rfl
def fewP (l : List Val) : Bool := decide (l.length ≤ 1000) && decide (fsum l 0 ≤ 100000)
theorem fewP_len {l : List Val} (h : fewP l = true) : l.length ≤ 1000 := by
  unfold fewP at h
  simp at h
  exact h.1
set_option maxRecDepth 10000 in
set_option maxHeartbeats 1000000 in
theorem few10_does (l : List Val) (nn : Bool) (H : AHeap) (hl : l.length ≤ 1000000000000000) (hs : ∀ v ∈ l, v.s.size ≤ 140737488351232) : Does Try.prog 13 [.d (.list nn (l.map Val.enc))] H (.ok (bA (fewP l))) H := by
  refine Does.of_awp (hint := (fun _ => false)) Try.func13 (by kernel_rfl) rfl [2] (by kernel_rfl) (by decide) (by simp [Try.ntmps13]) ?_
  rw [Try.ntmps13]
  simp (implicitDefEqProofs := false) only [↓reduceIte, go_sem, oread, owrite, Nat.reduceAdd, Nat.reduceSub, Nat.reduceMul, Nat.reduceLT, Nat.reduceLeDiff, Nat.reduceEqDiff, Nat.reduceBEq, Int.reduceLE, Int.reduceLT, Int.reduceEq, Int.reduceNe, Int.reduceAdd, Int.reduceSub, Int.reduceMul, Int.reduceNeg, Int.reduceToNat, Int.reduceNatCast, reduceCtorEq, eq_self]
  refine awp_loop _ _ _ _ (fun (k : Nat) s H' => H' = H ∧ k ≤ l.length ∧ (∃ n : Nat, n ≤ 150000000000000 ∧ fsum l 0 = fsum (l.drop k) n ∧ s 3 = iA n) ∧ s 0 = .d (.list nn (l.map Val.enc)) ∧ s 4 = iA k) (fun k => l.length - k) 0 (Weak.refl _ _) ?_ ?_
  · refine ⟨rfl, Nat.zero_le _, ⟨0, by omega, rfl, ?_⟩, ?_⟩
    · simp (implicitDefEqProofs := false) only [↓reduceIte, go_sem, oread, owrite, Nat.reduceAdd, Nat.reduceSub, Nat.reduceMul, Nat.reduceLT, Nat.reduceLeDiff, Nat.reduceEqDiff, Nat.reduceBEq, Int.reduceLE, Int.reduceLT, Int.reduceEq, Int.reduceNe, Int.reduceAdd, Int.reduceSub, Int.reduceMul, Int.reduceNeg, Int.reduceToNat, Int.reduceNatCast, reduceCtorEq, eq_self]
    · simp (implicitDefEqProofs := false) only [↓reduceIte, go_sem, oread, owrite, Nat.reduceAdd, Nat.reduceSub, Nat.reduceMul, Nat.reduceLT, Nat.reduceLeDiff, Nat.reduceEqDiff, Nat.reduceBEq, Int.reduceLE, Int.reduceLT, Int.reduceEq, Int.reduceNe, Int.reduceAdd, Int.reduceSub, Int.reduceMul, Int.reduceNeg, Int.reduceToNat, Int.reduceNatCast, reduceCtorEq, eq_self]
  · rintro k s H' ⟨rfl, hk, ⟨n, hn, hf, t3⟩, t0, t4⟩
    have hw1 : IntKind.i64.wrap ((k : Int) + 1) = (k : Int) + 1 := wrap64_in _ (by omega) (by omega)
    have fin : (k = l.length ∨ 100000 < n) → fsum l 0 = n := by
      rintro (h | h)
      · rw [hf, List.drop_of_length_le (by omega)]; rfl
      · rw [hf]
        cases l.drop k with
        | nil => rfl
        | cons v r => rw [fsum_cons, if_neg (by omega)]
    by_cases hkl : k < l.length
    · by_cases hn2 : n ≤ 100000
      · have hx := List.getElem?_eq_getElem hkl
        have e1 := List.drop_eq_getElem_cons hkl
        have hxs := hs _ (List.getElem_mem hkl)
        generalize l[k] = x at hx e1 hxs
        have hf2 : fsum l 0 = fsum (l.drop (k + 1)) (n + x.s.size) := by rw [hf, e1, fsum_cons, if_pos hn2]
        obtain ⟨n2, hn2'⟩ : ∃ n2, n2 = n + x.s.size := ⟨_, rfl⟩
        have hw2 : IntKind.i64.wrap ((n : Int) + (x.s.size : Int)) = (n2 : Int) := by rw [wrap64_in _ (by omega) (by omega)]; omega
        simp (implicitDefEqProofs := false) only [↓reduceIte, go_sem, oread, owrite, Nat.reduceAdd, Nat.reduceSub, Nat.reduceMul, Nat.reduceLT, Nat.reduceLeDiff, Nat.reduceEqDiff, Nat.reduceBEq, Int.reduceLE, Int.reduceLT, Int.reduceEq, Int.reduceNe, Int.reduceAdd, Int.reduceSub, Int.reduceMul, Int.reduceNeg, Int.reduceToNat, Int.reduceNatCast, reduceCtorEq, eq_self, t0, t3, t4, eq_true hkl, show ((n : Int) ≤ 100000) = True from eq_true (by omega)]
        simp (implicitDefEqProofs := false) only [↓reduceIte, go_sem, oread, owrite, Nat.reduceAdd, Nat.reduceSub, Nat.reduceMul, Nat.reduceLT, Nat.reduceLeDiff, Nat.reduceEqDiff, Nat.reduceBEq, Int.reduceLE, Int.reduceLT, Int.reduceEq, Int.reduceNe, Int.reduceAdd, Int.reduceSub, Int.reduceMul, Int.reduceNeg, Int.reduceToNat, Int.reduceNatCast, reduceCtorEq, eq_self, t0, t3, t4, hkl, hx, Val.enc, hw2, hw1]
        refine ⟨_, _, k + 1, Weak.refl _ _, ⟨rfl, hkl, ⟨n2, by omega, by rw [hn2']; exact hf2, ?_⟩, ?_⟩, by omega⟩
        · simp (implicitDefEqProofs := false) only [↓reduceIte, go_sem, oread, owrite, Nat.reduceAdd, Nat.reduceSub, Nat.reduceMul, Nat.reduceLT, Nat.reduceLeDiff, Nat.reduceEqDiff, Nat.reduceBEq, Int.reduceLE, Int.reduceLT, Int.reduceEq, Int.reduceNe, Int.reduceAdd, Int.reduceSub, Int.reduceMul, Int.reduceNeg, Int.reduceToNat, Int.reduceNatCast, reduceCtorEq, eq_self]
        · simp (implicitDefEqProofs := false) only [↓reduceIte, go_sem, oread, owrite, Nat.reduceAdd, Nat.reduceSub, Nat.reduceMul, Nat.reduceLT, Nat.reduceLeDiff, Nat.reduceEqDiff, Nat.reduceBEq, Int.reduceLE, Int.reduceLT, Int.reduceEq, Int.reduceNe, Int.reduceAdd, Int.reduceSub, Int.reduceMul, Int.reduceNeg, Int.reduceToNat, Int.reduceNatCast, reduceCtorEq, eq_self, t0]
      · simp (implicitDefEqProofs := false) only [↓reduceIte, go_sem, oread, owrite, Nat.reduceAdd, Nat.reduceSub, Nat.reduceMul, Nat.reduceLT, Nat.reduceLeDiff, Nat.reduceEqDiff, Nat.reduceBEq, Int.reduceLE, Int.reduceLT, Int.reduceEq, Int.reduceNe, Int.reduceAdd, Int.reduceSub, Int.reduceMul, Int.reduceNeg, Int.reduceToNat, Int.reduceNatCast, reduceCtorEq, eq_self, t0, t3, t4, eq_true hkl, show ((n : Int) ≤ 100000) = False from eq_false (by omega)]
        have hfe : fewP l = false := by unfold fewP; rw [fin (.inr (by omega))]; simp; omega
        by_cases h1 : l.length ≤ 1000
        · simp (implicitDefEqProofs := false) only [↓reduceIte, go_sem, oread, owrite, Nat.reduceAdd, Nat.reduceSub, Nat.reduceMul, Nat.reduceLT, Nat.reduceLeDiff, Nat.reduceEqDiff, Nat.reduceBEq, Int.reduceLE, Int.reduceLT, Int.reduceEq, Int.reduceNe, Int.reduceAdd, Int.reduceSub, Int.reduceMul, Int.reduceNeg, Int.reduceToNat, Int.reduceNatCast, reduceCtorEq, eq_self, t0, t3, show ((l.length : Int) ≤ 1000) = True from eq_true (by omega), show ((n : Int) ≤ 100000) = False from eq_false (by omega)]
          refine AEnd.ret0 ?_
          simp (implicitDefEqProofs := false) only [↓reduceIte, go_sem, oread, owrite, Nat.reduceAdd, Nat.reduceSub, Nat.reduceMul, Nat.reduceLT, Nat.reduceLeDiff, Nat.reduceEqDiff, Nat.reduceBEq, Int.reduceLE, Int.reduceLT, Int.reduceEq, Int.reduceNe, Int.reduceAdd, Int.reduceSub, Int.reduceMul, Int.reduceNeg, Int.reduceToNat, Int.reduceNatCast, reduceCtorEq, eq_self, hfe]
        · simp (implicitDefEqProofs := false) only [↓reduceIte, go_sem, oread, owrite, Nat.reduceAdd, Nat.reduceSub, Nat.reduceMul, Nat.reduceLT, Nat.reduceLeDiff, Nat.reduceEqDiff, Nat.reduceBEq, Int.reduceLE, Int.reduceLT, Int.reduceEq, Int.reduceNe, Int.reduceAdd, Int.reduceSub, Int.reduceMul, Int.reduceNeg, Int.reduceToNat, Int.reduceNatCast, reduceCtorEq, eq_self, t0, show ((l.length : Int) ≤ 1000) = False from eq_false (by omega)]
          refine AEnd.ret0 ?_
          simp (implicitDefEqProofs := false) only [↓reduceIte, go_sem, oread, owrite, Nat.reduceAdd, Nat.reduceSub, Nat.reduceMul, Nat.reduceLT, Nat.reduceLeDiff, Nat.reduceEqDiff, Nat.reduceBEq, Int.reduceLE, Int.reduceLT, Int.reduceEq, Int.reduceNe, Int.reduceAdd, Int.reduceSub, Int.reduceMul, Int.reduceNeg, Int.reduceToNat, Int.reduceNatCast, reduceCtorEq, eq_self, hfe]
    · simp (implicitDefEqProofs := false) only [↓reduceIte, go_sem, oread, owrite, Nat.reduceAdd, Nat.reduceSub, Nat.reduceMul, Nat.reduceLT, Nat.reduceLeDiff, Nat.reduceEqDiff, Nat.reduceBEq, Int.reduceLE, Int.reduceLT, Int.reduceEq, Int.reduceNe, Int.reduceAdd, Int.reduceSub, Int.reduceMul, Int.reduceNeg, Int.reduceToNat, Int.reduceNatCast, reduceCtorEq, eq_self, t0, t4, eq_false hkl]
      have hfe : fewP l = (decide (l.length ≤ 1000) && decide (n ≤ 100000)) := by unfold fewP; rw [fin (.inl (by omega))]
      by_cases h1 : l.length ≤ 1000
      · by_cases h2 : n ≤ 100000
        · simp (implicitDefEqProofs := false) only [↓reduceIte, go_sem, oread, owrite, Nat.reduceAdd, Nat.reduceSub, Nat.reduceMul, Nat.reduceLT, Nat.reduceLeDiff, Nat.reduceEqDiff, Nat.reduceBEq, Int.reduceLE, Int.reduceLT, Int.reduceEq, Int.reduceNe, Int.reduceAdd, Int.reduceSub, Int.reduceMul, Int.reduceNeg, Int.reduceToNat, Int.reduceNatCast, reduceCtorEq, eq_self, t0, t3, show ((l.length : Int) ≤ 1000) = True from eq_true (by omega), show ((n : Int) ≤ 100000) = True from eq_true (by omega)]
          refine AEnd.ret0 ?_
          simp (implicitDefEqProofs := false) only [↓reduceIte, go_sem, oread, owrite, Nat.reduceAdd, Nat.reduceSub, Nat.reduceMul, Nat.reduceLT, Nat.reduceLeDiff, Nat.reduceEqDiff, Nat.reduceBEq, Int.reduceLE, Int.reduceLT, Int.reduceEq, Int.reduceNe, Int.reduceAdd, Int.reduceSub, Int.reduceMul, Int.reduceNeg, Int.reduceToNat, Int.reduceNatCast, reduceCtorEq, eq_self, hfe, h1, h2, Bool.and_self]
        · simp (implicitDefEqProofs := false) only [↓reduceIte, go_sem, oread, owrite, Nat.reduceAdd, Nat.reduceSub, Nat.reduceMul, Nat.reduceLT, Nat.reduceLeDiff, Nat.reduceEqDiff, Nat.reduceBEq, Int.reduceLE, Int.reduceLT, Int.reduceEq, Int.reduceNe, Int.reduceAdd, Int.reduceSub, Int.reduceMul, Int.reduceNeg, Int.reduceToNat, Int.reduceNatCast, reduceCtorEq, eq_self, t0, t3, show ((l.length : Int) ≤ 1000) = True from eq_true (by omega), show ((n : Int) ≤ 100000) = False from eq_false (by omega)]
          refine AEnd.ret0 ?_
          simp (implicitDefEqProofs := false) only [↓reduceIte, go_sem, oread, owrite, Nat.reduceAdd, Nat.reduceSub, Nat.reduceMul, Nat.reduceLT, Nat.reduceLeDiff, Nat.reduceEqDiff, Nat.reduceBEq, Int.reduceLE, Int.reduceLT, Int.reduceEq, Int.reduceNe, Int.reduceAdd, Int.reduceSub, Int.reduceMul, Int.reduceNeg, Int.reduceToNat, Int.reduceNatCast, reduceCtorEq, eq_self, hfe, h1, h2, Bool.and_false]
      · simp (implicitDefEqProofs := false) only [↓reduceIte, go_sem, oread, owrite, Nat.reduceAdd, Nat.reduceSub, Nat.reduceMul, Nat.reduceLT, Nat.reduceLeDiff, Nat.reduceEqDiff, Nat.reduceBEq, Int.reduceLE, Int.reduceLT, Int.reduceEq, Int.reduceNe, Int.reduceAdd, Int.reduceSub, Int.reduceMul, Int.reduceNeg, Int.reduceToNat, Int.reduceNatCast, reduceCtorEq, eq_self, t0, show ((l.length : Int) ≤ 1000) = False from eq_false (by omega)]
        refine AEnd.ret0 ?_
        simp (implicitDefEqProofs := false) only [↓reduceIte, go_sem, oread, owrite, Nat.reduceAdd, Nat.reduceSub, Nat.reduceMul, Nat.reduceLT, Nat.reduceLeDiff, Nat.reduceEqDiff, Nat.reduceBEq, Int.reduceLE, Int.reduceLT, Int.reduceEq, Int.reduceNe, Int.reduceAdd, Int.reduceSub, Int.reduceMul, Int.reduceNeg, Int.reduceToNat, Int.reduceNatCast, reduceCtorEq, eq_self, hfe, h1, Bool.false_and]
end Go.Proofs.Ytcdnbefcccdaeaa
namespace Go.Proofs.Ytcdnbefcccdaeaa
open Go.Proofs.YtcdnbefcccdaeaaAw Go.RowKit
set_option linter.unusedVariables false
set_option linter.unusedSimpArgs false
def valsK (b : List Nat) (n : Int) : List Val := (ofR b n).1.getD []
theorem ofB_none (b : List Nat) (n : Nat) (h : (ofB b n).2 ≠ 0) : (ofB b n).1 = none := by
  unfold ofB at *
  repeat' split
  all_goals first | rfl | (exfalso; simp_all; done)
theorem ofR_none (b : List Nat) (n : Int) (h : (ofR b n).2 ≠ 0) : valsK b n = [] := by
  have : (ofR b n).1 = none := by
    unfold ofR at *
    by_cases h1 : n < 0 ∨ 4096 < n
    · rw [if_pos h1]
    · rw [if_neg h1] at h ⊢
      by_cases h2 : n = 0
      · rw [if_pos h2]
      · rw [if_neg h2] at h ⊢
        exact ofB_none b _ h
  unfold valsK
  rw [this]; rfl
theorem ofB_some (b : List Nat) (n : Nat) (h : (ofB b n).2 = 0) : ∃ k, ofB b n = (some k, 0) := by
  unfold ofB at *
  split at h
  · contradiction
  · split at h
    · contradiction
    · split at h
      · simp at h
      · split at h
        · contradiction
        · split at h
          · simp at h
          · rename_i h1 h2 h3 h4 h5
            exact ⟨_, by rw [if_neg h1, if_neg h2, if_neg h3, if_neg h4, if_neg h5]⟩
theorem ofR_ok (b : List Nat) (n : Int) (hb : ∀ c ∈ b, c < 256) (h : (ofR b n).2 = 0) : bytesD (valsK b n) = b ∧ ((valsK b n).length : Int) = n ∧ plainP (valsK b n) 1 = 0 ∧ ∀ v ∈ valsK b n, I64 v.i := by
  by_cases h1 : n < 0 ∨ 4096 < n
  · unfold ofR at h; rw [if_pos h1] at h; simp at h
  by_cases h2 : n = 0
  · subst h2
    unfold ofR at h
    rw [if_neg h1, if_pos rfl] at h
    have hl : ¬ 0 < b.length := by intro hl; simp [hl] at h
    have hb0 : b = [] := List.eq_nil_of_length_eq_zero (by omega)
    subst hb0
    have hk : valsK [] 0 = [] := rfl
    rw [hk]
    exact ⟨rfl, rfl, plainP_num (fun v hv => by simp at hv) (by simp), fun v hv => by simp at hv⟩
  · have e : ofR b n = ofB b n.toNat := by unfold ofR; rw [if_neg h1, if_neg h2]
    rw [e] at h
    obtain ⟨k, hk⟩ := ofB_some b _ h
    rw [hk] at e
    obtain ⟨g1, g2, g3, g4, g5, g6⟩ := bytes_of b n k hb e
    have hv : valsK b n = k := by unfold valsK; rw [e]; rfl
    rw [hv]
    exact ⟨g1, g2, plainP_num (fun v hv => ⟨_, g5 v hv⟩) (by omega), g6⟩
theorem ofR_bytes (l : List Val) (hm : l.length ≤ 4096) (hn : ∀ v ∈ l, v = num10 v.i) (hok : ∀ v ∈ l, I64 v.i) : (ofR (bytesD l) l.length).2 = 0 ∧ valsK (bytesD l) l.length = l := by
  by_cases h : l = []
  · subst h; exact ⟨rfl, rfl⟩
  · have := of_bytes l h hm hn hok
    unfold valsK
    rw [this]
    exact ⟨rfl, rfl⟩
theorem ofL_does (b : List Nat) (n : Int) (nn : Bool) (hl : b.length ≤ 140737488351232) (hb : ∀ c ∈ b, c < 256) (H : AHeap) :
    Does Try.prog 15 [.d (.list nn (bys b)), iA n] H (.ok (.tup [.d (.list false ((valsK b n).map Val.enc)), iA (ofR b n).2])) H := by
  refine (of_does b n nn hl hb H).subT (.cons ?_ (.cons (.refl _) .nil))
  unfold valsK valsA
  cases (ofR b n).1 with
  | none => exact .nil
  | some l => exact .refl _
theorem dbytesL_does (l : List Val) (hp : plainP l 1 = 0) (hok : ∀ v ∈ l, I64 v.i) (H : AHeap) : Does Try.prog 9 [.d (.list false (l.map Val.enc))] H (.ok (.tup [.d (.list false (bys (bytesD l))), iA 0])) H := by
  have h := dbytes_does l hok false H (by have := plainP_len hp; omega)
  unfold deltaR at h
  by_cases hl : l = []
  · subst hl
    rw [if_neg (by simp), hp] at h
    exact h.subT (.cons .nil (.cons (.refl _) .nil))
  · rw [if_pos ⟨hp, hl⟩] at h
    exact h
theorem bytesD_byte2 (l : List Val) (hok : ∀ v ∈ l, I64 v.i) : ∀ c ∈ bytesD l, c < 256 := by
  cases l with
  | nil => intro c hc; simp [bytesD] at hc
  | cons v r =>
    have hv := hok v (by simp)
    have hz := zigP_lt hv.1 hv.2
    have hw := widthP_le (stepsP_lt (v :: r))
    rw [bytesD_cons]
    intro c hc
    rcases List.mem_append.1 hc with h | h
    · exact putP_byte 10 _ (by omega) c h
    · rcases List.mem_append.1 h with h | h
      · exact putP_byte 10 _ (by omega) c h
      · obtain ⟨i, _, rfl⟩ := List.mem_map.1 h
        exact byteAt_lt _ _
theorem bytesD_len (l : List Val) (hl : l.length ≤ 4096) (hok : ∀ v ∈ l, I64 v.i) : (bytesD l).length ≤ 100000 := by
  cases l with
  | nil => simp [bytesD]
  | cons v r =>
    have hv := hok v (by simp)
    have hz := zigP_lt hv.1 hv.2
    have hw := widthP_le (stepsP_lt (v :: r))
    have l1 := putP_len 10 (zigP v.i) (by omega)
    have l2 := putP_len 10 (widthP (stepsP (v :: r))) (by omega)
    have h3 : (stepsP (v :: r)).length * widthP (stepsP (v :: r)) ≤ 4096 * 64 := Nat.mul_le_mul (by rw [stepsP_len]; omega) hw
    rw [bytesD_cons, List.length_append, List.length_append, packP, packB_len, bitsL_len]
    omega
set_option maxRecDepth 10000 in
set_option maxHeartbeats 1000000 in
theorem deltaBack_walk (l : List Int) (b : List Nat) (n : Int) (hl : l.length ≤ 140737488355328) (hi : ∀ n ∈ l, I64 n) (hbl : b.length ≤ 140737488351232) (hb : ∀ c ∈ b, c < 256) (hn : I64 n) (H : AHeap) :
    Does Try.prog 6 [.d (.list false (ints l)), .d (.list false (bys b)), .d (.v (.int .i64 n))] H (.ok (bA true)) H := by
  refine Does.of_awp (hint := (fun t => t == 1000009)) Try.func6 (by kernel_rfl) rfl [6] (by kernel_rfl) (by decide) (by simp [Try.ntmps6]) ?_
  rw [Try.ntmps6]
  simp (implicitDefEqProofs := false) only [↓reduceIte, go_sem, oread, owrite, Nat.reduceAdd, Nat.reduceSub, Nat.reduceMul, Nat.reduceLT, Nat.reduceLeDiff, Nat.reduceEqDiff, Nat.reduceBEq, Int.reduceLE, Int.reduceLT, Int.reduceEq, Int.reduceNe, Int.reduceAdd, Int.reduceSub, Int.reduceMul, Int.reduceNeg, Int.reduceToNat, Int.reduceNatCast, reduceCtorEq, eq_self]
  refine KCall.ok (shown10_does _) ?_
  by_cases h1 : 1000 < l.length
  · simp (implicitDefEqProofs := false) only [↓reduceIte, go_sem, oread, owrite, Nat.reduceAdd, Nat.reduceSub, Nat.reduceMul, Nat.reduceLT, Nat.reduceLeDiff, Nat.reduceEqDiff, Nat.reduceBEq, Int.reduceLE, Int.reduceLT, Int.reduceEq, Int.reduceNe, Int.reduceAdd, Int.reduceSub, Int.reduceMul, Int.reduceNeg, Int.reduceToNat, Int.reduceNatCast, reduceCtorEq, eq_self, ints_len, show ((1000 : Int) < (l.length : Int)) = True from eq_true (by omega)]
    refine AEnd.ret0 ?_
    simp (implicitDefEqProofs := false) only [↓reduceIte, go_sem, oread, owrite, Nat.reduceAdd, Nat.reduceSub, Nat.reduceMul, Nat.reduceLT, Nat.reduceLeDiff, Nat.reduceEqDiff, Nat.reduceBEq, Int.reduceLE, Int.reduceLT, Int.reduceEq, Int.reduceNe, Int.reduceAdd, Int.reduceSub, Int.reduceMul, Int.reduceNeg, Int.reduceToNat, Int.reduceNatCast, reduceCtorEq, eq_self]
  · simp (implicitDefEqProofs := false) only [↓reduceIte, go_sem, oread, owrite, Nat.reduceAdd, Nat.reduceSub, Nat.reduceMul, Nat.reduceLT, Nat.reduceLeDiff, Nat.reduceEqDiff, Nat.reduceBEq, Int.reduceLE, Int.reduceLT, Int.reduceEq, Int.reduceNe, Int.reduceAdd, Int.reduceSub, Int.reduceMul, Int.reduceNeg, Int.reduceToNat, Int.reduceNatCast, reduceCtorEq, eq_self, ints_len, show ((1000 : Int) < (l.length : Int)) = False from eq_false (by omega)]
    refine awp_for3 (fun k s H' => H' = H ++ [.arr 26 3 k (((l.map num10).take k).map Val.enc)] ∧ s 0 = .d (.list false (ints l)) ∧ s 1 = .d (.list false (bys b)) ∧ s 2 = .d (.v (.int .i64 n)) ∧ s 7 = bA true ∧ s 8 = .sl H.length k 0 k ∧ s 9 = iA k) l.length (by omega) (Weak.virt1 _ _ 8 26 3 (by decide) (by simp (implicitDefEqProofs := false) only [↓reduceIte, go_sem, oread, owrite, Nat.reduceAdd, Nat.reduceSub, Nat.reduceMul, Nat.reduceLT, Nat.reduceLeDiff, Nat.reduceEqDiff, Nat.reduceBEq, Int.reduceLE, Int.reduceLT, Int.reduceEq, Int.reduceNe, Int.reduceAdd, Int.reduceSub, Int.reduceMul, Int.reduceNeg, Int.reduceToNat, Int.reduceNatCast, reduceCtorEq, eq_self]) _) ?_ ?_ ?_
    · refine ⟨by simp, ?_⟩
      simp (implicitDefEqProofs := false) only [↓reduceIte, go_sem, oread, owrite, Nat.reduceAdd, Nat.reduceSub, Nat.reduceMul, Nat.reduceLT, Nat.reduceLeDiff, Nat.reduceEqDiff, Nat.reduceBEq, Int.reduceLE, Int.reduceLT, Int.reduceEq, Int.reduceNe, Int.reduceAdd, Int.reduceSub, Int.reduceMul, Int.reduceNeg, Int.reduceToNat, Int.reduceNatCast, reduceCtorEq, eq_self]
    · rintro k s H' hk hw ⟨rfl, t0, t1, t2, t7, t8, t9⟩
      have hx := ints_get l k hk
      have e1 : (l.map num10).take (k + 1) = (l.map num10).take k ++ [num10 l[k]] := by rw [← List.map_take, List.take_succ_eq_append_getElem hk, List.map_append, List.map_take]; rfl
      have e5 : ((l.map num10).take k).length = k := by simp; omega
      generalize l[k] = x at hx e1
      rw [e1]
      generalize (l.map num10).take k = A at *
      have q1 : A.map Val.enc ++ [(num10 x).enc] = (A ++ [num10 x]).map Val.enc := by simp
      simp only [Val.enc, num10, noS] at q1
      simp (implicitDefEqProofs := false) only [↓reduceIte, go_sem, oread, owrite, Nat.reduceAdd, Nat.reduceSub, Nat.reduceMul, Nat.reduceLT, Nat.reduceLeDiff, Nat.reduceEqDiff, Nat.reduceBEq, Int.reduceLE, Int.reduceLT, Int.reduceEq, Int.reduceNe, Int.reduceAdd, Int.reduceSub, Int.reduceMul, Int.reduceNeg, Int.reduceToNat, Int.reduceNatCast, reduceCtorEq, eq_self, t0, t8, t9, hk, ints_len, hx, e5]
      refine ⟨by omega, by omega, Rnd.same ⟨?_, ?_⟩⟩
      · simp (implicitDefEqProofs := false) only [↓reduceIte, go_sem, oread, owrite, Nat.reduceAdd, Nat.reduceSub, Nat.reduceMul, Nat.reduceLT, Nat.reduceLeDiff, Nat.reduceEqDiff, Nat.reduceBEq, Int.reduceLE, Int.reduceLT, Int.reduceEq, Int.reduceNe, Int.reduceAdd, Int.reduceSub, Int.reduceMul, Int.reduceNeg, Int.reduceToNat, Int.reduceNatCast, reduceCtorEq, eq_self, q1, num10, noS]
      · simp (implicitDefEqProofs := false) only [↓reduceIte, go_sem, oread, owrite, Nat.reduceAdd, Nat.reduceSub, Nat.reduceMul, Nat.reduceLT, Nat.reduceLeDiff, Nat.reduceEqDiff, Nat.reduceBEq, Int.reduceLE, Int.reduceLT, Int.reduceEq, Int.reduceNe, Int.reduceAdd, Int.reduceSub, Int.reduceMul, Int.reduceNeg, Int.reduceToNat, Int.reduceNatCast, reduceCtorEq, eq_self, t0, t1, t2, t7, hw]
    · rintro s H' ⟨rfl, t0, t1, t2, t7, t8, t9⟩
      have m1 : (l.map num10).take l.length = l.map num10 := List.take_of_length_le (by simp)
      have hok : ∀ v ∈ l.map num10, I64 v.i := fun v hv => by obtain ⟨x, hx, rfl⟩ := List.mem_map.1 hv; exact hi x hx
      have hnum : ∀ v ∈ l.map num10, v = num10 v.i := fun v hv => by obtain ⟨x, _, rfl⟩ := List.mem_map.1 hv; rfl
      have hml : (l.map num10).length = l.length := by simp
      have hpl : plainP (l.map num10) 1 = 0 := plainP_num (fun v hv => ⟨_, hnum v hv⟩) (by omega)
      have d1 := dbytesL_does (l.map num10) hpl hok H
      have hx1 := ofR_bytes (l.map num10) (by omega) hnum hok
      have d2 := ofL_does (bytesD (l.map num10)) (l.map num10).length false (by have := bytesD_len (l.map num10) (by omega) hok; omega) (bytesD_byte2 _ hok) H
      rw [hx1.1, hx1.2] at d2
      have d3 := ofL_does b n false hbl hb H
      rw [hml] at d2
      have d4 := same05_does (l.map num10) (l.map num10) false false H (by omega)
      simp (implicitDefEqProofs := false) only [↓reduceIte, go_sem, oread, owrite, Nat.reduceAdd, Nat.reduceSub, Nat.reduceMul, Nat.reduceLT, Nat.reduceLeDiff, Nat.reduceEqDiff, Nat.reduceBEq, Int.reduceLE, Int.reduceLT, Int.reduceEq, Int.reduceNe, Int.reduceAdd, Int.reduceSub, Int.reduceMul, Int.reduceNeg, Int.reduceToNat, Int.reduceNatCast, reduceCtorEq, eq_self, t0, t9, ints_len]
      refine ⟨_, _, Weak.drop H _ _, ?_⟩
      simp (implicitDefEqProofs := false) only [↓reduceIte, go_sem, oread, owrite, Nat.reduceAdd, Nat.reduceSub, Nat.reduceMul, Nat.reduceLT, Nat.reduceLeDiff, Nat.reduceEqDiff, Nat.reduceBEq, Int.reduceLE, Int.reduceLT, Int.reduceEq, Int.reduceNe, Int.reduceAdd, Int.reduceSub, Int.reduceMul, Int.reduceNeg, Int.reduceToNat, Int.reduceNatCast, reduceCtorEq, eq_self, t8, take_len, m1, hml]
      refine KCall.ok d1 ?_
      simp (implicitDefEqProofs := false) only [↓reduceIte, go_sem, oread, owrite, Nat.reduceAdd, Nat.reduceSub, Nat.reduceMul, Nat.reduceLT, Nat.reduceLeDiff, Nat.reduceEqDiff, Nat.reduceBEq, Int.reduceLE, Int.reduceLT, Int.reduceEq, Int.reduceNe, Int.reduceAdd, Int.reduceSub, Int.reduceMul, Int.reduceNeg, Int.reduceToNat, Int.reduceNatCast, reduceCtorEq, eq_self, t0, ints_len]
      refine KCall.ok d2 ?_
      simp (implicitDefEqProofs := false) only [↓reduceIte, go_sem, oread, owrite, Nat.reduceAdd, Nat.reduceSub, Nat.reduceMul, Nat.reduceLT, Nat.reduceLeDiff, Nat.reduceEqDiff, Nat.reduceBEq, Int.reduceLE, Int.reduceLT, Int.reduceEq, Int.reduceNe, Int.reduceAdd, Int.reduceSub, Int.reduceMul, Int.reduceNeg, Int.reduceToNat, Int.reduceNatCast, reduceCtorEq, eq_self, t8, take_len, m1, hml]
      refine KCall.ok d4 ?_
      simp (implicitDefEqProofs := false) only [↓reduceIte, go_sem, oread, owrite, Nat.reduceAdd, Nat.reduceSub, Nat.reduceMul, Nat.reduceLT, Nat.reduceLeDiff, Nat.reduceEqDiff, Nat.reduceBEq, Int.reduceLE, Int.reduceLT, Int.reduceEq, Int.reduceNe, Int.reduceAdd, Int.reduceSub, Int.reduceMul, Int.reduceNeg, Int.reduceToNat, Int.reduceNatCast, reduceCtorEq, eq_self, t1, t2, decide_true]
      refine KCall.ok d3 ?_
      by_cases he : (ofR b n).2 = 0
      · obtain ⟨g1, g2, g3, g4⟩ := ofR_ok b n hb he
        have d5 := dbytesL_does (valsK b n) g3 g4 H
        rw [g1] at d5
        simp (implicitDefEqProofs := false) only [↓reduceIte, go_sem, oread, owrite, Nat.reduceAdd, Nat.reduceSub, Nat.reduceMul, Nat.reduceLT, Nat.reduceLeDiff, Nat.reduceEqDiff, Nat.reduceBEq, Int.reduceLE, Int.reduceLT, Int.reduceEq, Int.reduceNe, Int.reduceAdd, Int.reduceSub, Int.reduceMul, Int.reduceNeg, Int.reduceToNat, Int.reduceNatCast, reduceCtorEq, eq_self, he]
        refine KCall.ok d5 ?_
        have v3 : ((pushAll (b.map fun (n : Nat) => (n : Int))).toList == (pushAll (b.map fun (n : Nat) => (n : Int))).toList) = true := by simp
        simp (implicitDefEqProofs := false) only [↓reduceIte, go_sem, oread, owrite, Nat.reduceAdd, Nat.reduceSub, Nat.reduceMul, Nat.reduceLT, Nat.reduceLeDiff, Nat.reduceEqDiff, Nat.reduceBEq, Int.reduceLE, Int.reduceLT, Int.reduceEq, Int.reduceNe, Int.reduceAdd, Int.reduceSub, Int.reduceMul, Int.reduceNeg, Int.reduceToNat, Int.reduceNatCast, reduceCtorEq, eq_self, t1, t2, t7, asBytes_bys, v3, List.length_map, g2]
        refine AEnd.ret0 ?_
        simp (implicitDefEqProofs := false) only [↓reduceIte, go_sem, oread, owrite, Nat.reduceAdd, Nat.reduceSub, Nat.reduceMul, Nat.reduceLT, Nat.reduceLeDiff, Nat.reduceEqDiff, Nat.reduceBEq, Int.reduceLE, Int.reduceLT, Int.reduceEq, Int.reduceNe, Int.reduceAdd, Int.reduceSub, Int.reduceMul, Int.reduceNeg, Int.reduceToNat, Int.reduceNatCast, reduceCtorEq, eq_self]
      · have hk := ofR_none b n he
        simp (implicitDefEqProofs := false) only [↓reduceIte, go_sem, oread, owrite, Nat.reduceAdd, Nat.reduceSub, Nat.reduceMul, Nat.reduceLT, Nat.reduceLeDiff, Nat.reduceEqDiff, Nat.reduceBEq, Int.reduceLE, Int.reduceLT, Int.reduceEq, Int.reduceNe, Int.reduceAdd, Int.reduceSub, Int.reduceMul, Int.reduceNeg, Int.reduceToNat, Int.reduceNatCast, reduceCtorEq, eq_self, he, t7, hk]
        refine AEnd.ret0 ?_
        simp (implicitDefEqProofs := false) only [↓reduceIte, go_sem, oread, owrite, Nat.reduceAdd, Nat.reduceSub, Nat.reduceMul, Nat.reduceLT, Nat.reduceLeDiff, Nat.reduceEqDiff, Nat.reduceBEq, Int.reduceLE, Int.reduceLT, Int.reduceEq, Int.reduceNe, Int.reduceAdd, Int.reduceSub, Int.reduceMul, Int.reduceNeg, Int.reduceToNat, Int.reduceNatCast, reduceCtorEq, eq_self]
theorem argIntsB {x : AV} (h : ArgOk Try.prog 22 x) : ∃ l : List Int, x = .d (.list false (ints l)) ∧ l.length ≤ 17592186044416 * 8 ∧ ∀ n ∈ l, I64 n := by
  obtain ⟨d, rfl, hf⟩ := arg_one h K.agB22 (sh := .slice 8 [.int .i64]) (by kernel_rfl)
  obtain ⟨l, rfl, h1, h2⟩ := ints_inv hf
  exact ⟨l, rfl, by omega, h2⟩
theorem argIntB {x : AV} (h : ArgOk Try.prog 3 x) : ∃ n : Int, x = .d (.v (.int .i64 n)) ∧ I64 n := by
  obtain ⟨d, rfl, hf⟩ := arg_one h K.agB3 (sh := .int .i64) (by kernel_rfl)
  obtain ⟨n, rfl, hn⟩ := Fits.i64_inv hf
  exact ⟨n, rfl, hn⟩
theorem argBytes {x : AV} (h : ArgOk Try.prog 27 x) : ∃ b : List Nat, x = .d (.list false (bys b)) ∧ b.length ≤ 140737488351232 ∧ ∀ c ∈ b, c < 256 := by
  obtain ⟨d, rfl, hf⟩ := arg_one h K.agB27 (sh := .slice 1 [.int .u8]) (by kernel_rfl)
  obtain ⟨l, rfl, h1, h2⟩ := Fits.slice_inv hf
  obtain ⟨la, rfl, h3⟩ := map_inv (enc := fun n : Nat => [.v (.int .u8 (n : Int))]) (p := fun n => n < 256) fun e he => by
    obtain ⟨x, xs, rfl, hx, h⟩ := FitsL.cons_inv (h2 e he)
    cases FitsL.nil_inv h
    obtain ⟨n, rfl, hn⟩ := Fits.int_inv hx
    have hn : IntKind.u8.min ≤ n ∧ n ≤ IntKind.u8.max := by simpa [Lit.wf] using hn
    have h0 : IntKind.u8.min = 0 := by decide
    have h1 : IntKind.u8.max = 255 := by decide
    obtain ⟨m, rfl⟩ := Int.eq_ofNat_of_zero_le (show 0 ≤ n by omega)
    exact ⟨m, rfl, by omega⟩
  exact ⟨la, rfl, by simpa using h1, h3⟩
theorem deltaBack_does (x0 : AV) (h0 : ArgOk Try.prog 22 x0) (x1 : AV) (h1 : ArgOk Try.prog 27 x1) (x2 : AV) (h2 : ArgOk Try.prog 3 x2) : Does Try.prog 6 [x0, x1, x2] [] (.ok (.d (.v (.bool true)))) [] := by
  obtain ⟨l, rfl, hl, hi⟩ := argIntsB h0
  obtain ⟨b, rfl, hbl, hb⟩ := argBytes h1
  obtain ⟨n, rfl, hn⟩ := argIntB h2
  exact deltaBack_walk l b n (by omega) hi hbl hb hn []
end Go.Proofs.Ytcdnbefcccdaeaa
namespace Go.Proofs.Ytcdnbefcccdaeaa
open Go.Proofs.YtcdnbefcccdaeaaAw Go.RowKit
set_option linter.unusedVariables false
set_option linter.unusedSimpArgs false
def dL (l : List Val) : List Nat := if plainP l 1 = 0 ∧ l ≠ [] then bytesD l else []
theorem deltaR_sub (l : List Val) : ∃ x, deltaR l = .tup [x, iA (plainP l 1)] ∧ Sub x (.d (.list false (bys (dL l)))) := by
  unfold deltaR dL
  by_cases h : plainP l 1 = 0 ∧ l ≠ []
  · rw [if_pos h, if_pos h, h.1]; exact ⟨_, rfl, .refl _⟩
  · rw [if_neg h, if_neg h]; exact ⟨_, rfl, .nil⟩
theorem dL_does {f : FuncId} (l : List Val) (args : List AV) (H : AHeap) (h : Does Try.prog f args H (.ok (deltaR l)) H) : Does Try.prog f args H (.ok (.tup [.d (.list false (bys (dL l))), iA (plainP l 1)])) H := by
  obtain ⟨x, hx, hs⟩ := deltaR_sub l
  rw [hx] at h
  exact h.subT (.cons hs (.cons (.refl _) .nil))
theorem rofL_does (b : List Nat) (n : Int) (nn : Bool) (hl : b.length ≤ 140737488351232) (hb : ∀ c ∈ b, c < 256) (H : AHeap) :
    Does Try.prog 16 [.d (.list nn (bys b)), iA n] H (.ok (.tup [.d (.list false ((valsK b n).map Val.enc)), iA (ofR b n).2])) H := by
  refine (rof_does b n nn hl hb H).subT (.cons ?_ (.cons (.refl _) .nil))
  unfold valsK valsA
  cases (ofR b n).1 with
  | none => exact .nil
  | some l => exact .refl _
theorem valsK_len (b : List Nat) (n : Int) (hb : ∀ c ∈ b, c < 256) : (valsK b n).length ≤ 1000000000000 := by
  by_cases h : (ofR b n).2 = 0
  · obtain ⟨_, h2, h3, _⟩ := ofR_ok b n hb h
    have := plainP_len h3
    omega
  · rw [ofR_none b n h]; simp
set_option maxRecDepth 10000 in
set_option maxHeartbeats 2000000 in
theorem deltaBytes_walk (l : List Val) (b : List Nat) (n : Int) (hl : l.length ≤ 1000000000000000) (hs : ∀ v ∈ l, v.s.size ≤ 140737488351232) (hok : ∀ v ∈ l, I64 v.i) (hbl : b.length ≤ 140737488351232) (hb : ∀ c ∈ b, c < 256) (H : AHeap) :
    Does Try.prog 5 [.d (.list false (l.map Val.enc)), .d (.list false (bys b)), iA n] H (.ok (bA true)) H := by
  refine Does.of_awp (hint := (fun _ => false)) Try.func5 (by kernel_rfl) rfl [6] (by kernel_rfl) (by decide) (by simp [Try.ntmps5]) ?_
  rw [Try.ntmps5]
  simp (implicitDefEqProofs := false) only [↓reduceIte, go_sem, oread, owrite, Nat.reduceAdd, Nat.reduceSub, Nat.reduceMul, Nat.reduceLT, Nat.reduceLeDiff, Nat.reduceEqDiff, Nat.reduceBEq, Int.reduceLE, Int.reduceLT, Int.reduceEq, Int.reduceNe, Int.reduceAdd, Int.reduceSub, Int.reduceMul, Int.reduceNeg, Int.reduceToNat, Int.reduceNatCast, reduceCtorEq, eq_self]
  refine KCall.ok (shown10_does _) ?_
  simp (implicitDefEqProofs := false) only [↓reduceIte, go_sem, oread, owrite, Nat.reduceAdd, Nat.reduceSub, Nat.reduceMul, Nat.reduceLT, Nat.reduceLeDiff, Nat.reduceEqDiff, Nat.reduceBEq, Int.reduceLE, Int.reduceLT, Int.reduceEq, Int.reduceNe, Int.reduceAdd, Int.reduceSub, Int.reduceMul, Int.reduceNeg, Int.reduceToNat, Int.reduceNatCast, reduceCtorEq, eq_self]
  refine KCall.ok (few10_does l false _ hl hs) ?_
  cases hf : fewP l with
  | false =>
    simp (implicitDefEqProofs := false) only [↓reduceIte, go_sem, oread, owrite, Nat.reduceAdd, Nat.reduceSub, Nat.reduceMul, Nat.reduceLT, Nat.reduceLeDiff, Nat.reduceEqDiff, Nat.reduceBEq, Int.reduceLE, Int.reduceLT, Int.reduceEq, Int.reduceNe, Int.reduceAdd, Int.reduceSub, Int.reduceMul, Int.reduceNeg, Int.reduceToNat, Int.reduceNatCast, reduceCtorEq, eq_self]
    refine AEnd.ret0 ?_
    simp (implicitDefEqProofs := false) only [↓reduceIte, go_sem, oread, owrite, Nat.reduceAdd, Nat.reduceSub, Nat.reduceMul, Nat.reduceLT, Nat.reduceLeDiff, Nat.reduceEqDiff, Nat.reduceBEq, Int.reduceLE, Int.reduceLT, Int.reduceEq, Int.reduceNe, Int.reduceAdd, Int.reduceSub, Int.reduceMul, Int.reduceNeg, Int.reduceToNat, Int.reduceNatCast, reduceCtorEq, eq_self]
  | true =>
    have h1000 := fewP_len hf
    simp (implicitDefEqProofs := false) only [↓reduceIte, go_sem, oread, owrite, Nat.reduceAdd, Nat.reduceSub, Nat.reduceMul, Nat.reduceLT, Nat.reduceLeDiff, Nat.reduceEqDiff, Nat.reduceBEq, Int.reduceLE, Int.reduceLT, Int.reduceEq, Int.reduceNe, Int.reduceAdd, Int.reduceSub, Int.reduceMul, Int.reduceNeg, Int.reduceToNat, Int.reduceNatCast, reduceCtorEq, eq_self]
    refine KCall.ok (dL_does l _ _ (dbytes_does l hok false _ (by omega))) ?_
    simp (implicitDefEqProofs := false) only [↓reduceIte, go_sem, oread, owrite, Nat.reduceAdd, Nat.reduceSub, Nat.reduceMul, Nat.reduceLT, Nat.reduceLeDiff, Nat.reduceEqDiff, Nat.reduceBEq, Int.reduceLE, Int.reduceLT, Int.reduceEq, Int.reduceNe, Int.reduceAdd, Int.reduceSub, Int.reduceMul, Int.reduceNeg, Int.reduceToNat, Int.reduceNatCast, reduceCtorEq, eq_self]
    refine KCall.ok (dL_does l _ _ (rdbytes_does l hok false _ (by omega))) ?_
    simp (implicitDefEqProofs := false) only [↓reduceIte, go_sem, oread, owrite, Nat.reduceAdd, Nat.reduceSub, Nat.reduceMul, Nat.reduceLT, Nat.reduceLeDiff, Nat.reduceEqDiff, Nat.reduceBEq, Int.reduceLE, Int.reduceLT, Int.reduceEq, Int.reduceNe, Int.reduceAdd, Int.reduceSub, Int.reduceMul, Int.reduceNeg, Int.reduceToNat, Int.reduceNatCast, reduceCtorEq, eq_self]
    refine KCall.ok (ofL_does b n false hbl hb _) ?_
    simp (implicitDefEqProofs := false) only [↓reduceIte, go_sem, oread, owrite, Nat.reduceAdd, Nat.reduceSub, Nat.reduceMul, Nat.reduceLT, Nat.reduceLeDiff, Nat.reduceEqDiff, Nat.reduceBEq, Int.reduceLE, Int.reduceLT, Int.reduceEq, Int.reduceNe, Int.reduceAdd, Int.reduceSub, Int.reduceMul, Int.reduceNeg, Int.reduceToNat, Int.reduceNatCast, reduceCtorEq, eq_self]
    refine KCall.ok (rofL_does b n false hbl hb _) ?_
    have hv := valsK_len b n hb
    generalize valsK b n = V at *
    generalize (ofR b n).2 = e at *
    generalize plainP l 1 = p at *
    generalize hD : dL l = D at *
    have v3 : ((pushAll (D.map fun (n : Nat) => (n : Int))).toList == (pushAll (D.map fun (n : Nat) => (n : Int))).toList) = true := by simp
    have hsl := stepsP_len l
    simp (implicitDefEqProofs := false) only [↓reduceIte, go_sem, oread, owrite, Nat.reduceAdd, Nat.reduceSub, Nat.reduceMul, Nat.reduceLT, Nat.reduceLeDiff, Nat.reduceEqDiff, Nat.reduceBEq, Int.reduceLE, Int.reduceLT, Int.reduceEq, Int.reduceNe, Int.reduceAdd, Int.reduceSub, Int.reduceMul, Int.reduceNeg, Int.reduceToNat, Int.reduceNatCast, reduceCtorEq, eq_self]
    refine KCall.ok (steps_does l false _ (by omega)) ?_
    simp (implicitDefEqProofs := false) only [↓reduceIte, go_sem, oread, owrite, Nat.reduceAdd, Nat.reduceSub, Nat.reduceMul, Nat.reduceLT, Nat.reduceLeDiff, Nat.reduceEqDiff, Nat.reduceBEq, Int.reduceLE, Int.reduceLT, Int.reduceEq, Int.reduceNe, Int.reduceAdd, Int.reduceSub, Int.reduceMul, Int.reduceNeg, Int.reduceToNat, Int.reduceNatCast, reduceCtorEq, eq_self]
    refine KCall.ok (rsteps_does l false _ (by omega)) ?_
    simp (implicitDefEqProofs := false) only [↓reduceIte, go_sem, oread, owrite, Nat.reduceAdd, Nat.reduceSub, Nat.reduceMul, Nat.reduceLT, Nat.reduceLeDiff, Nat.reduceEqDiff, Nat.reduceBEq, Int.reduceLE, Int.reduceLT, Int.reduceEq, Int.reduceNe, Int.reduceAdd, Int.reduceSub, Int.reduceMul, Int.reduceNeg, Int.reduceToNat, Int.reduceNatCast, reduceCtorEq, eq_self]
    refine KCall.ok (same01_does (stepsP l) (stepsP l) false false _ (by omega)) ?_
    simp (implicitDefEqProofs := false) only [↓reduceIte, go_sem, oread, owrite, Nat.reduceAdd, Nat.reduceSub, Nat.reduceMul, Nat.reduceLT, Nat.reduceLeDiff, Nat.reduceEqDiff, Nat.reduceBEq, Int.reduceLE, Int.reduceLT, Int.reduceEq, Int.reduceNe, Int.reduceAdd, Int.reduceSub, Int.reduceMul, Int.reduceNeg, Int.reduceToNat, Int.reduceNatCast, reduceCtorEq, eq_self, decide_true]
    refine KCall.ok (sorted_does l false _ (by omega)) ?_
    simp (implicitDefEqProofs := false) only [↓reduceIte, go_sem, oread, owrite, Nat.reduceAdd, Nat.reduceSub, Nat.reduceMul, Nat.reduceLT, Nat.reduceLeDiff, Nat.reduceEqDiff, Nat.reduceBEq, Int.reduceLE, Int.reduceLT, Int.reduceEq, Int.reduceNe, Int.reduceAdd, Int.reduceSub, Int.reduceMul, Int.reduceNeg, Int.reduceToNat, Int.reduceNatCast, reduceCtorEq, eq_self]
    refine KCall.ok (rsorted_does l false _ (by omega) hs) ?_
    generalize sortedP l = b0
    simp (implicitDefEqProofs := false) only [↓reduceIte, go_sem, oread, owrite, Nat.reduceAdd, Nat.reduceSub, Nat.reduceMul, Nat.reduceLT, Nat.reduceLeDiff, Nat.reduceEqDiff, Nat.reduceBEq, Int.reduceLE, Int.reduceLT, Int.reduceEq, Int.reduceNe, Int.reduceAdd, Int.reduceSub, Int.reduceMul, Int.reduceNeg, Int.reduceToNat, Int.reduceNatCast, reduceCtorEq, eq_self, beq_self_eq_true, asBytes_bys, v3]
    refine KCall.ok (same05_does V V false false _ hv) ?_
    simp (implicitDefEqProofs := false) only [↓reduceIte, go_sem, oread, owrite, Nat.reduceAdd, Nat.reduceSub, Nat.reduceMul, Nat.reduceLT, Nat.reduceLeDiff, Nat.reduceEqDiff, Nat.reduceBEq, Int.reduceLE, Int.reduceLT, Int.reduceEq, Int.reduceNe, Int.reduceAdd, Int.reduceSub, Int.reduceMul, Int.reduceNeg, Int.reduceToNat, Int.reduceNatCast, reduceCtorEq, eq_self, decide_true]
    refine AEnd.ret0 ?_
    simp (implicitDefEqProofs := false) only [↓reduceIte, go_sem, oread, owrite, Nat.reduceAdd, Nat.reduceSub, Nat.reduceMul, Nat.reduceLT, Nat.reduceLeDiff, Nat.reduceEqDiff, Nat.reduceBEq, Int.reduceLE, Int.reduceLT, Int.reduceEq, Int.reduceNe, Int.reduceAdd, Int.reduceSub, Int.reduceMul, Int.reduceNeg, Int.reduceToNat, Int.reduceNatCast, reduceCtorEq, eq_self, decide_true]
theorem argVals10 {x : AV} (h : ArgOk Try.prog 24 x) : ∃ l : List Val, x = .d (.list false (l.map Val.enc)) ∧ l.length ≤ 1000000000000000 ∧ ∀ a ∈ l, a.Ok := by
  obtain ⟨d, rfl, hf⟩ := arg_one h K.agB24 (sh := .slice 32 shVal) (by kernel_rfl)
  obtain ⟨l, rfl, hl, hn⟩ := vals_inv hf
  exact ⟨l, rfl, by omega, hn⟩
theorem deltaBytes_does (x0 : AV) (h0 : ArgOk Try.prog 24 x0) (x1 : AV) (h1 : ArgOk Try.prog 27 x1) (x2 : AV) (h2 : ArgOk Try.prog 3 x2) : Does Try.prog 5 [x0, x1, x2] [] (.ok (.d (.v (.bool true)))) [] := by
  obtain ⟨l, rfl, hl, hi⟩ := argVals10 h0
  obtain ⟨b, rfl, hbl, hb⟩ := argBytes h1
  obtain ⟨n, rfl, hn⟩ := argIntB h2
  exact deltaBytes_walk l b n hl (fun v hv => (hi v hv).s) (fun v hv => (hi v hv).i) hbl hb []
end Go.Proofs.Ytcdnbefcccdaeaa
namespace Go.Proofs.Ytcdnbefcccdaeaa.deltaBytes
open Go.ChangeShapes Go.WideShapes Go.ChangeAt Go.RowKit Go.Proofs.YtcdnbefcccdaeaaAw
set_option linter.unusedVariables false
theorem own : ownKnob Try.prog.godebug = none := by kernel_rfl
theorem laid : laidOutB Try.prog = true := by kernel_rfl
set_option maxRecDepth 100000 in
theorem lifted (os : Os) (started : os.Started) (H : Type) (enc : TypeId × Value → H) :
    ReturnsInHanded {} Try.checked os 5 .any (Rows.deltaBytesSpec.pre6 enc Try.prog Try.f5 Rows.deltaBytesRow.domain false) (Rows.deltaBytesSpec.post enc Try.prog Try.f5 false true false false) := by
  refine returnsInHanded_of_change_sized (C := Try.checked) own started (by kernel_rfl) Try.func5
    (ChangeSpec.witness6 (enc := enc) (C := Try.checked) false ⟨#[], #[(.slice none 0 0 : Value), (.slice none 0 0 : Value), (.int .i64 0 : Value)], []⟩ 8 (by kernel_rfl) (by kernel_rfl) (by kernel_rfl) (by kernel_rfl)) ?_
  intro W base args ds gs before hval0 hW hcnd hsz0 _
  have hval : ∀ (j : Nat) t v, Try.f5.params[j]? = some t → args[j]? = some v → Value.okWide Try.prog W .any 0 t v := hval0
  have hW' := hW
  obtain ⟨p, q, hA0, hV, rfl, hfz, hnd⟩ := hW
  have hA : DataW.TrodAll enc Try.prog W 0 (fun _ => true) true Try.f5.params.toList args.toList ds p := hA0
  rw [Try.params5] at hA hval hsz0
  obtain ⟨v0, vs0, d0, ds0, p0, q0, hargs, rfl, rfl, h0, r0⟩ := trodAll_cons hA
  obtain ⟨v1, vs1, d1, ds1, p1, q1, rfl, rfl, rfl, h1, r1⟩ := trodAll_cons r0
  obtain ⟨v2, vs2, d2, ds2, p2, q2, rfl, rfl, rfl, h2, r2⟩ := trodAll_cons r1
  obtain ⟨rfl, rfl, rfl⟩ := trodAll_nil r2
  obtain rfl : args = #[v0, v1, v2] := by cases args; simp_all
  obtain ⟨rfl, rfl⟩ := trodVars_none hV
  rw [List.all_eq_true] at hsz0
  obtain ⟨x0, ok0, ra0⟩ := arg_in' (P := Try.prog) (t := 24) (by kernel_rfl) (by kernel_rfl) (hval 0 24 v0 rfl rfl) h0 (fun m hm => by have := hsz0 m (DataW.weights_mem_each (j := 0) (t := 24) (d := d0) rfl rfl m hm); simpa using this)
  have hlt0 : ∀ x ∈ p0, x.block < W.heap.size := fun x hx => by have := hW'.lt x (by simp [hx]); simpa using this
  obtain ⟨x1, ok1, ra1⟩ := arg_in' (P := Try.prog) (t := 27) (by kernel_rfl) (by kernel_rfl) (hval 1 27 v1 rfl rfl) h1 (fun m hm => by have := hsz0 m (DataW.weights_mem_each (j := 1) (t := 27) (d := d1) rfl rfl m hm); simpa using this)
  have hlt1 : ∀ x ∈ p1, x.block < W.heap.size := fun x hx => by have := hW'.lt x (by simp [hx]); simpa using this
  obtain ⟨x2, ok2, ra2⟩ := arg_in' (P := Try.prog) (t := 3) (by kernel_rfl) (by kernel_rfl) (hval 2 3 v2 rfl rfl) h2 (fun m hm => by have := hsz0 m (DataW.weights_mem_each (j := 2) (t := 3) (d := d2) rfl rfl m hm); simpa using this)
  have hlt2 : ∀ x ∈ p2, x.block < W.heap.size := fun x hx => by have := hW'.lt x (by simp [hx]); simpa using this
  clear hA0 hval0 hsz0
  refine ((deltaBytes_does x0 ok0 x1 ok1 x2 ok2).walk (fn := Try.f5) Try.func5 (by kernel_rfl) rfl (Live W) W #[v0, v1, v2] (fun _ h => h) (RAL.cons ra0 (RAL.cons ra1 (RAL.cons ra2 RAL.nil))).ras).mono fun e W' ⟨he, bel⟩ => ?_
  subst he
  exact ⟨_, rfl, _, _, _, [], _, [], hW', trodAll_mk1 (shut_bool Try.underlying4 _), (trodAll_cons_mk (Below.trod laid (by kernel_rfl) (of_decide_eq_true (by kernel_rfl)) h0 bel hlt0) (trodAll_cons_mk (Below.trod laid (by kernel_rfl) (of_decide_eq_true (by kernel_rfl)) h1 bel hlt1) (trodAll_cons_mk (Below.trod laid (by kernel_rfl) (of_decide_eq_true (by kernel_rfl)) h2 bel hlt2) trodAll_mk0))), rfl, bel.frame _, fun h => by cases h⟩
theorem over : Rows.deltaBytesRow.holds Try.pinned (OpenSpec.ofChange Rows.deltaBytesSpec) :=
  OpenClaim.holds_of_wide 5 Try.f5 rfl rfl rfl rfl rfl rfl rfl ⟨rfl, rfl, rfl, rfl, rfl⟩ rfl rfl rfl rfl rfl (by kernel_rfl) Try.func5 (by kernel_rfl)
    (of_decide_eq_true (by kernel_rfl)) (by unfold Func.isWrapper; first | (rw [if_pos (by decide +kernel)]; kernel_rfl) | (rw [if_neg (by decide +kernel)]; exact ⟨rfl, rfl⟩))
    (fun os started H enc _ => lifted os started H enc)
theorem proved : Rows.DeltaBytesSaid := over
#print axioms proved
end Go.Proofs.Ytcdnbefcccdaeaa.deltaBytes
namespace Go.Proofs.Ytcdnbefcccdaeaa
/-- The row, under a short name, for the claim. -/
theorem deltaBytes_holds : Rows.DeltaBytesSaid := deltaBytes.proved
end Go.Proofs.Ytcdnbefcccdaeaa

/- The document's orders: what they are. -/
import Derived.Test.YtfjdggcemfebpaaPlan1
namespace Go.Proofs.Ytfjdggcemfebpaa
open Go.Proofs.YtfjdggcemfebpaaAw Go.RowKit
set_option linter.unusedVariables false
set_option linter.unusedSimpArgs false
def encO (o : List Int) : List D := [.list false (ints o)]
def bump (f : Int) (o : List Int) : List Int := o.map fun x => if f ≤ x then x + 1 else x
def ordersR : Nat → List (List Int)
  | 0 => [[]]
  | n + 1 => (upto (n + 1)).flatMap fun f => (ordersR n).map fun o => f :: bump f o
def ordersP (n : Nat) : List (List Int) := if 4 < n then [upto n] else ordersR n
def outK (S : List (List Int)) (k : Nat) : List (List Int) := (upto k).flatMap fun f => S.map fun o => f :: bump f o
theorem outK_succ (S : List (List Int)) (k : Nat) : outK S (k + 1) = outK S k ++ S.map fun o => (k : Int) :: bump k o := by simp [outK, upto_snoc, List.flatMap_append]
theorem outK_len (S : List (List Int)) : ∀ k, (outK S k).length = k * S.length
  | 0 => by simp [outK, upto]
  | k + 1 => by rw [outK_succ, List.length_append, outK_len S k, List.length_map, Nat.succ_mul]
theorem ordersR_small : ∀ n, n ≤ 4 → (ordersR n).length ≤ 24 ∧ ∀ o ∈ ordersR n, o.length = n ∧ ∀ x ∈ o, 0 ≤ x ∧ x < 4 := by decide
set_option maxRecDepth 10000 in
set_option maxHeartbeats 2000000 in
theorem orders22_step (n : Nat) (hn : n ≤ 3) (nn : Bool) (H : AHeap) (sub : Does Try.prog 9 [iA n] H (.ok (.d (.list nn ((ordersR n).map encO)))) H) :
    Does Try.prog 9 [iA (n + 1 : Nat)] H (.ok (.d (.list false ((ordersR (n + 1)).map encO)))) H := by
  obtain ⟨hS, hSo⟩ := ordersR_small n (by omega)
  have hR : ordersR (n + 1) = outK (ordersR n) (n + 1) := rfl
  rw [hR]
  generalize ordersR n = S at *
  have hw0 : IntKind.i64.wrap (((n + 1 : Nat) : Int) - 1) = (n : Int) := by rw [wrap64_in _ (by omega) (by omega)]; omega
  have c1 : (((n + 1 : Nat) : Int) < 0) = False := eq_false (by omega)
  have c2 : ((4 : Int) < ((n + 1 : Nat) : Int)) = False := eq_false (by omega)
  have c3 : (((n + 1 : Nat) : Int) = 0) = False := eq_false (by omega)
  generalize hm : n + 1 = m at *
  refine Does.of_awp (hint := (fun t => t == 36 || t == 1000021)) Try.func9 (by kernel_rfl) rfl [2] (by kernel_rfl) (by decide) (by simp [Try.ntmps9]) ?_
  rw [Try.ntmps9]
  simp (implicitDefEqProofs := false) only [↓reduceIte, go_sem, oread, owrite, Nat.reduceAdd, Nat.reduceSub, Nat.reduceMul, Nat.reduceLT, Nat.reduceLeDiff, Nat.reduceEqDiff, Nat.reduceBEq, Int.reduceLE, Int.reduceLT, Int.reduceEq, Int.reduceNe, Int.reduceAdd, Int.reduceSub, Int.reduceMul, Int.reduceNeg, Int.reduceToNat, Int.reduceNatCast, reduceCtorEq, eq_self, c1, c2, c3, hw0]
  refine KCall.ok sub ?_
  simp (implicitDefEqProofs := false) only [↓reduceIte, go_sem, oread, owrite, Nat.reduceAdd, Nat.reduceSub, Nat.reduceMul, Nat.reduceLT, Nat.reduceLeDiff, Nat.reduceEqDiff, Nat.reduceBEq, Int.reduceLE, Int.reduceLT, Int.reduceEq, Int.reduceNe, Int.reduceAdd, Int.reduceSub, Int.reduceMul, Int.reduceNeg, Int.reduceToNat, Int.reduceNatCast, reduceCtorEq, eq_self]
  refine awp_for3 (fun k s H' => ∃ ver, H' = H ++ [.arr 27 1 ver ((outK S k).map encO)] ∧ s 0 = iA m ∧ s 3 = .d (.list nn (S.map encO)) ∧ s 4 = .sl H.length ver 0 (outK S k).length ∧ s 5 = iA k) m (by omega) (Weak.virt1 _ _ 4 27 1 (by decide) (by simp (implicitDefEqProofs := false) only [↓reduceIte, go_sem, oread, owrite, Nat.reduceAdd, Nat.reduceSub, Nat.reduceMul, Nat.reduceLT, Nat.reduceLeDiff, Nat.reduceEqDiff, Nat.reduceBEq, Int.reduceLE, Int.reduceLT, Int.reduceEq, Int.reduceNe, Int.reduceAdd, Int.reduceSub, Int.reduceMul, Int.reduceNeg, Int.reduceToNat, Int.reduceNatCast, reduceCtorEq, eq_self]) _) ?_ ?_ ?_
  · refine ⟨0, ?_⟩
    simp (implicitDefEqProofs := false) only [↓reduceIte, go_sem, oread, owrite, Nat.reduceAdd, Nat.reduceSub, Nat.reduceMul, Nat.reduceLT, Nat.reduceLeDiff, Nat.reduceEqDiff, Nat.reduceBEq, Int.reduceLE, Int.reduceLT, Int.reduceEq, Int.reduceNe, Int.reduceAdd, Int.reduceSub, Int.reduceMul, Int.reduceNeg, Int.reduceToNat, Int.reduceNatCast, reduceCtorEq, eq_self, show outK S 0 = [] from rfl]
  · rintro k s H' hk hw ⟨ver, rfl, t0, t3, t4, t5⟩
    simp (implicitDefEqProofs := false) only [↓reduceIte, go_sem, oread, owrite, Nat.reduceAdd, Nat.reduceSub, Nat.reduceMul, Nat.reduceLT, Nat.reduceLeDiff, Nat.reduceEqDiff, Nat.reduceBEq, Int.reduceLE, Int.reduceLT, Int.reduceEq, Int.reduceNe, Int.reduceAdd, Int.reduceSub, Int.reduceMul, Int.reduceNeg, Int.reduceToNat, Int.reduceNatCast, reduceCtorEq, eq_self, t0, t3, t4, t5, hk]
    refine awp_for3 (fun j s H' => ∃ ver, H' = H ++ [.arr 27 1 ver ((outK S k ++ (S.take j).map fun o => (k : Int) :: bump k o).map encO)] ∧ s 0 = iA m ∧ s 3 = .d (.list nn (S.map encO)) ∧ s 4 = .sl H.length ver 0 ((outK S k).length + j) ∧ s 5 = iA k ∧ s 6 = iA j) S.length (by omega) (Weak.refl _ _) ?_ ?_ ?_
    · refine ⟨ver, ?_⟩
      simp (implicitDefEqProofs := false) only [↓reduceIte, go_sem, oread, owrite, Nat.reduceAdd, Nat.reduceSub, Nat.reduceMul, Nat.reduceLT, Nat.reduceLeDiff, Nat.reduceEqDiff, Nat.reduceBEq, Int.reduceLE, Int.reduceLT, Int.reduceEq, Int.reduceNe, Int.reduceAdd, Int.reduceSub, Int.reduceMul, Int.reduceNeg, Int.reduceToNat, Int.reduceNatCast, reduceCtorEq, eq_self, t0, t3, t4, t5, List.append_nil]
    · rintro j s H' hj hwj ⟨ver, rfl, t0, t3, t4, t5, t6⟩
      have hx := List.getElem?_eq_getElem hj
      have hsn := List.take_succ_eq_append_getElem hj
      have ho := (hSo S[j] (List.getElem_mem hj)).2
      have hol := (hSo S[j] (List.getElem_mem hj)).1
      generalize S[j] = o at hx hsn ho hol
      generalize hO : outK S k ++ (S.take j).map (fun o => (k : Int) :: bump k o) = O
      simp (implicitDefEqProofs := false) only [↓reduceIte, go_sem, oread, owrite, Nat.reduceAdd, Nat.reduceSub, Nat.reduceMul, Nat.reduceLT, Nat.reduceLeDiff, Nat.reduceEqDiff, Nat.reduceBEq, Int.reduceLE, Int.reduceLT, Int.reduceEq, Int.reduceNe, Int.reduceAdd, Int.reduceSub, Int.reduceMul, Int.reduceNeg, Int.reduceToNat, Int.reduceNatCast, reduceCtorEq, eq_self, t0, t3, t4, t5, t6, hj]
      refine awp_for3 (fun i s H' => ∃ v2, H' = H ++ [.arr 27 1 ver (O.map encO), .arr 3 1 v2 (ints ((k : Int) :: bump k (o.take i)))] ∧ s 0 = iA m ∧ s 3 = .d (.list nn (S.map encO)) ∧ s 4 = .sl H.length ver 0 ((outK S k).length + j) ∧ s 5 = iA k ∧ s 6 = iA j ∧ s 7 = .sl (H.length + 1) v2 0 (i + 1) ∧ s 8 = iA i) o.length (by omega) (Weak.refl _ _) ?_ ?_ ?_
      · refine ⟨0, ?_⟩
        simp (implicitDefEqProofs := false) only [↓reduceIte, go_sem, oread, owrite, Nat.reduceAdd, Nat.reduceSub, Nat.reduceMul, Nat.reduceLT, Nat.reduceLeDiff, Nat.reduceEqDiff, Nat.reduceBEq, Int.reduceLE, Int.reduceLT, Int.reduceEq, Int.reduceNe, Int.reduceAdd, Int.reduceSub, Int.reduceMul, Int.reduceNeg, Int.reduceToNat, Int.reduceNatCast, reduceCtorEq, eq_self, t0, t3, t4, t5, t6, show bump k [] = [] from rfl, ints]
      · rintro i s H' hi hwi ⟨v2, rfl, t0, t3, t4, t5, t6, t7, t8⟩
        have hy := ints_get o i hi
        have hb := ho o[i] (List.getElem_mem hi)
        have hs2 : bump k (o.take (i + 1)) = bump k (o.take i) ++ [if (k : Int) ≤ o[i] then o[i] + 1 else o[i]] := by
          rw [List.take_succ_eq_append_getElem hi]; simp only [bump, List.map_append, List.map_cons, List.map_nil]
        have hl2 : (ints ((k : Int) :: bump k (o.take i))).length = i + 1 := by
          rw [ints_len]; simp [bump]; omega
        generalize o[i] = x at hy hb hs2
        simp (implicitDefEqProofs := false) only [↓reduceIte, go_sem, oread, owrite, Nat.reduceAdd, Nat.reduceSub, Nat.reduceMul, Nat.reduceLT, Nat.reduceLeDiff, Nat.reduceEqDiff, Nat.reduceBEq, Int.reduceLE, Int.reduceLT, Int.reduceEq, Int.reduceNe, Int.reduceAdd, Int.reduceSub, Int.reduceMul, Int.reduceNeg, Int.reduceToNat, Int.reduceNatCast, reduceCtorEq, eq_self, t3, t6, t8, hx, encO, ints_len, hi, hy]
        by_cases hxk : (k : Int) ≤ x
        · rw [if_pos hxk] at hs2
          simp (implicitDefEqProofs := false) only [↓reduceIte, go_sem, oread, owrite, Nat.reduceAdd, Nat.reduceSub, Nat.reduceMul, Nat.reduceLT, Nat.reduceLeDiff, Nat.reduceEqDiff, Nat.reduceBEq, Int.reduceLE, Int.reduceLT, Int.reduceEq, Int.reduceNe, Int.reduceAdd, Int.reduceSub, Int.reduceMul, Int.reduceNeg, Int.reduceToNat, Int.reduceNatCast, reduceCtorEq, eq_self, t5, hxk, wrap64_in (x + 1) (by omega) (by omega), t7, hl2, t8]
          refine ⟨by omega, by omega, Rnd.same ⟨v2 + 1, ?_⟩⟩
          simp (implicitDefEqProofs := false) only [↓reduceIte, go_sem, oread, owrite, Nat.reduceAdd, Nat.reduceSub, Nat.reduceMul, Nat.reduceLT, Nat.reduceLeDiff, Nat.reduceEqDiff, Nat.reduceBEq, Int.reduceLE, Int.reduceLT, Int.reduceEq, Int.reduceNe, Int.reduceAdd, Int.reduceSub, Int.reduceMul, Int.reduceNeg, Int.reduceToNat, Int.reduceNatCast, reduceCtorEq, eq_self, t0, t3, t4, t5, t6, hwi, hs2, ints_snoc, List.cons_append]
        · rw [if_neg hxk] at hs2
          simp (implicitDefEqProofs := false) only [↓reduceIte, go_sem, oread, owrite, Nat.reduceAdd, Nat.reduceSub, Nat.reduceMul, Nat.reduceLT, Nat.reduceLeDiff, Nat.reduceEqDiff, Nat.reduceBEq, Int.reduceLE, Int.reduceLT, Int.reduceEq, Int.reduceNe, Int.reduceAdd, Int.reduceSub, Int.reduceMul, Int.reduceNeg, Int.reduceToNat, Int.reduceNatCast, reduceCtorEq, eq_self, t5, hxk, t7, hl2, t8]
          refine ⟨by omega, by omega, Rnd.same ⟨v2 + 1, ?_⟩⟩
          simp (implicitDefEqProofs := false) only [↓reduceIte, go_sem, oread, owrite, Nat.reduceAdd, Nat.reduceSub, Nat.reduceMul, Nat.reduceLT, Nat.reduceLeDiff, Nat.reduceEqDiff, Nat.reduceBEq, Int.reduceLE, Int.reduceLT, Int.reduceEq, Int.reduceNe, Int.reduceAdd, Int.reduceSub, Int.reduceMul, Int.reduceNeg, Int.reduceToNat, Int.reduceNatCast, reduceCtorEq, eq_self, t0, t3, t4, t5, t6, hwi, hs2, ints_snoc, List.cons_append]
      · rintro s H' ⟨v2, rfl, t0, t3, t4, t5, t6, t7, t8⟩
        simp (implicitDefEqProofs := false) only [↓reduceIte, go_sem, oread, owrite, Nat.reduceAdd, Nat.reduceSub, Nat.reduceMul, Nat.reduceLT, Nat.reduceLeDiff, Nat.reduceEqDiff, Nat.reduceBEq, Int.reduceLE, Int.reduceLT, Int.reduceEq, Int.reduceNe, Int.reduceAdd, Int.reduceSub, Int.reduceMul, Int.reduceNeg, Int.reduceToNat, Int.reduceNatCast, reduceCtorEq, eq_self, t3, t6, t8, hx, encO, ints_len]
        refine ⟨_, _, Weak.cut [.arr 27 1 ver (O.map encO)] [.arr 3 1 v2 (ints ((k : Int) :: bump k (o.take o.length)))] 1 rfl _ (by simp (implicitDefEqProofs := false) only [↓reduceIte, go_sem, oread, owrite, Nat.reduceAdd, Nat.reduceSub, Nat.reduceMul, Nat.reduceLT, Nat.reduceLeDiff, Nat.reduceEqDiff, Nat.reduceBEq, Int.reduceLE, Int.reduceLT, Int.reduceEq, Int.reduceNe, Int.reduceAdd, Int.reduceSub, Int.reduceMul, Int.reduceNeg, Int.reduceToNat, Int.reduceNatCast, reduceCtorEq, eq_self]), ?_⟩
        have hlO : (O.map encO).length = (outK S k).length + j := by rw [← hO]; simp; omega
        have hl3 : (ints ((k : Int) :: bump k o)).length = o.length + 1 := by rw [ints_len]; simp [bump]
        have hlk := outK_len S k
        have hkS : k * S.length ≤ 4 * 24 := Nat.mul_le_mul (by omega) hS
        rw [← hlk] at hkS
        have hOn : (outK S k ++ (S.take (j + 1)).map fun o => (k : Int) :: bump k o).map encO = O.map encO ++ [[D.list false (ints ((k : Int) :: bump k o))]] := by
          rw [← hO, hsn, List.map_append (l₁ := S.take j), ← List.append_assoc, List.map_append (f := encO)]; rfl
        simp (implicitDefEqProofs := false) only [↓reduceIte, go_sem, oread, owrite, Nat.reduceAdd, Nat.reduceSub, Nat.reduceMul, Nat.reduceLT, Nat.reduceLeDiff, Nat.reduceEqDiff, Nat.reduceBEq, Int.reduceLE, Int.reduceLT, Int.reduceEq, Int.reduceNe, Int.reduceAdd, Int.reduceSub, Int.reduceMul, Int.reduceNeg, Int.reduceToNat, Int.reduceNatCast, reduceCtorEq, eq_self, t4, t6, t7, List.take_length, take_len, hl3, hlO]
        refine ⟨by omega, by omega, Rnd.same ⟨ver + 1, ?_⟩⟩
        simp (implicitDefEqProofs := false) only [↓reduceIte, go_sem, oread, owrite, Nat.reduceAdd, Nat.reduceSub, Nat.reduceMul, Nat.reduceLT, Nat.reduceLeDiff, Nat.reduceEqDiff, Nat.reduceBEq, Int.reduceLE, Int.reduceLT, Int.reduceEq, Int.reduceNe, Int.reduceAdd, Int.reduceSub, Int.reduceMul, Int.reduceNeg, Int.reduceToNat, Int.reduceNatCast, reduceCtorEq, eq_self, t0, t3, t5, hwj, hOn, Nat.add_assoc]
    · rintro s H' ⟨ver, rfl, t0, t3, t4, t5, t6⟩
      simp (implicitDefEqProofs := false) only [↓reduceIte, go_sem, oread, owrite, Nat.reduceAdd, Nat.reduceSub, Nat.reduceMul, Nat.reduceLT, Nat.reduceLeDiff, Nat.reduceEqDiff, Nat.reduceBEq, Int.reduceLE, Int.reduceLT, Int.reduceEq, Int.reduceNe, Int.reduceAdd, Int.reduceSub, Int.reduceMul, Int.reduceNeg, Int.reduceToNat, Int.reduceNatCast, reduceCtorEq, eq_self, t3, t5, t6]
      refine Rnd.same ⟨ver, ?_⟩
      simp (implicitDefEqProofs := false) only [↓reduceIte, go_sem, oread, owrite, Nat.reduceAdd, Nat.reduceSub, Nat.reduceMul, Nat.reduceLT, Nat.reduceLeDiff, Nat.reduceEqDiff, Nat.reduceBEq, Int.reduceLE, Int.reduceLT, Int.reduceEq, Int.reduceNe, Int.reduceAdd, Int.reduceSub, Int.reduceMul, Int.reduceNeg, Int.reduceToNat, Int.reduceNatCast, reduceCtorEq, eq_self, t0, t3, t4, hw, outK_succ, List.take_length, List.length_append]
  · rintro s H' ⟨ver, rfl, t0, t3, t4, t5⟩
    simp (implicitDefEqProofs := false) only [↓reduceIte, go_sem, oread, owrite, Nat.reduceAdd, Nat.reduceSub, Nat.reduceMul, Nat.reduceLT, Nat.reduceLeDiff, Nat.reduceEqDiff, Nat.reduceBEq, Int.reduceLE, Int.reduceLT, Int.reduceEq, Int.reduceNe, Int.reduceAdd, Int.reduceSub, Int.reduceMul, Int.reduceNeg, Int.reduceToNat, Int.reduceNatCast, reduceCtorEq, eq_self, t0, t4, t5]
    refine AEnd.ret ?_
    simp (implicitDefEqProofs := false) only [↓reduceIte, go_sem, oread, owrite, Nat.reduceAdd, Nat.reduceSub, Nat.reduceMul, Nat.reduceLT, Nat.reduceLeDiff, Nat.reduceEqDiff, Nat.reduceBEq, Int.reduceLE, Int.reduceLT, Int.reduceEq, Int.reduceNe, Int.reduceAdd, Int.reduceSub, Int.reduceMul, Int.reduceNeg, Int.reduceToNat, Int.reduceNatCast, reduceCtorEq, eq_self, take_len]
set_option maxRecDepth 10000 in
theorem orders22_neg (n : Int) (hn : n < 0) (H : AHeap) : Does Try.prog 9 [iA n] H (.ok (.d (.v (.slice none 0 0)))) H := by
  refine Does.of_awp (hint := (fun _ => false)) Try.func9 (by kernel_rfl) rfl [2] (by kernel_rfl) (by decide) (by simp [Try.ntmps9]) ?_
  rw [Try.ntmps9]
  simp (implicitDefEqProofs := false) only [↓reduceIte, go_sem, oread, owrite, Nat.reduceAdd, Nat.reduceSub, Nat.reduceMul, Nat.reduceLT, Nat.reduceLeDiff, Nat.reduceEqDiff, Nat.reduceBEq, Int.reduceLE, Int.reduceLT, Int.reduceEq, Int.reduceNe, Int.reduceAdd, Int.reduceSub, Int.reduceMul, Int.reduceNeg, Int.reduceToNat, Int.reduceNatCast, reduceCtorEq, eq_self, hn]
  refine AEnd.ret0 ?_
  simp (implicitDefEqProofs := false) only [↓reduceIte, go_sem, oread, owrite, Nat.reduceAdd, Nat.reduceSub, Nat.reduceMul, Nat.reduceLT, Nat.reduceLeDiff, Nat.reduceEqDiff, Nat.reduceBEq, Int.reduceLE, Int.reduceLT, Int.reduceEq, Int.reduceNe, Int.reduceAdd, Int.reduceSub, Int.reduceMul, Int.reduceNeg, Int.reduceToNat, Int.reduceNatCast, reduceCtorEq, eq_self]
set_option maxRecDepth 10000 in
theorem orders22_one (n : Nat) (hn : n = 0 ∨ 4 < n) (hm : n ≤ 1000) (H : AHeap) : Does Try.prog 9 [iA n] H (.ok (.d (.list true ([upto n].map encO)))) H := by
  have c1 : ((n : Int) < 0) = False := eq_false (by omega)
  refine Does.of_awp (hint := (fun _ => false)) Try.func9 (by kernel_rfl) rfl [2] (by kernel_rfl) (by decide) (by simp [Try.ntmps9]) ?_
  rw [Try.ntmps9]
  rcases hn with h0 | h4
  · have c2 : ((4 : Int) < (n : Int)) = False := eq_false (by omega)
    have c3 : ((n : Int) = 0) = True := eq_true (by omega)
    simp (implicitDefEqProofs := false) only [↓reduceIte, go_sem, oread, owrite, Nat.reduceAdd, Nat.reduceSub, Nat.reduceMul, Nat.reduceLT, Nat.reduceLeDiff, Nat.reduceEqDiff, Nat.reduceBEq, Int.reduceLE, Int.reduceLT, Int.reduceEq, Int.reduceNe, Int.reduceAdd, Int.reduceSub, Int.reduceMul, Int.reduceNeg, Int.reduceToNat, Int.reduceNatCast, reduceCtorEq, eq_self, c1, c2, c3, show (4 < n) = False from eq_false (by omega), show (n = 0) = True from eq_true h0]
    refine KCall.ok (rising22_does n (by omega) _) ?_
    simp (implicitDefEqProofs := false) only [↓reduceIte, go_sem, oread, owrite, Nat.reduceAdd, Nat.reduceSub, Nat.reduceMul, Nat.reduceLT, Nat.reduceLeDiff, Nat.reduceEqDiff, Nat.reduceBEq, Int.reduceLE, Int.reduceLT, Int.reduceEq, Int.reduceNe, Int.reduceAdd, Int.reduceSub, Int.reduceMul, Int.reduceNeg, Int.reduceToNat, Int.reduceNatCast, reduceCtorEq, eq_self]
    refine AEnd.ret0 ?_
    simp (implicitDefEqProofs := false) only [↓reduceIte, go_sem, oread, owrite, Nat.reduceAdd, Nat.reduceSub, Nat.reduceMul, Nat.reduceLT, Nat.reduceLeDiff, Nat.reduceEqDiff, Nat.reduceBEq, Int.reduceLE, Int.reduceLT, Int.reduceEq, Int.reduceNe, Int.reduceAdd, Int.reduceSub, Int.reduceMul, Int.reduceNeg, Int.reduceToNat, Int.reduceNatCast, reduceCtorEq, eq_self, encO]
  · have c2 : ((4 : Int) < (n : Int)) = True := eq_true (by omega)
    simp (implicitDefEqProofs := false) only [↓reduceIte, go_sem, oread, owrite, Nat.reduceAdd, Nat.reduceSub, Nat.reduceMul, Nat.reduceLT, Nat.reduceLeDiff, Nat.reduceEqDiff, Nat.reduceBEq, Int.reduceLE, Int.reduceLT, Int.reduceEq, Int.reduceNe, Int.reduceAdd, Int.reduceSub, Int.reduceMul, Int.reduceNeg, Int.reduceToNat, Int.reduceNatCast, reduceCtorEq, eq_self, c1, c2, show (4 < n) = True from eq_true h4]
    refine KCall.ok (rising22_does n (by omega) _) ?_
    simp (implicitDefEqProofs := false) only [↓reduceIte, go_sem, oread, owrite, Nat.reduceAdd, Nat.reduceSub, Nat.reduceMul, Nat.reduceLT, Nat.reduceLeDiff, Nat.reduceEqDiff, Nat.reduceBEq, Int.reduceLE, Int.reduceLT, Int.reduceEq, Int.reduceNe, Int.reduceAdd, Int.reduceSub, Int.reduceMul, Int.reduceNeg, Int.reduceToNat, Int.reduceNatCast, reduceCtorEq, eq_self]
    refine AEnd.ret0 ?_
    simp (implicitDefEqProofs := false) only [↓reduceIte, go_sem, oread, owrite, Nat.reduceAdd, Nat.reduceSub, Nat.reduceMul, Nat.reduceLT, Nat.reduceLeDiff, Nat.reduceEqDiff, Nat.reduceBEq, Int.reduceLE, Int.reduceLT, Int.reduceEq, Int.reduceNe, Int.reduceAdd, Int.reduceSub, Int.reduceMul, Int.reduceNeg, Int.reduceToNat, Int.reduceNatCast, reduceCtorEq, eq_self, encO]
theorem orders22_does (n : Nat) (hm : n ≤ 1000) (H : AHeap) : ∃ nn, Does Try.prog 9 [iA n] H (.ok (.d (.list nn ((ordersP n).map encO)))) H := by
  by_cases h4 : 4 < n
  · exact ⟨true, by unfold ordersP; rw [if_pos h4]; exact orders22_one n (.inr h4) hm H⟩
  · unfold ordersP
    rw [if_neg h4]
    induction n with
    | zero => exact ⟨true, orders22_one 0 (.inl rfl) hm H⟩
    | succ n ih =>
      obtain ⟨nn, hd⟩ := ih (by omega) (by omega)
      exact ⟨false, orders22_step n (by omega) nn H hd⟩
end Go.Proofs.Ytfjdggcemfebpaa

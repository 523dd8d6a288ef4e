/- The law AmongSpans: what it does. -/
import Derived.Test.YtfmmemboakdeiaaSpanK
import Derived.Test.YtfmmemboakdeiaaSame19
namespace Go.Proofs.Ytfmmemboakdeiaa
open Go.Proofs.YtfmmemboakdeiaaAw Go.RowKit
set_option linter.unusedVariables false
set_option linter.unusedSimpArgs false
set_option maxRecDepth 10000 in
set_option maxHeartbeats 1000000 in
theorem amongSpans_walk (l : List Int) (n : Int) (hl : l.length ≤ 140737488355328) (hi : ∀ x ∈ l, I64 x) (hn : I64 n) (H : AHeap) :
    Does Try.prog 3 [.d (.list false (ints l)), .d (.v (.int .i64 n))] H (.ok (bA true)) H := by
  refine Does.of_awp (hint := (fun t => t == 1000011)) Try.func3 (by kernel_rfl) rfl [4] (by kernel_rfl) (by decide) (by simp [Try.ntmps3]) ?_
  rw [Try.ntmps3]
  simp (implicitDefEqProofs := false) only [↓reduceIte, go_sem, oread, owrite, Nat.reduceAdd, Nat.reduceSub, Nat.reduceMul, Nat.reduceLT, Nat.reduceLeDiff, Nat.reduceEqDiff, Nat.reduceBEq, Int.reduceLE, Int.reduceLT, Int.reduceEq, Int.reduceNe, Int.reduceAdd, Int.reduceSub, Int.reduceMul, Int.reduceNeg, Int.reduceToNat, Int.reduceNatCast, reduceCtorEq, eq_self]
  refine KCall.ok (shown19_does _) ?_
  by_cases h1 : 200 < l.length
  · simp (implicitDefEqProofs := false) only [↓reduceIte, go_sem, oread, owrite, Nat.reduceAdd, Nat.reduceSub, Nat.reduceMul, Nat.reduceLT, Nat.reduceLeDiff, Nat.reduceEqDiff, Nat.reduceBEq, Int.reduceLE, Int.reduceLT, Int.reduceEq, Int.reduceNe, Int.reduceAdd, Int.reduceSub, Int.reduceMul, Int.reduceNeg, Int.reduceToNat, Int.reduceNatCast, reduceCtorEq, eq_self, ints_len, show ((200 : Int) < (l.length : Int)) = True from eq_true (by omega)]
    refine AEnd.ret0 ?_
    simp (implicitDefEqProofs := false) only [↓reduceIte, go_sem, oread, owrite, Nat.reduceAdd, Nat.reduceSub, Nat.reduceMul, Nat.reduceLT, Nat.reduceLeDiff, Nat.reduceEqDiff, Nat.reduceBEq, Int.reduceLE, Int.reduceLT, Int.reduceEq, Int.reduceNe, Int.reduceAdd, Int.reduceSub, Int.reduceMul, Int.reduceNeg, Int.reduceToNat, Int.reduceNatCast, reduceCtorEq, eq_self]
  simp (implicitDefEqProofs := false) only [↓reduceIte, go_sem, oread, owrite, Nat.reduceAdd, Nat.reduceSub, Nat.reduceMul, Nat.reduceLT, Nat.reduceLeDiff, Nat.reduceEqDiff, Nat.reduceBEq, Int.reduceLE, Int.reduceLT, Int.reduceEq, Int.reduceNe, Int.reduceAdd, Int.reduceSub, Int.reduceMul, Int.reduceNeg, Int.reduceToNat, Int.reduceNatCast, reduceCtorEq, eq_self, ints_len, show ((200 : Int) < (l.length : Int)) = False from eq_false (by omega)]
  refine awp_for3 (fun k s H' => H' = H ++ [.arr 28 1 k (rowsT (oneR (l.take k)))] ∧ s 0 = .d (.list false (ints l)) ∧ s 1 = .d (.v (.int .i64 n)) ∧ s 5 = bA true ∧ s 6 = .sl H.length k 0 k ∧ s 7 = bA ((l.take k).any (fun x => decide (x = n))) ∧ s 8 = iA k) l.length (by omega) (Weak.virt1 _ _ 6 28 1 (by decide) (by simp (implicitDefEqProofs := false) only [↓reduceIte, go_sem, oread, owrite, Nat.reduceAdd, Nat.reduceSub, Nat.reduceMul, Nat.reduceLT, Nat.reduceLeDiff, Nat.reduceEqDiff, Nat.reduceBEq, Int.reduceLE, Int.reduceLT, Int.reduceEq, Int.reduceNe, Int.reduceAdd, Int.reduceSub, Int.reduceMul, Int.reduceNeg, Int.reduceToNat, Int.reduceNatCast, reduceCtorEq, eq_self]) _) ?_ ?_ ?_
  · refine ⟨rfl, ?_⟩
    simp (implicitDefEqProofs := false) only [↓reduceIte, go_sem, oread, owrite, Nat.reduceAdd, Nat.reduceSub, Nat.reduceMul, Nat.reduceLT, Nat.reduceLeDiff, Nat.reduceEqDiff, Nat.reduceBEq, Int.reduceLE, Int.reduceLT, Int.reduceEq, Int.reduceNe, Int.reduceAdd, Int.reduceSub, Int.reduceMul, Int.reduceNeg, Int.reduceToNat, Int.reduceNatCast, reduceCtorEq, eq_self, List.take_zero, List.any_nil]
  · rintro k s H' hk hw ⟨rfl, t0, t1, t5, t6, t7, t8⟩
    have hx := ints_get l k hk
    have e1 : oneR (l.take (k + 1)) = oneR (l.take k) ++ [[n19 l[k]]] := by unfold oneR; rw [List.take_succ_eq_append_getElem hk, List.map_append]; rfl
    have e2 : (l.take (k + 1)).any (fun x => decide (x = n)) = ((l.take k).any (fun x => decide (x = n)) || decide (l[k] = n)) := by rw [List.take_succ_eq_append_getElem hk, List.any_append]; simp
    have el : (oneR (l.take k)).length = k := by simp [oneR]; omega
    rw [e1, e2]
    generalize oneR (l.take k) = O at *
    generalize (l.take k).any (fun x => decide (x = n)) = b at *
    generalize l[k] = x at *
    have q := rowsT_snoc O [n19 x]
    simp only [List.map_cons, List.map_nil, Val.enc, n19, noS] at q
    simp (implicitDefEqProofs := false) only [↓reduceIte, go_sem, oread, owrite, Nat.reduceAdd, Nat.reduceSub, Nat.reduceMul, Nat.reduceLT, Nat.reduceLeDiff, Nat.reduceEqDiff, Nat.reduceBEq, Int.reduceLE, Int.reduceLT, Int.reduceEq, Int.reduceNe, Int.reduceAdd, Int.reduceSub, Int.reduceMul, Int.reduceNeg, Int.reduceToNat, Int.reduceNatCast, reduceCtorEq, eq_self, t0, t6, t8, hk, ints_len, hx]
    refine KCall.ok (num19_does x _) ?_
    simp (implicitDefEqProofs := false) only [↓reduceIte, go_sem, oread, owrite, Nat.reduceAdd, Nat.reduceSub, Nat.reduceMul, Nat.reduceLT, Nat.reduceLeDiff, Nat.reduceEqDiff, Nat.reduceBEq, Int.reduceLE, Int.reduceLT, Int.reduceEq, Int.reduceNe, Int.reduceAdd, Int.reduceSub, Int.reduceMul, Int.reduceNeg, Int.reduceToNat, Int.reduceNatCast, reduceCtorEq, eq_self, t6, rowsT_len, el, q]
    refine ⟨by omega, by omega, ?_⟩
    cases b
    · simp (implicitDefEqProofs := false) only [↓reduceIte, go_sem, oread, owrite, Nat.reduceAdd, Nat.reduceSub, Nat.reduceMul, Nat.reduceLT, Nat.reduceLeDiff, Nat.reduceEqDiff, Nat.reduceBEq, Int.reduceLE, Int.reduceLT, Int.reduceEq, Int.reduceNe, Int.reduceAdd, Int.reduceSub, Int.reduceMul, Int.reduceNeg, Int.reduceToNat, Int.reduceNatCast, reduceCtorEq, eq_self, t0, t1, t7, t8, ints_len, hx, hk]
      refine Rnd.same ⟨rfl, ?_⟩
      simp (implicitDefEqProofs := false) only [↓reduceIte, go_sem, oread, owrite, Nat.reduceAdd, Nat.reduceSub, Nat.reduceMul, Nat.reduceLT, Nat.reduceLeDiff, Nat.reduceEqDiff, Nat.reduceBEq, Int.reduceLE, Int.reduceLT, Int.reduceEq, Int.reduceNe, Int.reduceAdd, Int.reduceSub, Int.reduceMul, Int.reduceNeg, Int.reduceToNat, Int.reduceNatCast, reduceCtorEq, eq_self, t0, t1, t5, hw, Bool.false_or]
    · simp (implicitDefEqProofs := false) only [↓reduceIte, go_sem, oread, owrite, Nat.reduceAdd, Nat.reduceSub, Nat.reduceMul, Nat.reduceLT, Nat.reduceLeDiff, Nat.reduceEqDiff, Nat.reduceBEq, Int.reduceLE, Int.reduceLT, Int.reduceEq, Int.reduceNe, Int.reduceAdd, Int.reduceSub, Int.reduceMul, Int.reduceNeg, Int.reduceToNat, Int.reduceNatCast, reduceCtorEq, eq_self, t0, t1, t7, t8, ints_len, hx, hk]
      refine Rnd.same ⟨rfl, ?_⟩
      simp (implicitDefEqProofs := false) only [↓reduceIte, go_sem, oread, owrite, Nat.reduceAdd, Nat.reduceSub, Nat.reduceMul, Nat.reduceLT, Nat.reduceLeDiff, Nat.reduceEqDiff, Nat.reduceBEq, Int.reduceLE, Int.reduceLT, Int.reduceEq, Int.reduceNe, Int.reduceAdd, Int.reduceSub, Int.reduceMul, Int.reduceNeg, Int.reduceToNat, Int.reduceNatCast, reduceCtorEq, eq_self, t0, t1, t5, hw, Bool.true_or]
  · rintro s H' ⟨rfl, t0, t1, t5, t6, t7, t8⟩
    rw [show l.take l.length = l from List.take_length] at t7 ⊢
    obtain ⟨S, hS⟩ := spanL l hi
    have hol : (oneR l).length = l.length := by simp [oneR]
    have hkl : (keysP (oneR l) 0 []).length ≤ l.length := by rw [one_keys]; exact Nat.le_trans (wordsP_len _ _) (by simp)
    have hki : ∀ k ∈ keysP (oneR l) 0 [], I64 k.i := fun k hk => by rw [one_keys] at hk; exact hi _ (one_num hk).2
    have hnum := hS.num
    have heq := hS.eq
    have hgap := hS.gap
    have hhas := hS.has
    have hlen := hS.len
    have hkeys : ∀ H, Does Try.prog 10 [.d (.list false (rowsT (oneR l))), iA 0, .d (.v (.slice none 0 0))] H (.ok (.d (.list false ((keysP (oneR l) 0 []).map Val.enc)))) H := fun H =>
      Does.sub (.cons (rowsT_sub false _) (.cons (.refl _) (.cons .nil .nil))) (keys_does (oneR l) 0 [] false false (by omega) (fun r hr => by obtain ⟨n, _, rfl⟩ := List.mem_map.1 hr; simp) (by simp) H)
    have hsp := spans_does (keysP (oneR l) 0 []) false H (by omega) hki
    have hsr : spansR (keysP (oneR l) 0 []) = .tup [.d (.list false (S.map encS)), bA true] := by unfold spansR; rw [hnum, heq, if_pos rfl]
    rw [hsr] at hsp
    have htk : (rowsT (oneR l)).take l.length = rowsT (oneR l) := take_len2 _ _ (by rw [rowsT_len, hol])
    clear hS
    generalize keysP (oneR l) 0 [] = Kl at *
    generalize rowsT (oneR l) = O at *
    simp (implicitDefEqProofs := false) only [↓reduceIte, go_sem, oread, owrite, Nat.reduceAdd, Nat.reduceSub, Nat.reduceMul, Nat.reduceLT, Nat.reduceLeDiff, Nat.reduceEqDiff, Nat.reduceBEq, Int.reduceLE, Int.reduceLT, Int.reduceEq, Int.reduceNe, Int.reduceAdd, Int.reduceSub, Int.reduceMul, Int.reduceNeg, Int.reduceToNat, Int.reduceNatCast, reduceCtorEq, eq_self, t0, t8, ints_len]
    refine ⟨_, _, Weak.drop H _ _, ?_⟩
    simp (implicitDefEqProofs := false) only [↓reduceIte, go_sem, oread, owrite, Nat.reduceAdd, Nat.reduceSub, Nat.reduceMul, Nat.reduceLT, Nat.reduceLeDiff, Nat.reduceEqDiff, Nat.reduceBEq, Int.reduceLE, Int.reduceLT, Int.reduceEq, Int.reduceNe, Int.reduceAdd, Int.reduceSub, Int.reduceMul, Int.reduceNeg, Int.reduceToNat, Int.reduceNatCast, reduceCtorEq, eq_self, t6, htk]
    refine KCall.ok (hkeys _) ?_
    simp (implicitDefEqProofs := false) only [↓reduceIte, go_sem, oread, owrite, Nat.reduceAdd, Nat.reduceSub, Nat.reduceMul, Nat.reduceLT, Nat.reduceLeDiff, Nat.reduceEqDiff, Nat.reduceBEq, Int.reduceLE, Int.reduceLT, Int.reduceEq, Int.reduceNe, Int.reduceAdd, Int.reduceSub, Int.reduceMul, Int.reduceNeg, Int.reduceToNat, Int.reduceNatCast, reduceCtorEq, eq_self]
    refine KCall.ok hsp ?_
    simp (implicitDefEqProofs := false) only [↓reduceIte, go_sem, oread, owrite, Nat.reduceAdd, Nat.reduceSub, Nat.reduceMul, Nat.reduceLT, Nat.reduceLeDiff, Nat.reduceEqDiff, Nat.reduceBEq, Int.reduceLE, Int.reduceLT, Int.reduceEq, Int.reduceNe, Int.reduceAdd, Int.reduceSub, Int.reduceMul, Int.reduceNeg, Int.reduceToNat, Int.reduceNatCast, reduceCtorEq, eq_self]
    refine awp_for3 (fun k s H' => H' = H ∧ s 0 = .d (.list false (ints l)) ∧ s 1 = .d (.v (.int .i64 n)) ∧ s 5 = bA true ∧ s 7 = bA (l.any (fun x => decide (x = n))) ∧ s 10 = .d (.list false (S.map encS)) ∧ s 12 = iA ((k : Int) + 1)) (S.length - 1) (by omega) (Weak.refl _ _) ?_ ?_ ?_
    · simp (implicitDefEqProofs := false) only [↓reduceIte, go_sem, oread, owrite, Nat.reduceAdd, Nat.reduceSub, Nat.reduceMul, Nat.reduceLT, Nat.reduceLeDiff, Nat.reduceEqDiff, Nat.reduceBEq, Int.reduceLE, Int.reduceLT, Int.reduceEq, Int.reduceNe, Int.reduceAdd, Int.reduceSub, Int.reduceMul, Int.reduceNeg, Int.reduceToNat, Int.reduceNatCast, reduceCtorEq, eq_self, t0, t1, t5, t7]
    · rintro k s H' hk hw ⟨rfl, t0, t1, t5, t7, t10, t12⟩
      have hk1 : k < S.length := by omega
      have hk2 : k + 1 < S.length := by omega
      have hc : ((k : Int) + 1 < (S.length : Int)) = True := eq_true (by omega)
      have hx := List.getElem?_eq_getElem hk1
      have hy := List.getElem?_eq_getElem hk2
      obtain ⟨g1, g2, g3⟩ := hgap k _ _ hx hy
      have w1 : IntKind.i64.wrap ((k : Int) + 1 - 1) = (k : Int) := by rw [wrap64_in _ (by omega) (by omega)]; omega
      have w2 : IntKind.i64.wrap (S[k + 1].1 - 1) = S[k + 1].1 - 1 := by
        obtain ⟨a, b⟩ := g2
        obtain ⟨c, d⟩ := g3
        exact wrap64_in _ (by omega) (by omega)
      have w3 : IntKind.i64.wrap ((k : Int) + 1 + 1) = ((k + 1 : Nat) : Int) + 1 := by rw [wrap64_in _ (by omega) (by omega)]; omega
      generalize S[k] = x at *
      generalize S[k + 1] = y at *
      have n1 : (y.1 ≤ x.2) = False := eq_false (by omega)
      have n2 : (y.1 - 1 = x.2) = False := eq_false (by omega)
      have hkc : ((k : Int) + 1) = ((k + 1 : Nat) : Int) := by omega
      have hc' : (((k + 1 : Nat) : Int) < (S.length : Int)) = True := eq_true (by omega)
      rw [hkc] at t12 w1 w3
      generalize k + 1 = k1 at *
      simp (implicitDefEqProofs := false) only [↓reduceIte, go_sem, oread, owrite, Nat.reduceAdd, Nat.reduceSub, Nat.reduceMul, Nat.reduceLT, Nat.reduceLeDiff, Nat.reduceEqDiff, Nat.reduceBEq, Int.reduceLE, Int.reduceLT, Int.reduceEq, Int.reduceNe, Int.reduceAdd, Int.reduceSub, Int.reduceMul, Int.reduceNeg, Int.reduceToNat, Int.reduceNatCast, reduceCtorEq, eq_self, t10, t12, hc', List.length_map]
      refine awp_draw K.mixed (by kernel_rfl) ?_
      simp (implicitDefEqProofs := false) only [↓reduceIte, go_sem, oread, owrite, Nat.reduceAdd, Nat.reduceSub, Nat.reduceMul, Nat.reduceLT, Nat.reduceLeDiff, Nat.reduceEqDiff, Nat.reduceBEq, Int.reduceLE, Int.reduceLT, Int.reduceEq, Int.reduceNe, Int.reduceAdd, Int.reduceSub, Int.reduceMul, Int.reduceNeg, Int.reduceToNat, Int.reduceNatCast, reduceCtorEq, eq_self, t10, t12, w1, w2, hx, hy, hk1, hk2, encS, n1, n2]
      refine Rnd.same ⟨rfl, ?_⟩
      simp (implicitDefEqProofs := false) only [↓reduceIte, go_sem, oread, owrite, Nat.reduceAdd, Nat.reduceSub, Nat.reduceMul, Nat.reduceLT, Nat.reduceLeDiff, Nat.reduceEqDiff, Nat.reduceBEq, Int.reduceLE, Int.reduceLT, Int.reduceEq, Int.reduceNe, Int.reduceAdd, Int.reduceSub, Int.reduceMul, Int.reduceNeg, Int.reduceToNat, Int.reduceNatCast, reduceCtorEq, eq_self, t0, t1, t5, t7, t10, w3]
    · rintro s H' ⟨rfl, t0, t1, t5, t7, t10, t12⟩
      have hc : (((S.length - 1 : Nat) : Int) + 1 < (S.length : Int)) = False := eq_false (by omega)
      generalize ((S.length - 1 : Nat) : Int) + 1 = z at *
      simp (implicitDefEqProofs := false) only [↓reduceIte, go_sem, oread, owrite, Nat.reduceAdd, Nat.reduceSub, Nat.reduceMul, Nat.reduceLT, Nat.reduceLeDiff, Nat.reduceEqDiff, Nat.reduceBEq, Int.reduceLE, Int.reduceLT, Int.reduceEq, Int.reduceNe, Int.reduceAdd, Int.reduceSub, Int.reduceMul, Int.reduceNeg, Int.reduceToNat, Int.reduceNatCast, reduceCtorEq, eq_self, t10, t12, List.length_map, hc]
      refine awp_for3 (fun k s H2 => H2 = H' ∧ s 0 = .d (.list false (ints l)) ∧ s 1 = .d (.v (.int .i64 n)) ∧ s 5 = bA true ∧ s 7 = bA (l.any (fun x => decide (x = n))) ∧ s 10 = .d (.list false (S.map encS)) ∧ s 13 = iA k) l.length (by omega) (Weak.refl _ _) ?_ ?_ ?_
      · simp (implicitDefEqProofs := false) only [↓reduceIte, go_sem, oread, owrite, Nat.reduceAdd, Nat.reduceSub, Nat.reduceMul, Nat.reduceLT, Nat.reduceLeDiff, Nat.reduceEqDiff, Nat.reduceBEq, Int.reduceLE, Int.reduceLT, Int.reduceEq, Int.reduceNe, Int.reduceAdd, Int.reduceSub, Int.reduceMul, Int.reduceNeg, Int.reduceToNat, Int.reduceNatCast, reduceCtorEq, eq_self, t0, t1, t5, t7, t10]
      · rintro k s H' hk hw ⟨rfl, t0, t1, t5, t7, t10, t13⟩
        have hx := ints_get l k hk
        have hm : l.any (fun x => decide (x = l[k])) = true := List.any_eq_true.2 ⟨l[k], List.getElem_mem hk, by simp⟩
        generalize l[k] = x at *
        have hwx := hhas x
        rw [hm] at hwx
        simp (implicitDefEqProofs := false) only [↓reduceIte, go_sem, oread, owrite, Nat.reduceAdd, Nat.reduceSub, Nat.reduceMul, Nat.reduceLT, Nat.reduceLeDiff, Nat.reduceEqDiff, Nat.reduceBEq, Int.reduceLE, Int.reduceLT, Int.reduceEq, Int.reduceNe, Int.reduceAdd, Int.reduceSub, Int.reduceMul, Int.reduceNeg, Int.reduceToNat, Int.reduceNatCast, reduceCtorEq, eq_self, t0, t13, ints_len, hk, hx, t10]
        refine KCall.ok (num19_does x _) ?_
        simp (implicitDefEqProofs := false) only [↓reduceIte, go_sem, oread, owrite, Nat.reduceAdd, Nat.reduceSub, Nat.reduceMul, Nat.reduceLT, Nat.reduceLeDiff, Nat.reduceEqDiff, Nat.reduceBEq, Int.reduceLE, Int.reduceLT, Int.reduceEq, Int.reduceNe, Int.reduceAdd, Int.reduceSub, Int.reduceMul, Int.reduceNeg, Int.reduceToNat, Int.reduceNatCast, reduceCtorEq, eq_self]
        refine KCall.ok (within_does S (n19 x) false _ (by omega)) ?_
        simp (implicitDefEqProofs := false) only [↓reduceIte, go_sem, oread, owrite, Nat.reduceAdd, Nat.reduceSub, Nat.reduceMul, Nat.reduceLT, Nat.reduceLeDiff, Nat.reduceEqDiff, Nat.reduceBEq, Int.reduceLE, Int.reduceLT, Int.reduceEq, Int.reduceNe, Int.reduceAdd, Int.reduceSub, Int.reduceMul, Int.reduceNeg, Int.reduceToNat, Int.reduceNatCast, reduceCtorEq, eq_self, hwx, t13]
        refine Rnd.same ⟨rfl, ?_⟩
        simp (implicitDefEqProofs := false) only [↓reduceIte, go_sem, oread, owrite, Nat.reduceAdd, Nat.reduceSub, Nat.reduceMul, Nat.reduceLT, Nat.reduceLeDiff, Nat.reduceEqDiff, Nat.reduceBEq, Int.reduceLE, Int.reduceLT, Int.reduceEq, Int.reduceNe, Int.reduceAdd, Int.reduceSub, Int.reduceMul, Int.reduceNeg, Int.reduceToNat, Int.reduceNatCast, reduceCtorEq, eq_self, t0, t1, t5, t7, t10, hw]
      · rintro s H' ⟨rfl, t0, t1, t5, t7, t10, t13⟩
        simp (implicitDefEqProofs := false) only [↓reduceIte, go_sem, oread, owrite, Nat.reduceAdd, Nat.reduceSub, Nat.reduceMul, Nat.reduceLT, Nat.reduceLeDiff, Nat.reduceEqDiff, Nat.reduceBEq, Int.reduceLE, Int.reduceLT, Int.reduceEq, Int.reduceNe, Int.reduceAdd, Int.reduceSub, Int.reduceMul, Int.reduceNeg, Int.reduceToNat, Int.reduceNatCast, reduceCtorEq, eq_self, t0, t1, t5, t7, t10, t13, ints_len]
        refine KCall.ok (num19_does n _) ?_
        simp (implicitDefEqProofs := false) only [↓reduceIte, go_sem, oread, owrite, Nat.reduceAdd, Nat.reduceSub, Nat.reduceMul, Nat.reduceLT, Nat.reduceLeDiff, Nat.reduceEqDiff, Nat.reduceBEq, Int.reduceLE, Int.reduceLT, Int.reduceEq, Int.reduceNe, Int.reduceAdd, Int.reduceSub, Int.reduceMul, Int.reduceNeg, Int.reduceToNat, Int.reduceNatCast, reduceCtorEq, eq_self]
        refine KCall.ok (within_does S (n19 n) false _ (by omega)) ?_
        simp (implicitDefEqProofs := false) only [↓reduceIte, go_sem, oread, owrite, Nat.reduceAdd, Nat.reduceSub, Nat.reduceMul, Nat.reduceLT, Nat.reduceLeDiff, Nat.reduceEqDiff, Nat.reduceBEq, Int.reduceLE, Int.reduceLT, Int.reduceEq, Int.reduceNe, Int.reduceAdd, Int.reduceSub, Int.reduceMul, Int.reduceNeg, Int.reduceToNat, Int.reduceNatCast, reduceCtorEq, eq_self, hhas n, t7]
        refine AEnd.ret0 ?_
        simp (implicitDefEqProofs := false) only [↓reduceIte, go_sem, oread, owrite, Nat.reduceAdd, Nat.reduceSub, Nat.reduceMul, Nat.reduceLT, Nat.reduceLeDiff, Nat.reduceEqDiff, Nat.reduceBEq, Int.reduceLE, Int.reduceLT, Int.reduceEq, Int.reduceNe, Int.reduceAdd, Int.reduceSub, Int.reduceMul, Int.reduceNeg, Int.reduceToNat, Int.reduceNatCast, reduceCtorEq, eq_self, beq_self_eq_true]
theorem argNums19 {x : AV} (h : ArgOk Try.prog 22 x) : ∃ l : List Int, x = .d (.list false (ints l)) ∧ l.length ≤ 140737488355328 ∧ ∀ n ∈ l, I64 n := by
  obtain ⟨d, rfl, hf⟩ := arg_one h K.agB22 (sh := .slice 8 [.int .i64]) (by kernel_rfl)
  obtain ⟨l, rfl, hl, hn⟩ := ints_inv hf
  exact ⟨l, rfl, by omega, hn⟩
theorem amongSpans_does (x0 : AV) (h0 : ArgOk Try.prog 22 x0) (x1 : AV) (h1 : ArgOk Try.prog 2 x1) : Does Try.prog 3 [x0, x1] [] (.ok (.d (.v (.bool true)))) [] := by
  obtain ⟨l, rfl, hl, hi⟩ := argNums19 h0
  obtain ⟨d, rfl, hf⟩ := arg_one h1 K.agB2 (sh := .int .i64) (by kernel_rfl)
  obtain ⟨n, rfl, hn⟩ := Fits.i64_inv hf
  exact amongSpans_walk l n hl hi hn []
end Go.Proofs.Ytfmmemboakdeiaa

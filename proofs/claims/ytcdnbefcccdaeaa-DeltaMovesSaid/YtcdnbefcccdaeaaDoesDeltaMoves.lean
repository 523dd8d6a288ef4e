/- The law DeltaMoves: what it does. -/
import Derived.Test.YtcdnbefcccdaeaaDoesDeltaRises
namespace Go.Proofs.Ytcdnbefcccdaeaa
open Go.Proofs.YtcdnbefcccdaeaaAw Go.RowKit
set_option linter.unusedVariables false
set_option linter.unusedSimpArgs false
theorem wrapS (n : Int) : IntKind.i64.wrap n = (n + 9223372036854775808) % 18446744073709551616 - 9223372036854775808 := by
  simp only [IntKind.wrap, IntKind.signed, IntKind.bits]
  simp only [show ((2 : Int) ^ 64) = 18446744073709551616 from rfl, show ((2 : Int) ^ (64 - 1)) = 9223372036854775808 from rfl]
  by_cases h : n % 18446744073709551616 ≥ 9223372036854775808 <;> simp [h] <;> omega
def mvL (l : List Int) (by_ : Int) : List Val := l.map fun x => num10 (IntKind.i64.wrap (x + by_))
theorem diff_moved (a b m : Int) : diffP (num10 (IntKind.i64.wrap (a + m))) (num10 (IntKind.i64.wrap (b + m))) = diffP (num10 a) (num10 b) := by
  simp only [diffP, num10]
  congr 1
  simp only [wrapS]
  omega
theorem steps_map {α : Type} (l : List α) (f : α → Val) : stepsP (l.map f) = List.zipWith (fun a b => diffP (f a) (f b)) l l.tail := by
  unfold stepsP
  rw [← List.map_tail, List.zipWith_map]
theorem steps_moved (l : List Int) (m : Int) : stepsP (mvL l m) = stepsP (l.map num10) := by
  unfold mvL
  rw [steps_map, steps_map]
  congr 1
  funext a b
  exact diff_moved a b m
theorem steps_same (n : Nat) (v : Val) : stepsP (List.replicate n v) = List.replicate (n - 1) 0 := by
  unfold stepsP
  rw [List.tail_replicate]
  have : diffP v v = 0 := by simp [diffP]; decide
  rw [List.zipWith_replicate, this, Nat.min_eq_right (by omega)]
theorem width_zero : ∀ n, widthP (List.replicate n 0) = 0
  | 0 => rfl
  | n + 1 => by
    unfold widthP
    rw [List.replicate_succ, List.foldl_cons, foldOr_rep]
    decide
theorem pack_zero (l : List Nat) : packP l 0 = [] := by
  have h := packB_len (bitsL l 0)
  rw [bitsL_len, Nat.mul_zero] at h
  exact List.eq_nil_of_length_eq_zero h
theorem bytes_same (n : Nat) (v : Val) : bytesD (List.replicate (n + 1) v) = bytesD [v] := by
  rw [bytes_one, List.replicate_succ]
  unfold bytesD
  simp only
  rw [← List.replicate_succ, steps_same, width_zero, pack_zero, putP_small (n := 0) (by decide), List.append_nil]
def tailD (l : List Val) : List Nat := putP (widthP (stepsP l)) ++ packP (stepsP l) (widthP (stepsP l))
theorem bytes_tail (v : Val) (r : List Val) : bytesD (v :: r) = putP (zigP v.i) ++ tailD (v :: r) := by simp [bytesD, tailD]
theorem sorted_same (n : Nat) (m : Int) : sortedP (List.replicate n (num10 m)) = true := by
  rw [sortedP_iff]
  intro k x y hx hy
  have hx := List.getElem?_eq_some_iff.1 hx
  have hy := List.getElem?_eq_some_iff.1 hy
  simp at hx hy
  rw [← hx.2, ← hy.2]
  simp [cmpV, num10, cmpI, ordI]
theorem mvL_len (l : List Int) (m : Int) : (mvL l m).length = l.length := by simp [mvL]
theorem mvL_num (l : List Int) (m : Int) : ∀ v ∈ mvL l m, ∃ n, v = num10 n := fun v hv => by obtain ⟨x, _, rfl⟩ := List.mem_map.1 hv; exact ⟨_, rfl⟩
theorem mvL_ok (l : List Int) (m : Int) : ∀ v ∈ mvL l m, I64 v.i := fun v hv => by obtain ⟨x, _, rfl⟩ := List.mem_map.1 hv; exact wrap64_rng _
theorem map_num (l : List Int) : ∀ v ∈ l.map num10, ∃ n, v = num10 n := fun v hv => by obtain ⟨x, _, rfl⟩ := List.mem_map.1 hv; exact ⟨_, rfl⟩
theorem map_ok {l : List Int} (h : ∀ n ∈ l, I64 n) : ∀ v ∈ l.map num10, I64 v.i := fun v hv => by obtain ⟨x, hx, rfl⟩ := List.mem_map.1 hv; exact h x hx
set_option maxRecDepth 10000 in
set_option maxHeartbeats 1000000 in
theorem deltaMoves_walk (l : List Int) (m : Int) (hl : l.length ≤ 140737488355328) (hi : ∀ n ∈ l, I64 n) (hm : I64 m) (H : AHeap) :
    Does Try.prog 3 [.d (.list false (ints l)), .d (.v (.int .i64 m))] H (.ok (bA true)) H := by
  refine Does.of_awp (hint := (fun t => t == 1000013)) Try.func3 (by kernel_rfl) rfl [4] (by kernel_rfl) (by decide) (by simp [Try.ntmps3]) ?_
  rw [Try.ntmps3]
  simp (implicitDefEqProofs := false) only [↓reduceIte, go_sem, oread, owrite, Nat.reduceAdd, Nat.reduceSub, Nat.reduceMul, Nat.reduceLT, Nat.reduceLeDiff, Nat.reduceEqDiff, Nat.reduceBEq, Int.reduceLE, Int.reduceLT, Int.reduceEq, Int.reduceNe, Int.reduceAdd, Int.reduceSub, Int.reduceMul, Int.reduceNeg, Int.reduceToNat, Int.reduceNatCast, reduceCtorEq, eq_self]
  refine KCall.ok (shown10_does _) ?_
  by_cases h1 : 1000 < l.length
  · simp (implicitDefEqProofs := false) only [↓reduceIte, go_sem, oread, owrite, Nat.reduceAdd, Nat.reduceSub, Nat.reduceMul, Nat.reduceLT, Nat.reduceLeDiff, Nat.reduceEqDiff, Nat.reduceBEq, Int.reduceLE, Int.reduceLT, Int.reduceEq, Int.reduceNe, Int.reduceAdd, Int.reduceSub, Int.reduceMul, Int.reduceNeg, Int.reduceToNat, Int.reduceNatCast, reduceCtorEq, eq_self, ints_len, show ((1000 : Int) < (l.length : Int)) = True from eq_true (by omega)]
    refine AEnd.ret0 ?_
    simp (implicitDefEqProofs := false) only [↓reduceIte, go_sem, oread, owrite, Nat.reduceAdd, Nat.reduceSub, Nat.reduceMul, Nat.reduceLT, Nat.reduceLeDiff, Nat.reduceEqDiff, Nat.reduceBEq, Int.reduceLE, Int.reduceLT, Int.reduceEq, Int.reduceNe, Int.reduceAdd, Int.reduceSub, Int.reduceMul, Int.reduceNeg, Int.reduceToNat, Int.reduceNatCast, reduceCtorEq, eq_self]
  · cases l with
    | nil =>
      simp (implicitDefEqProofs := false) only [↓reduceIte, go_sem, oread, owrite, Nat.reduceAdd, Nat.reduceSub, Nat.reduceMul, Nat.reduceLT, Nat.reduceLeDiff, Nat.reduceEqDiff, Nat.reduceBEq, Int.reduceLE, Int.reduceLT, Int.reduceEq, Int.reduceNe, Int.reduceAdd, Int.reduceSub, Int.reduceMul, Int.reduceNeg, Int.reduceToNat, Int.reduceNatCast, reduceCtorEq, eq_self, ints_len]
      refine AEnd.ret0 ?_
      simp (implicitDefEqProofs := false) only [↓reduceIte, go_sem, oread, owrite, Nat.reduceAdd, Nat.reduceSub, Nat.reduceMul, Nat.reduceLT, Nat.reduceLeDiff, Nat.reduceEqDiff, Nat.reduceBEq, Int.reduceLE, Int.reduceLT, Int.reduceEq, Int.reduceNe, Int.reduceAdd, Int.reduceSub, Int.reduceMul, Int.reduceNeg, Int.reduceToNat, Int.reduceNatCast, reduceCtorEq, eq_self]
    | cons x0 r =>
      have hlp : 0 < (x0 :: r).length := by simp
      generalize hL : x0 :: r = l at *
      simp (implicitDefEqProofs := false) only [↓reduceIte, go_sem, oread, owrite, Nat.reduceAdd, Nat.reduceSub, Nat.reduceMul, Nat.reduceLT, Nat.reduceLeDiff, Nat.reduceEqDiff, Nat.reduceBEq, Int.reduceLE, Int.reduceLT, Int.reduceEq, Int.reduceNe, Int.reduceAdd, Int.reduceSub, Int.reduceMul, Int.reduceNeg, Int.reduceToNat, Int.reduceNatCast, reduceCtorEq, eq_self, ints_len, show ((1000 : Int) < (l.length : Int)) = False from eq_false (by omega), show ((l.length : Int) = 0) = False from eq_false (by omega)]
      have n1 := mvL_len l m
      refine awp_for3 (fun k s H' => H' = H ++ [.arr 26 3 k (((l.map num10).take k).map Val.enc), .arr 26 3 k (((mvL l m).take k).map Val.enc), .arr 26 3 k ((List.replicate k (num10 x0)).map Val.enc)] ∧ s 0 = .d (.list false (ints l)) ∧ s 1 = .d (.v (.int .i64 m)) ∧ s 5 = bA true ∧ s 6 = .sl H.length k 0 k ∧ s 7 = .sl (H.length + 1) k 0 k ∧ s 8 = .sl (H.length + 2) k 0 k ∧ s 9 = iA k) l.length (by omega)
        (((Weak.virt1 _ _ 6 26 3 (by decide) (by simp (implicitDefEqProofs := false) only [↓reduceIte, go_sem, oread, owrite, Nat.reduceAdd, Nat.reduceSub, Nat.reduceMul, Nat.reduceLT, Nat.reduceLeDiff, Nat.reduceEqDiff, Nat.reduceBEq, Int.reduceLE, Int.reduceLT, Int.reduceEq, Int.reduceNe, Int.reduceAdd, Int.reduceSub, Int.reduceMul, Int.reduceNeg, Int.reduceToNat, Int.reduceNatCast, reduceCtorEq, eq_self]) _).trans (Weak.virt1 _ _ 7 26 3 (by decide) (by simp (implicitDefEqProofs := false) only [↓reduceIte, go_sem, oread, owrite, Nat.reduceAdd, Nat.reduceSub, Nat.reduceMul, Nat.reduceLT, Nat.reduceLeDiff, Nat.reduceEqDiff, Nat.reduceBEq, Int.reduceLE, Int.reduceLT, Int.reduceEq, Int.reduceNe, Int.reduceAdd, Int.reduceSub, Int.reduceMul, Int.reduceNeg, Int.reduceToNat, Int.reduceNatCast, reduceCtorEq, eq_self]) _)).trans (Weak.virt1 _ _ 8 26 3 (by decide) (by simp (implicitDefEqProofs := false) only [↓reduceIte, go_sem, oread, owrite, Nat.reduceAdd, Nat.reduceSub, Nat.reduceMul, Nat.reduceLT, Nat.reduceLeDiff, Nat.reduceEqDiff, Nat.reduceBEq, Int.reduceLE, Int.reduceLT, Int.reduceEq, Int.reduceNe, Int.reduceAdd, Int.reduceSub, Int.reduceMul, Int.reduceNeg, Int.reduceToNat, Int.reduceNatCast, reduceCtorEq, eq_self]) _)) ?_ ?_ ?_
      · refine ⟨by simp, ?_⟩
        simp (implicitDefEqProofs := false) only [↓reduceIte, go_sem, oread, owrite, Nat.reduceAdd, Nat.reduceSub, Nat.reduceMul, Nat.reduceLT, Nat.reduceLeDiff, Nat.reduceEqDiff, Nat.reduceBEq, Int.reduceLE, Int.reduceLT, Int.reduceEq, Int.reduceNe, Int.reduceAdd, Int.reduceSub, Int.reduceMul, Int.reduceNeg, Int.reduceToNat, Int.reduceNatCast, reduceCtorEq, eq_self, List.append_assoc]
      · rintro k s H' hk hw ⟨rfl, t0, t1, t5, t6, t7, t8, t9⟩
        have hx := ints_get l k hk
        have e1 : (l.map num10).take (k + 1) = (l.map num10).take k ++ [num10 l[k]] := by rw [← List.map_take, List.take_succ_eq_append_getElem hk, List.map_append, List.map_take]; rfl
        have e2 : (mvL l m).take (k + 1) = (mvL l m).take k ++ [num10 (IntKind.i64.wrap (l[k] + m))] := by unfold mvL; rw [← List.map_take, List.take_succ_eq_append_getElem hk, List.map_append, List.map_take]; rfl
        have e3 : List.replicate (k + 1) (num10 x0) = List.replicate k (num10 x0) ++ [num10 x0] := List.replicate_succ'
        have e4 : ((l.map num10).take (k + 1))[0]? = some (num10 x0) := by rw [← hL]; simp
        have e5 : ((l.map num10).take k).length = k := by simp; omega
        have e6 : ((mvL l m).take k).length = k := by simp [mvL]; omega
        have e7 : (List.replicate k (num10 x0)).length = k := by simp
        generalize l[k] = x at hx e1 e2
        generalize hA1 : (l.map num10).take (k + 1) = A1 at *
        generalize hA : (l.map num10).take k = A at *
        generalize hB1 : (mvL l m).take (k + 1) = B1 at *
        generalize hB : (mvL l m).take k = B at *
        generalize hC : List.replicate k (num10 x0) = C at *
        have q1 : A.map Val.enc ++ [(num10 x).enc] = A1.map Val.enc := by rw [e1]; simp
        have q2 : B.map Val.enc ++ [(num10 (IntKind.i64.wrap (x + m))).enc] = B1.map Val.enc := by rw [e2]; simp
        have q3 : (A1.map Val.enc)[0]? = some (num10 x0).enc := by simp [e4]
        simp only [Val.enc, num10, noS] at q1 q2 q3
        have kp : ((0 : Int) < (k : Int) + 1) = True := eq_true (by omega)
        simp (implicitDefEqProofs := false) only [↓reduceIte, go_sem, oread, owrite, Nat.reduceAdd, Nat.reduceSub, Nat.reduceMul, Nat.reduceLT, Nat.reduceLeDiff, Nat.reduceEqDiff, Nat.reduceBEq, Int.reduceLE, Int.reduceLT, Int.reduceEq, Int.reduceNe, Int.reduceAdd, Int.reduceSub, Int.reduceMul, Int.reduceNeg, Int.reduceToNat, Int.reduceNatCast, reduceCtorEq, eq_self, t0, t1, t6, t7, t8, t9, hk, ints_len, hx, e5, e6, e7, kp, q1, q2, q3]
        refine ⟨by omega, by omega, by omega, by omega, by omega, by omega, Rnd.same ⟨?_, ?_⟩⟩
        · have q4 : C.map Val.enc ++ [(num10 x0).enc] = (List.replicate (k + 1) (num10 x0)).map Val.enc := by rw [e3]; simp
          simp only [Val.enc, num10, noS] at q4
          simp (implicitDefEqProofs := false) only [↓reduceIte, go_sem, oread, owrite, Nat.reduceAdd, Nat.reduceSub, Nat.reduceMul, Nat.reduceLT, Nat.reduceLeDiff, Nat.reduceEqDiff, Nat.reduceBEq, Int.reduceLE, Int.reduceLT, Int.reduceEq, Int.reduceNe, Int.reduceAdd, Int.reduceSub, Int.reduceMul, Int.reduceNeg, Int.reduceToNat, Int.reduceNatCast, reduceCtorEq, eq_self, q4, num10, noS]
        · simp (implicitDefEqProofs := false) only [↓reduceIte, go_sem, oread, owrite, Nat.reduceAdd, Nat.reduceSub, Nat.reduceMul, Nat.reduceLT, Nat.reduceLeDiff, Nat.reduceEqDiff, Nat.reduceBEq, Int.reduceLE, Int.reduceLT, Int.reduceEq, Int.reduceNe, Int.reduceAdd, Int.reduceSub, Int.reduceMul, Int.reduceNeg, Int.reduceToNat, Int.reduceNatCast, reduceCtorEq, eq_self, t0, t1, t5, hw]
      · rintro s H' ⟨rfl, t0, t1, t5, t6, t7, t8, t9⟩
        have hr : l.length = r.length + 1 := by rw [← hL]; rfl
        have m1 : (l.map num10).take l.length = l.map num10 := List.take_of_length_le (by simp)
        have m2 : (mvL l m).take l.length = mvL l m := List.take_of_length_le (by simp [mvL])
        have m3 : l.map num10 = num10 x0 :: r.map num10 := by rw [← hL]; rfl
        have m4 : mvL l m = num10 (IntKind.i64.wrap (x0 + m)) :: mvL r m := by rw [← hL]; rfl
        have o0 : I64 x0 := hi x0 (by rw [← hL]; simp)
        have ou : ∀ v ∈ List.replicate l.length (num10 x0), I64 v.i := fun v hv => by rw [(List.mem_replicate.1 hv).2]; exact o0
        have o1 : ∀ v ∈ [num10 x0], I64 v.i := fun v hv => by simp at hv; rw [hv]; exact o0
        have o2 : ∀ v ∈ [num10 (IntKind.i64.wrap (x0 + m))], I64 v.i := fun v hv => by simp at hv; rw [hv]; exact wrap64_rng _
        have d1 := dbytes_does (l.map num10) (map_ok hi) false H (by simp; omega)
        rw [deltaR_ok (map_num l) (by simp; omega) (by rw [m3]; simp), m3, bytes_tail, ← m3] at d1
        have d2 := dbytes_does (mvL l m) (mvL_ok l m) false H (by rw [n1]; omega)
        rw [deltaR_ok (mvL_num l m) (by rw [n1]; omega) (by rw [m4]; simp), m4, bytes_tail, ← m4] at d2
        have d3 := dbytes_does (List.replicate l.length (num10 x0)) ou false H (by simp; omega)
        rw [deltaR_ok (fun v hv => ⟨_, (List.mem_replicate.1 hv).2⟩) (by simp; omega) (by rw [hr]; simp [List.replicate_succ])] at d3
        have b3 : bytesD (List.replicate l.length (num10 x0)) = putP (zigP x0) ++ [0] := by rw [hr, bytes_same, bytes_one]; rfl
        rw [b3] at d3
        have d4 := dbytes_does [num10 x0] o1 false H (by simp)
        rw [deltaR_ok (fun v hv => ⟨_, by simpa using hv⟩) (by simp) (by simp), bytes_one] at d4
        have d5 := dbytes_does [num10 (IntKind.i64.wrap (x0 + m))] o2 false H (by simp)
        rw [deltaR_ok (fun v hv => ⟨_, by simpa using hv⟩) (by simp) (by simp), bytes_one] at d5
        have s1 := steps_does (l.map num10) false H (by simp; omega)
        have s2 := steps_does (mvL l m) false H (by rw [n1]; omega)
        have s3 := sorted_does (List.replicate l.length (num10 x0)) false H (by simp; omega)
        rw [sorted_same] at s3
        rw [steps_moved] at s2
        have ht : tailD (mvL l m) = tailD (l.map num10) := by unfold tailD; rw [steps_moved]
        rw [ht] at d2
        have p1 := putP_pos (zigP x0)
        have p2 := putP_pos (zigP (IntKind.i64.wrap (x0 + m)))
        have p3 := putP_len 10 (zigP x0) (by have := zigP_lt o0.1 o0.2; omega)
        have p4 := putP_len 10 (zigP (IntKind.i64.wrap (x0 + m))) (by have := zigP_lt (wrap64_rng (x0 + m)).1 (wrap64_rng (x0 + m)).2; omega)
        have p5 : 0 < (tailD (l.map num10)).length := by unfold tailD; rw [List.length_append]; have := putP_pos (widthP (stepsP (l.map num10))); omega
        have y1 : (l.map num10).take 1 = [num10 x0] := by rw [m3]; rfl
        have y2 : (mvL l m).take 1 = [num10 (IntKind.i64.wrap (x0 + m))] := by rw [m4]; rfl
        simp only [num10] at d1 d2 d3 d4 d5
        generalize tailD (l.map num10) = T at *
        generalize putP (zigP x0) = A at *
        generalize putP (zigP (IntKind.i64.wrap (x0 + m))) = B at *
        simp (implicitDefEqProofs := false) only [↓reduceIte, go_sem, oread, owrite, Nat.reduceAdd, Nat.reduceSub, Nat.reduceMul, Nat.reduceLT, Nat.reduceLeDiff, Nat.reduceEqDiff, Nat.reduceBEq, Int.reduceLE, Int.reduceLT, Int.reduceEq, Int.reduceNe, Int.reduceAdd, Int.reduceSub, Int.reduceMul, Int.reduceNeg, Int.reduceToNat, Int.reduceNatCast, reduceCtorEq, eq_self, t0, t9, ints_len]
        refine ⟨_, _, Weak.drop H _ _, ?_⟩
        simp (implicitDefEqProofs := false) only [↓reduceIte, go_sem, oread, owrite, Nat.reduceAdd, Nat.reduceSub, Nat.reduceMul, Nat.reduceLT, Nat.reduceLeDiff, Nat.reduceEqDiff, Nat.reduceBEq, Int.reduceLE, Int.reduceLT, Int.reduceEq, Int.reduceNe, Int.reduceAdd, Int.reduceSub, Int.reduceMul, Int.reduceNeg, Int.reduceToNat, Int.reduceNatCast, reduceCtorEq, eq_self, t6, take_len, m1]
        refine KCall.ok d1 ?_
        simp (implicitDefEqProofs := false) only [↓reduceIte, go_sem, oread, owrite, Nat.reduceAdd, Nat.reduceSub, Nat.reduceMul, Nat.reduceLT, Nat.reduceLeDiff, Nat.reduceEqDiff, Nat.reduceBEq, Int.reduceLE, Int.reduceLT, Int.reduceEq, Int.reduceNe, Int.reduceAdd, Int.reduceSub, Int.reduceMul, Int.reduceNeg, Int.reduceToNat, Int.reduceNatCast, reduceCtorEq, eq_self, t7, take_len, m2, n1]
        refine KCall.ok d2 ?_
        simp (implicitDefEqProofs := false) only [↓reduceIte, go_sem, oread, owrite, Nat.reduceAdd, Nat.reduceSub, Nat.reduceMul, Nat.reduceLT, Nat.reduceLeDiff, Nat.reduceEqDiff, Nat.reduceBEq, Int.reduceLE, Int.reduceLT, Int.reduceEq, Int.reduceNe, Int.reduceAdd, Int.reduceSub, Int.reduceMul, Int.reduceNeg, Int.reduceToNat, Int.reduceNatCast, reduceCtorEq, eq_self, t8, take_len, List.length_replicate]
        refine KCall.ok d3 ?_
        simp (implicitDefEqProofs := false) only [↓reduceIte, go_sem, oread, owrite, Nat.reduceAdd, Nat.reduceSub, Nat.reduceMul, Nat.reduceLT, Nat.reduceLeDiff, Nat.reduceEqDiff, Nat.reduceBEq, Int.reduceLE, Int.reduceLT, Int.reduceEq, Int.reduceNe, Int.reduceAdd, Int.reduceSub, Int.reduceMul, Int.reduceNeg, Int.reduceToNat, Int.reduceNatCast, reduceCtorEq, eq_self, t6, take_len, m1, enc3]
        refine ⟨by omega, ?_⟩
        rw [← List.map_take, y1]
        refine KCall.ok d4 ?_
        simp (implicitDefEqProofs := false) only [↓reduceIte, go_sem, oread, owrite, Nat.reduceAdd, Nat.reduceSub, Nat.reduceMul, Nat.reduceLT, Nat.reduceLeDiff, Nat.reduceEqDiff, Nat.reduceBEq, Int.reduceLE, Int.reduceLT, Int.reduceEq, Int.reduceNe, Int.reduceAdd, Int.reduceSub, Int.reduceMul, Int.reduceNeg, Int.reduceToNat, Int.reduceNatCast, reduceCtorEq, eq_self, t7, take_len, m2, n1, enc3]
        refine ⟨by omega, ?_⟩
        rw [← List.map_take, y2]
        refine KCall.ok d5 ?_
        simp (implicitDefEqProofs := false) only [↓reduceIte, go_sem, oread, owrite, Nat.reduceAdd, Nat.reduceSub, Nat.reduceMul, Nat.reduceLT, Nat.reduceLeDiff, Nat.reduceEqDiff, Nat.reduceBEq, Int.reduceLE, Int.reduceLT, Int.reduceEq, Int.reduceNe, Int.reduceAdd, Int.reduceSub, Int.reduceMul, Int.reduceNeg, Int.reduceToNat, Int.reduceNatCast, reduceCtorEq, eq_self, bys_len, List.length_append, show ((A.length : Int) + 1 < 2) = False from eq_false (by omega), show ((B.length : Int) + 1 < 2) = False from eq_false (by omega), show ((A.length : Int) + (T.length : Int) < (A.length : Int) + 1) = False from eq_false (by omega), show ((B.length : Int) + (T.length : Int) < (B.length : Int) + 1) = False from eq_false (by omega)]
        refine awp_draw K.mixed (by kernel_rfl) ?_
        have w1 : IntKind.i64.wrap ((A.length : Int) + 1 - 1) = (A.length : Int) := by rw [wrap64_in _ (by omega) (by omega)]; omega
        have w2 : IntKind.i64.wrap ((B.length : Int) + 1 - 1) = (B.length : Int) := by rw [wrap64_in _ (by omega) (by omega)]; omega
        have v1 : (A ++ T).drop A.length = T := by simp
        have v2 : (B ++ T).drop B.length = T := by simp
        have v3 : ((pushAll (T.map fun (n : Nat) => (n : Int))).toList == (pushAll (T.map fun (n : Nat) => (n : Int))).toList) = true := by simp
        simp (implicitDefEqProofs := false) only [↓reduceIte, go_sem, oread, owrite, Nat.reduceAdd, Nat.reduceSub, Nat.reduceMul, Nat.reduceLT, Nat.reduceLeDiff, Nat.reduceEqDiff, Nat.reduceBEq, Int.reduceLE, Int.reduceLT, Int.reduceEq, Int.reduceNe, Int.reduceAdd, Int.reduceSub, Int.reduceMul, Int.reduceNeg, Int.reduceToNat, Int.reduceNatCast, reduceCtorEq, eq_self, t5, t6, take_len, m1]
        refine KCall.ok s1 ?_
        simp (implicitDefEqProofs := false) only [↓reduceIte, go_sem, oread, owrite, Nat.reduceAdd, Nat.reduceSub, Nat.reduceMul, Nat.reduceLT, Nat.reduceLeDiff, Nat.reduceEqDiff, Nat.reduceBEq, Int.reduceLE, Int.reduceLT, Int.reduceEq, Int.reduceNe, Int.reduceAdd, Int.reduceSub, Int.reduceMul, Int.reduceNeg, Int.reduceToNat, Int.reduceNatCast, reduceCtorEq, eq_self, t7, take_len, m2, n1]
        refine KCall.ok s2 ?_
        simp (implicitDefEqProofs := false) only [↓reduceIte, go_sem, oread, owrite, Nat.reduceAdd, Nat.reduceSub, Nat.reduceMul, Nat.reduceLT, Nat.reduceLeDiff, Nat.reduceEqDiff, Nat.reduceBEq, Int.reduceLE, Int.reduceLT, Int.reduceEq, Int.reduceNe, Int.reduceAdd, Int.reduceSub, Int.reduceMul, Int.reduceNeg, Int.reduceToNat, Int.reduceNatCast, reduceCtorEq, eq_self]
        refine KCall.ok (same01_does _ _ false false _ (by rw [stepsP_len]; simp; omega)) ?_
        have g1 : ((bys (A ++ T)).take ((A.length : Int) + (T.length : Int)).toNat).drop A.length = bys T := by
          rw [take_bys, drop_bys, List.take_of_length_le (by simp; omega), v1]
        have g2 : ((bys (B ++ T)).take ((B.length : Int) + (T.length : Int)).toNat).drop B.length = bys T := by
          rw [take_bys, drop_bys, List.take_of_length_le (by simp; omega), v2]
        simp (implicitDefEqProofs := false) only [↓reduceIte, go_sem, oread, owrite, Nat.reduceAdd, Nat.reduceSub, Nat.reduceMul, Nat.reduceLT, Nat.reduceLeDiff, Nat.reduceEqDiff, Nat.reduceBEq, Int.reduceLE, Int.reduceLT, Int.reduceEq, Int.reduceNe, Int.reduceAdd, Int.reduceSub, Int.reduceMul, Int.reduceNeg, Int.reduceToNat, Int.reduceNatCast, reduceCtorEq, eq_self, bys_len, bys_one, List.length_append, w1, w2, g1, g2, asBytes_bys]
        refine ⟨by omega, by omega, by omega, by omega, ?_⟩
        simp (implicitDefEqProofs := false) only [↓reduceIte, go_sem, oread, owrite, Nat.reduceAdd, Nat.reduceSub, Nat.reduceMul, Nat.reduceLT, Nat.reduceLeDiff, Nat.reduceEqDiff, Nat.reduceBEq, Int.reduceLE, Int.reduceLT, Int.reduceEq, Int.reduceNe, Int.reduceAdd, Int.reduceSub, Int.reduceMul, Int.reduceNeg, Int.reduceToNat, Int.reduceNatCast, reduceCtorEq, eq_self, v3, t8, take_len, List.length_replicate]
        refine KCall.ok s3 ?_
        simp (implicitDefEqProofs := false) only [↓reduceIte, go_sem, oread, owrite, Nat.reduceAdd, Nat.reduceSub, Nat.reduceMul, Nat.reduceLT, Nat.reduceLeDiff, Nat.reduceEqDiff, Nat.reduceBEq, Int.reduceLE, Int.reduceLT, Int.reduceEq, Int.reduceNe, Int.reduceAdd, Int.reduceSub, Int.reduceMul, Int.reduceNeg, Int.reduceToNat, Int.reduceNatCast, reduceCtorEq, eq_self]
        refine AEnd.ret0 ?_
        simp (implicitDefEqProofs := false) only [↓reduceIte, go_sem, oread, owrite, Nat.reduceAdd, Nat.reduceSub, Nat.reduceMul, Nat.reduceLT, Nat.reduceLeDiff, Nat.reduceEqDiff, Nat.reduceBEq, Int.reduceLE, Int.reduceLT, Int.reduceEq, Int.reduceNe, Int.reduceAdd, Int.reduceSub, Int.reduceMul, Int.reduceNeg, Int.reduceToNat, Int.reduceNatCast, reduceCtorEq, eq_self]
theorem argInts {x : AV} (h : ArgOk Try.prog 22 x) : ∃ l : List Int, x = .d (.list false (ints l)) ∧ l.length ≤ 17592186044416 * 8 ∧ ∀ n ∈ l, I64 n := by
  obtain ⟨d, rfl, hf⟩ := arg_one h K.agB22 (sh := .slice 8 [.int .i64]) (by kernel_rfl)
  obtain ⟨l, rfl, h1, h2⟩ := ints_inv hf
  exact ⟨l, rfl, by omega, h2⟩
theorem argInt64 {x : AV} (h : ArgOk Try.prog 2 x) : ∃ n : Int, x = .d (.v (.int .i64 n)) ∧ I64 n := by
  obtain ⟨d, rfl, hf⟩ := arg_one h K.agB2 (sh := .int .i64) (by kernel_rfl)
  obtain ⟨n, rfl, hn⟩ := Fits.i64_inv hf
  exact ⟨n, rfl, hn⟩
theorem deltaMoves_does (x0 : AV) (h0 : ArgOk Try.prog 22 x0) (x1 : AV) (h1 : ArgOk Try.prog 2 x1) : Does Try.prog 3 [x0, x1] [] (.ok (.d (.v (.bool true)))) [] := by
  obtain ⟨l, rfl, g1, g2⟩ := argInts h0
  obtain ⟨m, rfl, g3⟩ := argInt64 h1
  exact deltaMoves_walk l m g1 g2 g3 []
end Go.Proofs.Ytcdnbefcccdaeaa

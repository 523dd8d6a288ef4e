/- The law AmongRows: what it does. -/
import Derived.Test.YtfmmemboakdeiaaFew19
import Derived.Test.YtfmmemboakdeiaaSame19
namespace Go.Proofs.Ytfmmemboakdeiaa
open Go.Proofs.YtfmmemboakdeiaaAw Go.RowKit
set_option linter.unusedVariables false
set_option linter.unusedSimpArgs false
set_option maxRecDepth 10000 in
set_option maxHeartbeats 2000000 in
theorem amongRows_walk (R R2 : List (List Val)) (c : Int) (l : List Atom) (hR : RowsOk R) (hR2 : RowsOk R2) (hl : l.length ≤ 1000000000000000) (H : AHeap) :
    Does Try.prog 4 [.d (.list false (rowsD R)), .d (.list false (rowsD R2)), iA c, .d (.list false (l.map Atom.enc))] H (.ok (bA true)) H := by
  refine Does.of_awp (hint := (fun t => t == 30 || t == 1000008)) Try.func4 (by kernel_rfl) rfl [8] (by kernel_rfl) (by decide) (by simp [Try.ntmps4]) ?_
  rw [Try.ntmps4]
  simp (implicitDefEqProofs := false) only [↓reduceIte, go_sem, oread, owrite, Nat.reduceAdd, Nat.reduceSub, Nat.reduceMul, Nat.reduceLT, Nat.reduceLeDiff, Nat.reduceEqDiff, Nat.reduceBEq, Int.reduceLE, Int.reduceLT, Int.reduceEq, Int.reduceNe, Int.reduceAdd, Int.reduceSub, Int.reduceMul, Int.reduceNeg, Int.reduceToNat, Int.reduceNatCast, reduceCtorEq, eq_self]
  refine KCall.ok (shown19_does _) ?_
  simp (implicitDefEqProofs := false) only [↓reduceIte, go_sem, oread, owrite, Nat.reduceAdd, Nat.reduceSub, Nat.reduceMul, Nat.reduceLT, Nat.reduceLeDiff, Nat.reduceEqDiff, Nat.reduceBEq, Int.reduceLE, Int.reduceLT, Int.reduceEq, Int.reduceNe, Int.reduceAdd, Int.reduceSub, Int.reduceMul, Int.reduceNeg, Int.reduceToNat, Int.reduceNatCast, reduceCtorEq, eq_self]
  refine KCall.ok (few19_does R false (by have := hR.len; omega) (fun r hr => by have := hR.row r hr; omega) _) ?_
  simp (implicitDefEqProofs := false) only [↓reduceIte, go_sem, oread, owrite, Nat.reduceAdd, Nat.reduceSub, Nat.reduceMul, Nat.reduceLT, Nat.reduceLeDiff, Nat.reduceEqDiff, Nat.reduceBEq, Int.reduceLE, Int.reduceLT, Int.reduceEq, Int.reduceNe, Int.reduceAdd, Int.reduceSub, Int.reduceMul, Int.reduceNeg, Int.reduceToNat, Int.reduceNatCast, reduceCtorEq, eq_self]
  refine KCall.ok (few19_does R2 false (by have := hR2.len; omega) (fun r hr => by have := hR2.row r hr; omega) _) ?_
  have ha := few19_ok hR
  have hb := few19_ok hR2
  have hal := few19_len R
  have hbl := few19_len R2
  have har : ∀ r ∈ few19P R, r.length ≤ 9 := fun r hr => (few19_row hr).1
  have hbr : ∀ r ∈ few19P R2, r.length ≤ 9 := fun r hr => (few19_row hr).1
  clear hR hR2
  generalize few19P R = a at *
  generalize few19P R2 = b at *
  by_cases h1 : 20 < l.length
  · simp (implicitDefEqProofs := false) only [↓reduceIte, go_sem, oread, owrite, Nat.reduceAdd, Nat.reduceSub, Nat.reduceMul, Nat.reduceLT, Nat.reduceLeDiff, Nat.reduceEqDiff, Nat.reduceBEq, Int.reduceLE, Int.reduceLT, Int.reduceEq, Int.reduceNe, Int.reduceAdd, Int.reduceSub, Int.reduceMul, Int.reduceNeg, Int.reduceToNat, Int.reduceNatCast, reduceCtorEq, eq_self, List.length_map, show ((20 : Int) < (l.length : Int)) = True from eq_true (by omega)]
    refine AEnd.ret0 ?_
    simp (implicitDefEqProofs := false) only [↓reduceIte, go_sem, oread, owrite, Nat.reduceAdd, Nat.reduceSub, Nat.reduceMul, Nat.reduceLT, Nat.reduceLeDiff, Nat.reduceEqDiff, Nat.reduceBEq, Int.reduceLE, Int.reduceLT, Int.reduceEq, Int.reduceNe, Int.reduceAdd, Int.reduceSub, Int.reduceMul, Int.reduceNeg, Int.reduceToNat, Int.reduceNatCast, reduceCtorEq, eq_self]
  simp (implicitDefEqProofs := false) only [↓reduceIte, go_sem, oread, owrite, Nat.reduceAdd, Nat.reduceSub, Nat.reduceMul, Nat.reduceLT, Nat.reduceLeDiff, Nat.reduceEqDiff, Nat.reduceBEq, Int.reduceLE, Int.reduceLT, Int.reduceEq, Int.reduceNe, Int.reduceAdd, Int.reduceSub, Int.reduceMul, Int.reduceNeg, Int.reduceToNat, Int.reduceNatCast, reduceCtorEq, eq_self, List.length_map, show ((20 : Int) < (l.length : Int)) = False from eq_false (by omega)]
  refine KCall.ok (keys_does a c l _ _ (by omega) (fun r hr => by have := har r hr; omega) (by omega) _) ?_
  simp (implicitDefEqProofs := false) only [↓reduceIte, go_sem, oread, owrite, Nat.reduceAdd, Nat.reduceSub, Nat.reduceMul, Nat.reduceLT, Nat.reduceLeDiff, Nat.reduceEqDiff, Nat.reduceBEq, Int.reduceLE, Int.reduceLT, Int.reduceEq, Int.reduceNe, Int.reduceAdd, Int.reduceSub, Int.reduceMul, Int.reduceNeg, Int.reduceToNat, Int.reduceNatCast, reduceCtorEq, eq_self, rowsD_len, rowsD_one]
  refine ⟨by omega, by omega, by omega, by omega, ?_⟩
  have e1 : List.take (a.length + b.length) (rowsD a ++ rowsD b) = rowsD (a ++ b) := by
    rw [List.take_of_length_le (by simp [rowsD])]; simp [rowsD]
  have hAll := fun H => keys_does (a ++ b) c [] false false (by simp; omega) (fun r hr => by rcases List.mem_append.1 hr with h | h; (have := har r h; omega); (have := hbr r h; omega)) (by simp) H
  have hA := fun H => keys_does a c [] false false (by omega) (fun r hr => by have := har r hr; omega) (by simp) H
  have hM := fun H => keys_does b c [] false false (by omega) (fun r hr => by have := hbr r hr; omega) (by simp) H
  refine KCall.frz [] (e := 28) (k := 1) (ver := 2) (es := rowsD a ++ rowsD b) (by simp) (by rw [List.drop_zero, e1]; exact Does.sub (.cons (.refl _) (.cons (.refl _) (.cons .nil .nil))) (hAll _)) ?_
  simp (implicitDefEqProofs := false) only [↓reduceIte, go_sem, oread, owrite, Nat.reduceAdd, Nat.reduceSub, Nat.reduceMul, Nat.reduceLT, Nat.reduceLeDiff, Nat.reduceEqDiff, Nat.reduceBEq, Int.reduceLE, Int.reduceLT, Int.reduceEq, Int.reduceNe, Int.reduceAdd, Int.reduceSub, Int.reduceMul, Int.reduceNeg, Int.reduceToNat, Int.reduceNatCast, reduceCtorEq, eq_self]
  refine ⟨_, _, Weak.drop H _ _, ?_⟩
  simp (implicitDefEqProofs := false) only [↓reduceIte, go_sem, oread, owrite, Nat.reduceAdd, Nat.reduceSub, Nat.reduceMul, Nat.reduceLT, Nat.reduceLeDiff, Nat.reduceEqDiff, Nat.reduceBEq, Int.reduceLE, Int.reduceLT, Int.reduceEq, Int.reduceNe, Int.reduceAdd, Int.reduceSub, Int.reduceMul, Int.reduceNeg, Int.reduceToNat, Int.reduceNatCast, reduceCtorEq, eq_self]
  have k1 : ∀ v ∈ keysP a c l, ¬ v.kind = 0 := fun v hv => keys_kind hv
  have k2 : ∀ v ∈ keysP a c l, inP (keysP (a ++ b) c []) v = true := fun v hv => keys_inL hv
  have k3 : ∀ v ∈ keysP b c [], inP (keysP (a ++ b) c []) v = true := fun v hv => keys_inR hv
  have k4 := keys_rise a c l
  have k5 := keys_le a c l
  have k6 := keys_app_le a b c
  have k7 := keysP_len a c l
  have k8 := keysP_len b c []
  have k9 := keysP_len (a ++ b) c []
  have kA := keysP_len a c []
  rw [List.length_append] at k9
  have kk : ∀ v ∈ keysP a c l, v.s.size ≤ 9223372036854775807 := fun v hv => by have := (keys_ok ha hv).s; omega
  generalize keysP (a ++ b) c [] = X at *
  generalize keysP a c [] = Y at *
  generalize keysP b c [] = M at *
  generalize keysP a c l = Z at *
  refine awp_for3 (fun k s H' => H' = H ∧ s 2 = iA c ∧ s 9 = bA true ∧ s 10 = .d (.list false (rowsD a)) ∧ s 11 = .d (.list false (rowsD b)) ∧ s 12 = .d (.list false (Z.map Val.enc)) ∧ s 13 = .d (.list false (X.map Val.enc)) ∧ s 14 = iA k) Z.length (by omega) (Weak.refl _ _) ?_ ?_ ?_
  · simp (implicitDefEqProofs := false) only [↓reduceIte, go_sem, oread, owrite, Nat.reduceAdd, Nat.reduceSub, Nat.reduceMul, Nat.reduceLT, Nat.reduceLeDiff, Nat.reduceEqDiff, Nat.reduceBEq, Int.reduceLE, Int.reduceLT, Int.reduceEq, Int.reduceNe, Int.reduceAdd, Int.reduceSub, Int.reduceMul, Int.reduceNeg, Int.reduceToNat, Int.reduceNatCast, reduceCtorEq, eq_self]
  · rintro k s H' hk hw ⟨rfl, t2, t9, t10, t11, t12, t13, t14⟩
    have hx := List.getElem?_eq_getElem hk
    have g1 := k1 _ (List.getElem_mem hk)
    have g2 := k2 _ (List.getElem_mem hk)
    by_cases h0 : k = 0
    · subst h0
      generalize Z[0] = x at *
      simp (implicitDefEqProofs := false) only [↓reduceIte, go_sem, oread, owrite, Nat.reduceAdd, Nat.reduceSub, Nat.reduceMul, Nat.reduceLT, Nat.reduceLeDiff, Nat.reduceEqDiff, Nat.reduceBEq, Int.reduceLE, Int.reduceLT, Int.reduceEq, Int.reduceNe, Int.reduceAdd, Int.reduceSub, Int.reduceMul, Int.reduceNeg, Int.reduceToNat, Int.reduceNatCast, reduceCtorEq, eq_self, t12, t14, hk, List.length_map, show ((0 : Int) < (Z.length : Int)) = True from eq_true (by omega)]
      refine awp_draw K.mixed (by kernel_rfl) ?_
      simp (implicitDefEqProofs := false) only [↓reduceIte, go_sem, oread, owrite, Nat.reduceAdd, Nat.reduceSub, Nat.reduceMul, Nat.reduceLT, Nat.reduceLeDiff, Nat.reduceEqDiff, Nat.reduceBEq, Int.reduceLE, Int.reduceLT, Int.reduceEq, Int.reduceNe, Int.reduceAdd, Int.reduceSub, Int.reduceMul, Int.reduceNeg, Int.reduceToNat, Int.reduceNatCast, reduceCtorEq, eq_self, t12, t13, t14, hk, hx, Val.enc, g1]
      refine KCall.ok (in_does X x false _ (by omega)) ?_
      simp (implicitDefEqProofs := false) only [↓reduceIte, go_sem, oread, owrite, Nat.reduceAdd, Nat.reduceSub, Nat.reduceMul, Nat.reduceLT, Nat.reduceLeDiff, Nat.reduceEqDiff, Nat.reduceBEq, Int.reduceLE, Int.reduceLT, Int.reduceEq, Int.reduceNe, Int.reduceAdd, Int.reduceSub, Int.reduceMul, Int.reduceNeg, Int.reduceToNat, Int.reduceNatCast, reduceCtorEq, eq_self, g2, t14]
      refine Rnd.same ⟨rfl, ?_⟩
      simp (implicitDefEqProofs := false) only [↓reduceIte, go_sem, oread, owrite, Nat.reduceAdd, Nat.reduceSub, Nat.reduceMul, Nat.reduceLT, Nat.reduceLeDiff, Nat.reduceEqDiff, Nat.reduceBEq, Int.reduceLE, Int.reduceLT, Int.reduceEq, Int.reduceNe, Int.reduceAdd, Int.reduceSub, Int.reduceMul, Int.reduceNeg, Int.reduceToNat, Int.reduceNatCast, reduceCtorEq, eq_self, t2, t9, t10, t11, t12, t13]
      rfl
    · have hk' : k - 1 < Z.length := by omega
      have hy := List.getElem?_eq_getElem hk'
      have g3 := List.pairwise_iff_getElem.1 k4 (k - 1) k hk' hk (by omega)
      have g4 := kk _ (List.getElem_mem hk')
      have w1 : IntKind.i64.wrap ((k : Int) - 1) = ((k - 1 : Nat) : Int) := by rw [wrap64_in _ (by omega) (by omega)]; omega
      have p1 : ((0 : Int) < (k : Int)) = True := eq_true (by omega)
      generalize Z[k] = x at *
      generalize Z[k - 1] = y at *
      generalize k - 1 = k' at *
      simp (implicitDefEqProofs := false) only [↓reduceIte, go_sem, oread, owrite, Nat.reduceAdd, Nat.reduceSub, Nat.reduceMul, Nat.reduceLT, Nat.reduceLeDiff, Nat.reduceEqDiff, Nat.reduceBEq, Int.reduceLE, Int.reduceLT, Int.reduceEq, Int.reduceNe, Int.reduceAdd, Int.reduceSub, Int.reduceMul, Int.reduceNeg, Int.reduceToNat, Int.reduceNatCast, reduceCtorEq, eq_self, t12, t14, hk, List.length_map]
      refine awp_draw K.mixed (by kernel_rfl) ?_
      simp (implicitDefEqProofs := false) only [↓reduceIte, go_sem, oread, owrite, Nat.reduceAdd, Nat.reduceSub, Nat.reduceMul, Nat.reduceLT, Nat.reduceLeDiff, Nat.reduceEqDiff, Nat.reduceBEq, Int.reduceLE, Int.reduceLT, Int.reduceEq, Int.reduceNe, Int.reduceAdd, Int.reduceSub, Int.reduceMul, Int.reduceNeg, Int.reduceToNat, Int.reduceNatCast, reduceCtorEq, eq_self, t12, t13, t14, hk, hk', hx, hy, Val.enc, g1, p1, w1]
      refine KCall.ok (vcmp05_does y x g4 _) ?_
      simp (implicitDefEqProofs := false) only [↓reduceIte, go_sem, oread, owrite, Nat.reduceAdd, Nat.reduceSub, Nat.reduceMul, Nat.reduceLT, Nat.reduceLeDiff, Nat.reduceEqDiff, Nat.reduceBEq, Int.reduceLE, Int.reduceLT, Int.reduceEq, Int.reduceNe, Int.reduceAdd, Int.reduceSub, Int.reduceMul, Int.reduceNeg, Int.reduceToNat, Int.reduceNatCast, reduceCtorEq, eq_self, show (0 ≤ cmpV y x) = False from eq_false (by omega), t12, t13, t14, hx, hk, Val.enc]
      refine KCall.ok (in_does X x false _ (by omega)) ?_
      simp (implicitDefEqProofs := false) only [↓reduceIte, go_sem, oread, owrite, Nat.reduceAdd, Nat.reduceSub, Nat.reduceMul, Nat.reduceLT, Nat.reduceLeDiff, Nat.reduceEqDiff, Nat.reduceBEq, Int.reduceLE, Int.reduceLT, Int.reduceEq, Int.reduceNe, Int.reduceAdd, Int.reduceSub, Int.reduceMul, Int.reduceNeg, Int.reduceToNat, Int.reduceNatCast, reduceCtorEq, eq_self, g2, t14]
      refine Rnd.same ⟨rfl, ?_⟩
      simp (implicitDefEqProofs := false) only [↓reduceIte, go_sem, oread, owrite, Nat.reduceAdd, Nat.reduceSub, Nat.reduceMul, Nat.reduceLT, Nat.reduceLeDiff, Nat.reduceEqDiff, Nat.reduceBEq, Int.reduceLE, Int.reduceLT, Int.reduceEq, Int.reduceNe, Int.reduceAdd, Int.reduceSub, Int.reduceMul, Int.reduceNeg, Int.reduceToNat, Int.reduceNatCast, reduceCtorEq, eq_self, t2, t9, t10, t11, t12, t13, hw]
  · rintro s H' ⟨rfl, t2, t9, t10, t11, t12, t13, t14⟩
    simp (implicitDefEqProofs := false) only [↓reduceIte, go_sem, oread, owrite, Nat.reduceAdd, Nat.reduceSub, Nat.reduceMul, Nat.reduceLT, Nat.reduceLeDiff, Nat.reduceEqDiff, Nat.reduceBEq, Int.reduceLE, Int.reduceLT, Int.reduceEq, Int.reduceNe, Int.reduceAdd, Int.reduceSub, Int.reduceMul, Int.reduceNeg, Int.reduceToNat, Int.reduceNatCast, reduceCtorEq, eq_self, t2, t10, t11, t12, t14, List.length_map]
    refine KCall.sub (.cons (.refl _) (.cons (.refl _) (.cons .nil .nil))) (hM _) ?_
    simp (implicitDefEqProofs := false) only [↓reduceIte, go_sem, oread, owrite, Nat.reduceAdd, Nat.reduceSub, Nat.reduceMul, Nat.reduceLT, Nat.reduceLeDiff, Nat.reduceEqDiff, Nat.reduceBEq, Int.reduceLE, Int.reduceLT, Int.reduceEq, Int.reduceNe, Int.reduceAdd, Int.reduceSub, Int.reduceMul, Int.reduceNeg, Int.reduceToNat, Int.reduceNatCast, reduceCtorEq, eq_self]
    refine awp_for3 (fun k s H2 => H2 = H' ∧ s 2 = iA c ∧ s 9 = bA true ∧ s 10 = .d (.list false (rowsD a)) ∧ s 12 = .d (.list false (Z.map Val.enc)) ∧ s 13 = .d (.list false (X.map Val.enc)) ∧ s 15 = .d (.list false (M.map Val.enc)) ∧ s 16 = iA k) M.length (by omega) (Weak.refl _ _) ?_ ?_ ?_
    · simp (implicitDefEqProofs := false) only [↓reduceIte, go_sem, oread, owrite, Nat.reduceAdd, Nat.reduceSub, Nat.reduceMul, Nat.reduceLT, Nat.reduceLeDiff, Nat.reduceEqDiff, Nat.reduceBEq, Int.reduceLE, Int.reduceLT, Int.reduceEq, Int.reduceNe, Int.reduceAdd, Int.reduceSub, Int.reduceMul, Int.reduceNeg, Int.reduceToNat, Int.reduceNatCast, reduceCtorEq, eq_self, t2, t9, t10, t12, t13]
    · rintro k s H' hk hw ⟨rfl, t2, t9, t10, t12, t13, t15, t16⟩
      have hx := List.getElem?_eq_getElem hk
      have g2 := k3 _ (List.getElem_mem hk)
      generalize M[k] = x at *
      simp (implicitDefEqProofs := false) only [↓reduceIte, go_sem, oread, owrite, Nat.reduceAdd, Nat.reduceSub, Nat.reduceMul, Nat.reduceLT, Nat.reduceLeDiff, Nat.reduceEqDiff, Nat.reduceBEq, Int.reduceLE, Int.reduceLT, Int.reduceEq, Int.reduceNe, Int.reduceAdd, Int.reduceSub, Int.reduceMul, Int.reduceNeg, Int.reduceToNat, Int.reduceNatCast, reduceCtorEq, eq_self, t13, t15, t16, hk, hx, Val.enc, List.length_map]
      refine KCall.ok (in_does X x false _ (by omega)) ?_
      simp (implicitDefEqProofs := false) only [↓reduceIte, go_sem, oread, owrite, Nat.reduceAdd, Nat.reduceSub, Nat.reduceMul, Nat.reduceLT, Nat.reduceLeDiff, Nat.reduceEqDiff, Nat.reduceBEq, Int.reduceLE, Int.reduceLT, Int.reduceEq, Int.reduceNe, Int.reduceAdd, Int.reduceSub, Int.reduceMul, Int.reduceNeg, Int.reduceToNat, Int.reduceNatCast, reduceCtorEq, eq_self, g2, t16]
      refine Rnd.same ⟨rfl, ?_⟩
      simp (implicitDefEqProofs := false) only [↓reduceIte, go_sem, oread, owrite, Nat.reduceAdd, Nat.reduceSub, Nat.reduceMul, Nat.reduceLT, Nat.reduceLeDiff, Nat.reduceEqDiff, Nat.reduceBEq, Int.reduceLE, Int.reduceLT, Int.reduceEq, Int.reduceNe, Int.reduceAdd, Int.reduceSub, Int.reduceMul, Int.reduceNeg, Int.reduceToNat, Int.reduceNatCast, reduceCtorEq, eq_self, t2, t9, t10, t12, t13, t15, hw]
    · rintro s H' ⟨rfl, t2, t9, t10, t12, t13, t15, t16⟩
      simp (implicitDefEqProofs := false) only [↓reduceIte, go_sem, oread, owrite, Nat.reduceAdd, Nat.reduceSub, Nat.reduceMul, Nat.reduceLT, Nat.reduceLeDiff, Nat.reduceEqDiff, Nat.reduceBEq, Int.reduceLE, Int.reduceLT, Int.reduceEq, Int.reduceNe, Int.reduceAdd, Int.reduceSub, Int.reduceMul, Int.reduceNeg, Int.reduceToNat, Int.reduceNatCast, reduceCtorEq, eq_self, t2, t9, t10, t12, t13, t15, t16, List.length_map]
      refine KCall.sub (.cons (.refl _) (.cons (.refl _) (.cons .nil .nil))) (hA _) ?_
      simp (implicitDefEqProofs := false) only [↓reduceIte, go_sem, oread, owrite, Nat.reduceAdd, Nat.reduceSub, Nat.reduceMul, Nat.reduceLT, Nat.reduceLeDiff, Nat.reduceEqDiff, Nat.reduceBEq, Int.reduceLE, Int.reduceLT, Int.reduceEq, Int.reduceNe, Int.reduceAdd, Int.reduceSub, Int.reduceMul, Int.reduceNeg, Int.reduceToNat, Int.reduceNatCast, reduceCtorEq, eq_self, t2, t10, t13, t15, List.length_map, show ((Z.length : Int) ≤ (Y.length : Int)) = True from eq_true (by omega)]
      refine KCall.sub (.cons (.refl _) (.cons (.refl _) (.cons .nil .nil))) (hA _) ?_
      have w2 : IntKind.i64.wrap ((M.length : Int) + (Y.length : Int)) = (M.length : Int) + (Y.length : Int) := wrap64_in _ (by omega) (by omega)
      simp (implicitDefEqProofs := false) only [↓reduceIte, go_sem, oread, owrite, Nat.reduceAdd, Nat.reduceSub, Nat.reduceMul, Nat.reduceLT, Nat.reduceLeDiff, Nat.reduceEqDiff, Nat.reduceBEq, Int.reduceLE, Int.reduceLT, Int.reduceEq, Int.reduceNe, Int.reduceAdd, Int.reduceSub, Int.reduceMul, Int.reduceNeg, Int.reduceToNat, Int.reduceNatCast, reduceCtorEq, eq_self, List.length_map, w2, show ((X.length : Int) ≤ (M.length : Int) + (Y.length : Int)) = True from eq_true (by omega)]
      refine AEnd.ret0 ?_
      simp (implicitDefEqProofs := false) only [↓reduceIte, go_sem, oread, owrite, Nat.reduceAdd, Nat.reduceSub, Nat.reduceMul, Nat.reduceLT, Nat.reduceLeDiff, Nat.reduceEqDiff, Nat.reduceBEq, Int.reduceLE, Int.reduceLT, Int.reduceEq, Int.reduceNe, Int.reduceAdd, Int.reduceSub, Int.reduceMul, Int.reduceNeg, Int.reduceToNat, Int.reduceNatCast, reduceCtorEq, eq_self]
theorem amongRows_does (x0 : AV) (h0 : ArgOk Try.prog 24 x0) (x1 : AV) (h1 : ArgOk Try.prog 24 x1) (x2 : AV) (h2 : ArgOk Try.prog 3 x2) (x3 : AV) (h3 : ArgOk Try.prog 36 x3) : Does Try.prog 4 [x0, x1, x2, x3] [] (.ok (.d (.v (.bool true)))) [] := by
  obtain ⟨R, rfl, hR⟩ := argRows19 h0
  obtain ⟨R2, rfl, hR2⟩ := argRows19 h1
  obtain ⟨c, rfl, hc⟩ := argInt19 h2
  obtain ⟨l, rfl, hl, _⟩ := argAtoms19 h3
  exact amongRows_walk R R2 c l hR hR2 hl []
end Go.Proofs.Ytfmmemboakdeiaa

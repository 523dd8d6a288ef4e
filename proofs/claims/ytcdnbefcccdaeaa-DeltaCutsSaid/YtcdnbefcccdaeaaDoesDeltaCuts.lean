/- The law DeltaCuts: what it does. -/
import Derived.Test.YtcdnbefcccdaeaaDoesDeltaBack
namespace Go.Proofs.Ytcdnbefcccdaeaa
open Go.Proofs.YtcdnbefcccdaeaaAw Go.RowKit
set_option linter.unusedVariables false
set_option linter.unusedSimpArgs false
/-! ### Cut bytes -/
theorem bytesD_front (k v : List Val) (t : List Nat) (hk : k ≠ []) (hlen : k.length = v.length) (ok : ∀ x ∈ k, I64 x.i) (ov : ∀ x ∈ v, I64 x.i) (h : bytesD k ++ t = bytesD v) : t = [] := by
  cases k with
  | nil => exact absurd rfl hk
  | cons a k =>
    cases v with
    | nil => simp at hlen
    | cons b v =>
      have ha := ok a (by simp)
      have hb := ov b (by simp)
      have za := zigP_lt ha.1 ha.2
      have zb := zigP_lt hb.1 hb.2
      have wa := widthP_le (stepsP_lt (a :: k))
      have wb := widthP_le (stepsP_lt (b :: v))
      have la := stepsP_len (a :: k)
      have lb := stepsP_len (b :: v)
      rw [bytesD_cons, bytesD_cons, List.append_assoc] at h
      have h1 := getP_put (zigP a.i) za ((putP (widthP (stepsP (a :: k))) ++ packP (stepsP (a :: k)) (widthP (stepsP (a :: k)))) ++ t)
      rw [h, getP_put _ zb] at h1
      have hz : zigP b.i = zigP a.i := congrArg Prod.fst h1
      rw [hz] at h
      have h := List.append_cancel_left h
      rw [List.append_assoc] at h
      have h2 := getP_put (widthP (stepsP (a :: k))) (by omega) (packP (stepsP (a :: k)) (widthP (stepsP (a :: k))) ++ t)
      rw [h, getP_put _ (by omega)] at h2
      have hw : widthP (stepsP (b :: v)) = widthP (stepsP (a :: k)) := congrArg Prod.fst h2
      rw [hw] at h
      have h := congrArg List.length (List.append_cancel_left h)
      rw [List.length_append, packP, packP, packB_len, packB_len, bitsL_len, bitsL_len, la, lb, hlen] at h
      exact List.eq_nil_of_length_eq_zero (by omega)
theorem of_cut (v : List Val) (c : Nat) (hv : v ≠ []) (hok : ∀ x ∈ v, I64 x.i) (hc : c < (bytesD v).length) : (ofR ((bytesD v).take c) v.length).2 ≠ 0 := by
  intro he
  have hb : ∀ x ∈ (bytesD v).take c, x < 256 := fun x hx => bytesD_byte2 v hok x (List.mem_of_mem_take hx)
  obtain ⟨g1, g2, g3, g4⟩ := ofR_ok _ _ hb he
  have hl : (valsK ((bytesD v).take c) v.length).length = v.length := by omega
  have hne : valsK ((bytesD v).take c) v.length ≠ [] := by
    intro e
    rw [e] at hl
    exact hv (List.eq_nil_of_length_eq_zero hl.symm)
  have ht := bytesD_front _ v ((bytesD v).drop c) hne hl g4 hok (by rw [g1, List.take_append_drop])
  have := congrArg List.length ht
  rw [List.length_drop] at this
  simp at this
  omega
/-! ### Rising both ways -/
theorem cmp_num (a b : Int) : cmpV (num10 a) (num10 b) ≤ 0 ↔ a ≤ b := by
  simp only [cmpV, num10]
  simp [cmpI, ordI]
  omega
theorem sorted_num (l : List Int) : sortedP (l.map num10) = true ↔ ∀ (k : Nat) x y, l[k]? = some x → l[k + 1]? = some y → x ≤ y := by
  rw [sortedP_iff]
  constructor
  · intro h k x y hx hy
    exact (cmp_num x y).1 (h k _ _ (by simp [hx]) (by simp [hy]))
  · intro h k x y hx hy
    rw [List.getElem?_map] at hx hy
    obtain ⟨a, ha, rfl⟩ := Option.map_eq_some_iff.1 hx
    obtain ⟨b, hb, rfl⟩ := Option.map_eq_some_iff.1 hy
    exact (cmp_num a b).2 (h k a b ha hb)
theorem both_alike (l : List Int) (x0 : Int) (h0 : l[0]? = some x0) : (sortedP (l.map num10) && sortedP (l.reverse.map num10)) = l.all (fun x => x == x0) := by
  rw [Bool.eq_iff_iff, Bool.and_eq_true, List.all_eq_true]
  constructor
  · rintro ⟨h1, h2⟩
    rw [sorted_num] at h1 h2
    have step : ∀ (k : Nat) x y, l[k]? = some x → l[k + 1]? = some y → x = y := by
      intro k x y hx hy
      have hlt := (List.getElem?_eq_some_iff.1 hy).1
      have := h2 (l.length - 1 - (k + 1)) y x (by rw [List.getElem?_reverse (by omega), show l.length - 1 - (l.length - 1 - (k + 1)) = k + 1 by omega]; exact hy)
        (by rw [List.getElem?_reverse (by omega), show l.length - 1 - (l.length - 1 - (k + 1) + 1) = k by omega]; exact hx)
      have := h1 k x y hx hy
      omega
    have all : ∀ (k : Nat) x, l[k]? = some x → x = x0 := by
      intro k
      induction k with
      | zero => intro x hx; rw [h0] at hx; cases hx; rfl
      | succ k ih =>
        intro x hx
        have hlt := (List.getElem?_eq_some_iff.1 hx).1
        have hp := List.getElem?_eq_getElem (show k < l.length by omega)
        rw [← step k _ x hp hx]
        exact ih _ hp
    intro x hx
    obtain ⟨k, hk⟩ := List.getElem?_of_mem hx
    simpa using all k x hk
  · intro h
    have all : ∀ (k : Nat) x, l[k]? = some x → x = x0 := fun k x hx => by simpa using h x (List.mem_of_getElem? hx)
    rw [sorted_num, sorted_num]
    refine ⟨fun k x y hx hy => by rw [all k x hx, all (k + 1) y hy]; exact Int.le_refl _, fun k x y hx hy => ?_⟩
    have e1 : x = x0 := by simpa using h x (List.mem_reverse.1 (List.mem_of_getElem? hx))
    have e2 : y = x0 := by simpa using h y (List.mem_reverse.1 (List.mem_of_getElem? hy))
    rw [e1, e2]; exact Int.le_refl _
set_option maxRecDepth 10000 in
set_option maxHeartbeats 1000000 in
theorem deltaCuts_walk (l : List Int) (c : Nat) (hl : l.length ≤ 140737488355328) (hi : ∀ n ∈ l, I64 n) (hc : c ≤ 65535) (H : AHeap) :
    Does Try.prog 7 [.d (.list false (ints l)), .d (.v (.int .u16 c))] H (.ok (bA true)) H := by
  refine Does.of_awp (hint := (fun t => t == 1000013)) Try.func7 (by kernel_rfl) rfl [4] (by kernel_rfl) (by decide) (by simp [Try.ntmps7]) ?_
  rw [Try.ntmps7]
  simp (implicitDefEqProofs := false) only [↓reduceIte, go_sem, oread, owrite, Nat.reduceAdd, Nat.reduceSub, Nat.reduceMul, Nat.reduceLT, Nat.reduceLeDiff, Nat.reduceEqDiff, Nat.reduceBEq, Int.reduceLE, Int.reduceLT, Int.reduceEq, Int.reduceNe, Int.reduceAdd, Int.reduceSub, Int.reduceMul, Int.reduceNeg, Int.reduceToNat, Int.reduceNatCast, reduceCtorEq, eq_self]
  refine KCall.ok (shown10_does _) ?_
  by_cases h1 : 500 < l.length
  · simp (implicitDefEqProofs := false) only [↓reduceIte, go_sem, oread, owrite, Nat.reduceAdd, Nat.reduceSub, Nat.reduceMul, Nat.reduceLT, Nat.reduceLeDiff, Nat.reduceEqDiff, Nat.reduceBEq, Int.reduceLE, Int.reduceLT, Int.reduceEq, Int.reduceNe, Int.reduceAdd, Int.reduceSub, Int.reduceMul, Int.reduceNeg, Int.reduceToNat, Int.reduceNatCast, reduceCtorEq, eq_self, ints_len, show ((500 : Int) < (l.length : Int)) = True from eq_true (by omega)]
    refine AEnd.ret0 ?_
    simp (implicitDefEqProofs := false) only [↓reduceIte, go_sem, oread, owrite, Nat.reduceAdd, Nat.reduceSub, Nat.reduceMul, Nat.reduceLT, Nat.reduceLeDiff, Nat.reduceEqDiff, Nat.reduceBEq, Int.reduceLE, Int.reduceLT, Int.reduceEq, Int.reduceNe, Int.reduceAdd, Int.reduceSub, Int.reduceMul, Int.reduceNeg, Int.reduceToNat, Int.reduceNatCast, reduceCtorEq, eq_self]
  by_cases h2 : l.length = 0
  · simp (implicitDefEqProofs := false) only [↓reduceIte, go_sem, oread, owrite, Nat.reduceAdd, Nat.reduceSub, Nat.reduceMul, Nat.reduceLT, Nat.reduceLeDiff, Nat.reduceEqDiff, Nat.reduceBEq, Int.reduceLE, Int.reduceLT, Int.reduceEq, Int.reduceNe, Int.reduceAdd, Int.reduceSub, Int.reduceMul, Int.reduceNeg, Int.reduceToNat, Int.reduceNatCast, reduceCtorEq, eq_self, ints_len, show ((500 : Int) < (l.length : Int)) = False from eq_false (by omega), show ((l.length : Int) = 0) = True from eq_true (by omega)]
    refine AEnd.ret0 ?_
    simp (implicitDefEqProofs := false) only [↓reduceIte, go_sem, oread, owrite, Nat.reduceAdd, Nat.reduceSub, Nat.reduceMul, Nat.reduceLT, Nat.reduceLeDiff, Nat.reduceEqDiff, Nat.reduceBEq, Int.reduceLE, Int.reduceLT, Int.reduceEq, Int.reduceNe, Int.reduceAdd, Int.reduceSub, Int.reduceMul, Int.reduceNeg, Int.reduceToNat, Int.reduceNatCast, reduceCtorEq, eq_self]
  obtain ⟨x0, hx0⟩ : ∃ x0, l[0]? = some x0 := ⟨_, List.getElem?_eq_getElem (by omega)⟩
  have hi0 := ints_get l 0 (by omega)
  rw [show l[0]'(by omega) = x0 from (List.getElem?_eq_some_iff.1 hx0).2] at hi0
  simp (implicitDefEqProofs := false) only [↓reduceIte, go_sem, oread, owrite, Nat.reduceAdd, Nat.reduceSub, Nat.reduceMul, Nat.reduceLT, Nat.reduceLeDiff, Nat.reduceEqDiff, Nat.reduceBEq, Int.reduceLE, Int.reduceLT, Int.reduceEq, Int.reduceNe, Int.reduceAdd, Int.reduceSub, Int.reduceMul, Int.reduceNeg, Int.reduceToNat, Int.reduceNatCast, reduceCtorEq, eq_self, ints_len, show ((500 : Int) < (l.length : Int)) = False from eq_false (by omega), show ((l.length : Int) = 0) = False from eq_false (by omega)]
  refine awp_for3 (fun k s H' => H' = H ++ [.arr 26 3 k (((l.take k).map num10).map Val.enc), .arr 26 3 k (((l.reverse.take k).map num10).map Val.enc)] ∧ s 0 = .d (.list false (ints l)) ∧ s 1 = .d (.v (.int .u16 c)) ∧ s 5 = bA true ∧ s 6 = .sl H.length k 0 k ∧ s 7 = .sl (H.length + 1) k 0 k ∧ s 8 = bA ((l.take k).all (fun x => x == x0)) ∧ s 9 = iA k) l.length (by omega)
    ((Weak.virt1 _ _ 6 26 3 (by decide) (by simp (implicitDefEqProofs := false) only [↓reduceIte, go_sem, oread, owrite, Nat.reduceAdd, Nat.reduceSub, Nat.reduceMul, Nat.reduceLT, Nat.reduceLeDiff, Nat.reduceEqDiff, Nat.reduceBEq, Int.reduceLE, Int.reduceLT, Int.reduceEq, Int.reduceNe, Int.reduceAdd, Int.reduceSub, Int.reduceMul, Int.reduceNeg, Int.reduceToNat, Int.reduceNatCast, reduceCtorEq, eq_self]) _).trans (Weak.virt1 _ _ 7 26 3 (by decide) (by simp (implicitDefEqProofs := false) only [↓reduceIte, go_sem, oread, owrite, Nat.reduceAdd, Nat.reduceSub, Nat.reduceMul, Nat.reduceLT, Nat.reduceLeDiff, Nat.reduceEqDiff, Nat.reduceBEq, Int.reduceLE, Int.reduceLT, Int.reduceEq, Int.reduceNe, Int.reduceAdd, Int.reduceSub, Int.reduceMul, Int.reduceNeg, Int.reduceToNat, Int.reduceNatCast, reduceCtorEq, eq_self]) _)) ?_ ?_ ?_
  · refine ⟨by simp, ?_⟩
    simp (implicitDefEqProofs := false) only [↓reduceIte, go_sem, oread, owrite, Nat.reduceAdd, Nat.reduceSub, Nat.reduceMul, Nat.reduceLT, Nat.reduceLeDiff, Nat.reduceEqDiff, Nat.reduceBEq, Int.reduceLE, Int.reduceLT, Int.reduceEq, Int.reduceNe, Int.reduceAdd, Int.reduceSub, Int.reduceMul, Int.reduceNeg, Int.reduceToNat, Int.reduceNatCast, reduceCtorEq, eq_self, List.append_assoc, List.take_zero, List.all_nil]
  · rintro k s H' hk hw ⟨rfl, t0, t1, t5, t6, t7, t8, t9⟩
    have hx := ints_get l k hk
    have hr : l.length - 1 - k < l.length := by omega
    have hx2 := ints_get l _ hr
    have e1 : l.take (k + 1) = l.take k ++ [l[k]] := List.take_succ_eq_append_getElem hk
    have e2 : l.reverse.take (k + 1) = l.reverse.take k ++ [l[l.length - 1 - k]] := by rw [List.take_succ_eq_append_getElem (by simpa using hk), List.getElem_reverse]
    have e5 : ((l.take k).map num10).length = k := by simp; omega
    have e6 : ((l.reverse.take k).map num10).length = k := by simp; omega
    rw [e1, e2]
    generalize l[k] = x at hx
    generalize l[l.length - 1 - k] = y at hx2
    rw [List.all_append]
    generalize (l.take k).all (fun x => x == x0) = al at *
    generalize l.take k = A at *
    generalize l.reverse.take k = B at *
    have w1 : IntKind.i64.wrap ((l.length : Int) - 1) = (l.length : Int) - 1 := wrap64_in _ (by omega) (by omega)
    have w2 : IntKind.i64.wrap ((l.length : Int) - 1 - (k : Int)) = ((l.length - 1 - k : Nat) : Int) := by rw [wrap64_in _ (by omega) (by omega)]; omega
    generalize l.length - 1 - k = j at *
    have q1 : (A.map num10).map Val.enc ++ [(num10 x).enc] = ((A ++ [x]).map num10).map Val.enc := by simp
    have q2 : (B.map num10).map Val.enc ++ [(num10 y).enc] = ((B ++ [y]).map num10).map Val.enc := by simp
    have z0 : ((0 : Int) < (l.length : Int)) = True := eq_true (by omega)
    simp only [Val.enc, num10, noS] at q1 q2
    simp (implicitDefEqProofs := false) only [↓reduceIte, go_sem, oread, owrite, Nat.reduceAdd, Nat.reduceSub, Nat.reduceMul, Nat.reduceLT, Nat.reduceLeDiff, Nat.reduceEqDiff, Nat.reduceBEq, Int.reduceLE, Int.reduceLT, Int.reduceEq, Int.reduceNe, Int.reduceAdd, Int.reduceSub, Int.reduceMul, Int.reduceNeg, Int.reduceToNat, Int.reduceNatCast, reduceCtorEq, eq_self, t0, t6, t7, t8, t9, hk, ints_len, hx, e5, e6, w1, w2, hr, hx2]
    refine ⟨by omega, by omega, by omega, by omega, ?_⟩
    refine awp_draw K.mixed (by kernel_rfl) ?_
    cases al
    · simp (implicitDefEqProofs := false) only [↓reduceIte, go_sem, oread, owrite, Nat.reduceAdd, Nat.reduceSub, Nat.reduceMul, Nat.reduceLT, Nat.reduceLeDiff, Nat.reduceEqDiff, Nat.reduceBEq, Int.reduceLE, Int.reduceLT, Int.reduceEq, Int.reduceNe, Int.reduceAdd, Int.reduceSub, Int.reduceMul, Int.reduceNeg, Int.reduceToNat, Int.reduceNatCast, reduceCtorEq, eq_self, t0, t8, t9]
      refine Rnd.same ⟨?_, ?_⟩
      · simp (implicitDefEqProofs := false) only [↓reduceIte, go_sem, oread, owrite, Nat.reduceAdd, Nat.reduceSub, Nat.reduceMul, Nat.reduceLT, Nat.reduceLeDiff, Nat.reduceEqDiff, Nat.reduceBEq, Int.reduceLE, Int.reduceLT, Int.reduceEq, Int.reduceNe, Int.reduceAdd, Int.reduceSub, Int.reduceMul, Int.reduceNeg, Int.reduceToNat, Int.reduceNatCast, reduceCtorEq, eq_self, q1, q2, num10, noS]
      · simp (implicitDefEqProofs := false) only [↓reduceIte, go_sem, oread, owrite, Nat.reduceAdd, Nat.reduceSub, Nat.reduceMul, Nat.reduceLT, Nat.reduceLeDiff, Nat.reduceEqDiff, Nat.reduceBEq, Int.reduceLE, Int.reduceLT, Int.reduceEq, Int.reduceNe, Int.reduceAdd, Int.reduceSub, Int.reduceMul, Int.reduceNeg, Int.reduceToNat, Int.reduceNatCast, reduceCtorEq, eq_self, t0, t1, t5, hw, Bool.false_and]
    · simp (implicitDefEqProofs := false) only [↓reduceIte, go_sem, oread, owrite, Nat.reduceAdd, Nat.reduceSub, Nat.reduceMul, Nat.reduceLT, Nat.reduceLeDiff, Nat.reduceEqDiff, Nat.reduceBEq, Int.reduceLE, Int.reduceLT, Int.reduceEq, Int.reduceNe, Int.reduceAdd, Int.reduceSub, Int.reduceMul, Int.reduceNeg, Int.reduceToNat, Int.reduceNatCast, reduceCtorEq, eq_self, t0, t8, t9, ints_len, hx, hi0, hk, z0]
      refine Rnd.same ⟨?_, ?_⟩
      · simp (implicitDefEqProofs := false) only [↓reduceIte, go_sem, oread, owrite, Nat.reduceAdd, Nat.reduceSub, Nat.reduceMul, Nat.reduceLT, Nat.reduceLeDiff, Nat.reduceEqDiff, Nat.reduceBEq, Int.reduceLE, Int.reduceLT, Int.reduceEq, Int.reduceNe, Int.reduceAdd, Int.reduceSub, Int.reduceMul, Int.reduceNeg, Int.reduceToNat, Int.reduceNatCast, reduceCtorEq, eq_self, q1, q2, num10, noS]
      · simp (implicitDefEqProofs := false) only [↓reduceIte, go_sem, oread, owrite, Nat.reduceAdd, Nat.reduceSub, Nat.reduceMul, Nat.reduceLT, Nat.reduceLeDiff, Nat.reduceEqDiff, Nat.reduceBEq, Int.reduceLE, Int.reduceLT, Int.reduceEq, Int.reduceNe, Int.reduceAdd, Int.reduceSub, Int.reduceMul, Int.reduceNeg, Int.reduceToNat, Int.reduceNatCast, reduceCtorEq, eq_self, t0, t1, t5, hw, Bool.true_and, List.all_cons, List.all_nil, Bool.and_true]
  · rintro s H' ⟨rfl, t0, t1, t5, t6, t7, t8, t9⟩
    have m1 : (l.take l.length).map num10 = l.map num10 := by rw [List.take_length]
    have m2 : (l.reverse.take l.length).map num10 = l.reverse.map num10 := by rw [List.take_of_length_le (by simp)]
    have hok : ∀ v ∈ l.map num10, I64 v.i := fun v hv => by obtain ⟨x, hx, rfl⟩ := List.mem_map.1 hv; exact hi x hx
    have hnum : ∀ v ∈ l.map num10, v = num10 v.i := fun v hv => by obtain ⟨x, _, rfl⟩ := List.mem_map.1 hv; rfl
    have hml : (l.map num10).length = l.length := by simp
    have hmr : (l.reverse.map num10).length = l.length := by simp
    have hne : l.map num10 ≠ [] := by intro e; rw [e] at hml; simp at hml; omega
    have hpl : plainP (l.map num10) 1 = 0 := plainP_num (fun v hv => ⟨_, hnum v hv⟩) (by omega)
    have d1 := dbytesL_does (l.map num10) hpl hok H
    have hbl := bytesD_len (l.map num10) (by omega) hok
    have hbb := bytesD_byte2 _ hok
    have hpos : 0 < (bytesD (l.map num10)).length := by
      cases hl2 : l.map num10 with
      | nil => exact absurd hl2 hne
      | cons v r => rw [bytesD_cons, List.length_append]; have : 0 < (putP (zigP v.i)).length := by rw [putP]; split <;> simp
                    omega
    have hcut := of_cut (l.map num10) (c % (bytesD (l.map num10)).length) hne hok (Nat.mod_lt _ hpos)
    have d2 := ofL_does ((bytesD (l.map num10)).take (c % (bytesD (l.map num10)).length)) (l.map num10).length false (by rw [List.length_take]; omega) (fun x hx => hbb x (List.mem_of_mem_take hx)) H
    have d3 := sorted_does (l.map num10) false H (by omega)
    have d4 := sorted_does (l.reverse.map num10) false H (by omega)
    have hba := both_alike l x0 hx0
    have hal : l.take l.length = l := List.take_length
    have hdec : (l.all fun x => x == x0) = (l.all fun x => decide (x = x0)) := by congr 1
    rw [hdec] at hba
    rw [hml] at d2 hcut
    simp (implicitDefEqProofs := false) only [↓reduceIte, go_sem, oread, owrite, Nat.reduceAdd, Nat.reduceSub, Nat.reduceMul, Nat.reduceLT, Nat.reduceLeDiff, Nat.reduceEqDiff, Nat.reduceBEq, Int.reduceLE, Int.reduceLT, Int.reduceEq, Int.reduceNe, Int.reduceAdd, Int.reduceSub, Int.reduceMul, Int.reduceNeg, Int.reduceToNat, Int.reduceNatCast, reduceCtorEq, eq_self, t0, t9, ints_len]
    refine ⟨_, _, Weak.drop H _ _, ?_⟩
    simp (implicitDefEqProofs := false) only [↓reduceIte, go_sem, oread, owrite, Nat.reduceAdd, Nat.reduceSub, Nat.reduceMul, Nat.reduceLT, Nat.reduceLeDiff, Nat.reduceEqDiff, Nat.reduceBEq, Int.reduceLE, Int.reduceLT, Int.reduceEq, Int.reduceNe, Int.reduceAdd, Int.reduceSub, Int.reduceMul, Int.reduceNeg, Int.reduceToNat, Int.reduceNatCast, reduceCtorEq, eq_self, t6, take_len, m1, hml]
    refine KCall.ok d1 ?_
    have hB0 : (((bytesD (l.map num10)).length : Int) = 0) = False := eq_false (by omega)
    have hmod : Int.tmod (c : Int) ((bytesD (l.map num10)).length : Int) = ((c % (bytesD (l.map num10)).length : Nat) : Int) := by rw [Int.tmod_eq_emod_of_nonneg (by omega)]; rfl
    have hmlt := Nat.mod_lt c hpos
    have hwc : IntKind.i64.wrap (c : Int) = (c : Int) := wrap64_in _ (by omega) (by omega)
    generalize bytesD (l.map num10) = B at *
    generalize c % B.length = m at *
    simp (implicitDefEqProofs := false) only [↓reduceIte, go_sem, oread, owrite, Nat.reduceAdd, Nat.reduceSub, Nat.reduceMul, Nat.reduceLT, Nat.reduceLeDiff, Nat.reduceEqDiff, Nat.reduceBEq, Int.reduceLE, Int.reduceLT, Int.reduceEq, Int.reduceNe, Int.reduceAdd, Int.reduceSub, Int.reduceMul, Int.reduceNeg, Int.reduceToNat, Int.reduceNatCast, reduceCtorEq, eq_self, bys_len, hB0, t1, hwc, hmod, bys_one, ne_eq, not_false_eq_true, true_and]
    refine ⟨by omega, ?_⟩
    simp (implicitDefEqProofs := false) only [↓reduceIte, go_sem, oread, owrite, Nat.reduceAdd, Nat.reduceSub, Nat.reduceMul, Nat.reduceLT, Nat.reduceLeDiff, Nat.reduceEqDiff, Nat.reduceBEq, Int.reduceLE, Int.reduceLT, Int.reduceEq, Int.reduceNe, Int.reduceAdd, Int.reduceSub, Int.reduceMul, Int.reduceNeg, Int.reduceToNat, Int.reduceNatCast, reduceCtorEq, eq_self, t6, take_len, m1, hml, take_bys, List.drop_zero]
    refine KCall.ok d2 ?_
    have hcut' : ((ofR (B.take m) (l.length : Int)).2 = 0) = False := eq_false hcut
    simp (implicitDefEqProofs := false) only [↓reduceIte, go_sem, oread, owrite, Nat.reduceAdd, Nat.reduceSub, Nat.reduceMul, Nat.reduceLT, Nat.reduceLeDiff, Nat.reduceEqDiff, Nat.reduceBEq, Int.reduceLE, Int.reduceLT, Int.reduceEq, Int.reduceNe, Int.reduceAdd, Int.reduceSub, Int.reduceMul, Int.reduceNeg, Int.reduceToNat, Int.reduceNatCast, reduceCtorEq, eq_self, t6, take_len, m1, hml]
    refine KCall.ok d3 ?_
    cases hs : sortedP (l.map num10)
    · rw [hs, Bool.false_and] at hba
      simp (implicitDefEqProofs := false) only [↓reduceIte, go_sem, oread, owrite, Nat.reduceAdd, Nat.reduceSub, Nat.reduceMul, Nat.reduceLT, Nat.reduceLeDiff, Nat.reduceEqDiff, Nat.reduceBEq, Int.reduceLE, Int.reduceLT, Int.reduceEq, Int.reduceNe, Int.reduceAdd, Int.reduceSub, Int.reduceMul, Int.reduceNeg, Int.reduceToNat, Int.reduceNatCast, reduceCtorEq, eq_self, t5, t8, hcut', hal]
      refine AEnd.ret0 ?_
      simp (implicitDefEqProofs := false) only [↓reduceIte, go_sem, oread, owrite, Nat.reduceAdd, Nat.reduceSub, Nat.reduceMul, Nat.reduceLT, Nat.reduceLeDiff, Nat.reduceEqDiff, Nat.reduceBEq, Int.reduceLE, Int.reduceLT, Int.reduceEq, Int.reduceNe, Int.reduceAdd, Int.reduceSub, Int.reduceMul, Int.reduceNeg, Int.reduceToNat, Int.reduceNatCast, reduceCtorEq, eq_self]
      rw [← hba]; rfl
    · rw [hs, Bool.true_and] at hba
      simp (implicitDefEqProofs := false) only [↓reduceIte, go_sem, oread, owrite, Nat.reduceAdd, Nat.reduceSub, Nat.reduceMul, Nat.reduceLT, Nat.reduceLeDiff, Nat.reduceEqDiff, Nat.reduceBEq, Int.reduceLE, Int.reduceLT, Int.reduceEq, Int.reduceNe, Int.reduceAdd, Int.reduceSub, Int.reduceMul, Int.reduceNeg, Int.reduceToNat, Int.reduceNatCast, reduceCtorEq, eq_self, t7, take_len, m2, hmr]
      refine KCall.ok d4 ?_
      simp (implicitDefEqProofs := false) only [↓reduceIte, go_sem, oread, owrite, Nat.reduceAdd, Nat.reduceSub, Nat.reduceMul, Nat.reduceLT, Nat.reduceLeDiff, Nat.reduceEqDiff, Nat.reduceBEq, Int.reduceLE, Int.reduceLT, Int.reduceEq, Int.reduceNe, Int.reduceAdd, Int.reduceSub, Int.reduceMul, Int.reduceNeg, Int.reduceToNat, Int.reduceNatCast, reduceCtorEq, eq_self, t5, t8, hcut', hal]
      refine AEnd.ret0 ?_
      simp (implicitDefEqProofs := false) only [↓reduceIte, go_sem, oread, owrite, Nat.reduceAdd, Nat.reduceSub, Nat.reduceMul, Nat.reduceLT, Nat.reduceLeDiff, Nat.reduceEqDiff, Nat.reduceBEq, Int.reduceLE, Int.reduceLT, Int.reduceEq, Int.reduceNe, Int.reduceAdd, Int.reduceSub, Int.reduceMul, Int.reduceNeg, Int.reduceToNat, Int.reduceNatCast, reduceCtorEq, eq_self]
      rw [hba]; simp
theorem argU16C {x : AV} (h : ArgOk Try.prog 36 x) : ∃ n : Nat, x = .d (.v (.int .u16 n)) ∧ n ≤ 65535 := by
  obtain ⟨d, rfl, hf⟩ := arg_one h K.agB36 (sh := .int .u16) (by kernel_rfl)
  obtain ⟨n, rfl, hn⟩ := Fits.int_inv hf
  have hn : IntKind.u16.min ≤ n ∧ n ≤ IntKind.u16.max := by simpa [Lit.wf] using hn
  have h0 : IntKind.u16.min = 0 := by decide
  have h1 : IntKind.u16.max = 65535 := by decide
  obtain ⟨m, rfl⟩ := Int.eq_ofNat_of_zero_le (show 0 ≤ n by omega)
  exact ⟨m, rfl, by omega⟩
theorem deltaCuts_does (x0 : AV) (h0 : ArgOk Try.prog 22 x0) (x1 : AV) (h1 : ArgOk Try.prog 36 x1) : Does Try.prog 7 [x0, x1] [] (.ok (.d (.v (.bool true)))) [] := by
  obtain ⟨l, rfl, hl, hi⟩ := argIntsB h0
  obtain ⟨c, rfl, hc⟩ := argU16C h1
  exact deltaCuts_walk l c (by omega) hi hc []
end Go.Proofs.Ytcdnbefcccdaeaa

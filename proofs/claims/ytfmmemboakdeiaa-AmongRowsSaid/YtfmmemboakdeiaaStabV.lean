/- slices.SortStableFunc over Val: what it does. -/
import Derived.Test.YtfmmemboakdeiaaSymgV
import Derived.Test.YtfmmemboakdeiaaSortB
namespace Go.Proofs.Ytfmmemboakdeiaa
open Go.Proofs.YtfmmemboakdeiaaAw Go.RowKit
set_option linter.unusedVariables false
set_option linter.unusedSimpArgs false
namespace SV
theorem symMerge_does (H : AHeap) (id ver : Nat) (hid : id < H.length) (g : FuncId) (caps : List AV) (c : Val → Val → Int) (ho : St.Ord (ltC c)) (hc : CmpOk g caps c H id) (n : Nat) (hbig : n ≤ 1000000000000) : ∀ (N : Nat) (P X Y Q L L' : List Val) (a m b : Nat), X.length + Y.length ≤ N →
    L = P ++ X ++ Y ++ Q → L' = P ++ St.sortS (ltC c) (X ++ Y) ++ Q → P.length = a → P.length + X.length = m → P.length + X.length + Y.length = b → 0 < X.length → 0 < Y.length → St.Sorted (ltC c) X → St.Sorted (ltC c) Y → L.length = n →
    Does Try.prog 65 [.sl id ver 0 n, iA a, iA m, iA b, .fn g caps] (aH H id ver L) (.ok (.tup [])) (aH H id ver L') := by
  intro N
  induction N with
  | zero => intros; omega
  | succ N ih =>
    intro P X Y Q L L' a m b hN hL hL' ha hm hb hX0 hY0 hX hY hn
    by_cases h1 : X.length = 1
    · exact sym1_does H id ver hid g caps c ho hc n hbig P X Y Q L L' a m b hL hL' ha hm hb hX0 hY0 hX hY hn h1
    · by_cases h2 : Y.length = 1
      · exact sym2_does H id ver hid g caps c ho hc n hbig P X Y Q L L' a m b hL hL' ha hm hb hX0 hY0 hX hY hn h1 h2
      · exact sym3_does H id ver hid g caps c ho hc n hbig P X Y Q L L' a m b hL hL' ha hm hb hX0 hY0 hX hY hn h1 h2 fun P' X' Y' Q' L1 L2 a' m' b' hlt => ih P' X' Y' Q' L1 L2 a' m' b' (by omega)
set_option maxRecDepth 10000 in
set_option maxHeartbeats 4000000 in
theorem stable_does (H : AHeap) (id ver : Nat) (hid : id < H.length) (g : FuncId) (caps : List AV) (c : Val → Val → Int) (ho : St.Ord (ltC c)) (hc : CmpOk g caps c H id) (n : Nat) (hbig : n ≤ 100000000000) (L : List Val) (hn : L.length = n) :
    Does Try.prog 47 [.sl id ver 0 n, iA n, .fn g caps] (aH H id ver L) (.ok (.tup [])) (aH H id ver (St.sortS (ltC c) L)) := by
  generalize hE0 : aH H id ver L = E0
  generalize hE1 : aH H id ver (St.sortS (ltC c) L) = E1
  refine Does.of_awp (hint := (fun _ => false)) Try.func47 (by kernel_rfl) rfl [] (by kernel_rfl) (by decide) (by simp [Try.ntmps47]) ?_
  rw [Try.ntmps47]
  simp (implicitDefEqProofs := false) only [↓reduceIte, go_sem, oread, owrite, Nat.reduceAdd, Nat.reduceSub, Nat.reduceMul, Nat.reduceLT, Nat.reduceLeDiff, Nat.reduceEqDiff, Nat.reduceBEq, Int.reduceLE, Int.reduceLT, Int.reduceEq, Int.reduceNe, Int.reduceAdd, Int.reduceSub, Int.reduceMul, Int.reduceNeg, Int.reduceToNat, Int.reduceNatCast, reduceCtorEq, eq_self]
  refine awp_cutB (fun s H' => (∃ Lk, H' = aH H id ver Lk ∧ St.StEq (ltC c) Lk L ∧ Lk.length = n ∧ (∃ k, k * 20 ≤ n ∧ n < (k + 1) * 20 ∧ (∀ j, j < k → St.Sorted (ltC c) (St.blk 20 j Lk)) ∧ s 7 = iA ((k * 20 : Nat) : Int))) ∧ s 0 = .sl id ver 0 n ∧ s 1 = iA n ∧ s 2 = .fn g caps ∧ s 6 = iA 20) rfl ?_ ?_
  · refine awp_loop _ _ _ _ (fun (k : Nat) s H' => k * 20 ≤ n ∧ (∃ Lk, H' = aH H id ver Lk ∧ St.StEq (ltC c) Lk L ∧ Lk.length = n ∧ ∀ j, j < k → St.Sorted (ltC c) (St.blk 20 j Lk)) ∧ s 0 = .sl id ver 0 n ∧ s 1 = iA n ∧ s 2 = .fn g caps ∧ s 6 = iA 20 ∧ s 7 = iA ((k * 20 : Nat) : Int) ∧ s 8 = iA (((k + 1) * 20 : Nat) : Int)) (fun k => n - k) 0 (Weak.refl _ _) ?_ ?_
    · refine ⟨by omega, ⟨L, hE0.symm, .refl _, hn, fun j hj => by omega⟩, ?_⟩
      simp (implicitDefEqProofs := false) only [↓reduceIte, go_sem, oread, owrite, Nat.reduceAdd, Nat.reduceSub, Nat.reduceMul, Nat.reduceLT, Nat.reduceLeDiff, Nat.reduceEqDiff, Nat.reduceBEq, Int.reduceLE, Int.reduceLT, Int.reduceEq, Int.reduceNe, Int.reduceAdd, Int.reduceSub, Int.reduceMul, Int.reduceNeg, Int.reduceToNat, Int.reduceNatCast, reduceCtorEq, eq_self]
    · rintro k s H' ⟨hk, ⟨Lk, rfl, hst, hlen, hso⟩, t0, t1, t2, t6, t7, t8⟩
      obtain ⟨a, ha⟩ : ∃ a, a = k * 20 := ⟨_, rfl⟩
      obtain ⟨b, hb⟩ : ∃ b, b = (k + 1) * 20 := ⟨_, rfl⟩
      rw [← ha] at t7
      rw [← hb] at t8
      by_cases hbn : b ≤ n
      · obtain ⟨P, hP⟩ : ∃ P, P = Lk.take a := ⟨_, rfl⟩
        obtain ⟨X, hX⟩ : ∃ X, X = (Lk.drop a).take 20 := ⟨_, rfl⟩
        obtain ⟨Q, hQ⟩ : ∃ Q, Q = Lk.drop (a + 20) := ⟨_, rfl⟩
        have hc3 : Lk = P ++ X ++ Q := by rw [hP, hX, hQ, St.cut3]
        have lP : P.length = a := by rw [hP, List.length_take]; omega
        have lX : X.length = 20 := by rw [hX, List.length_take, List.length_drop]; omega
        obtain ⟨L1, hL1⟩ : ∃ L1, L1 = P ++ St.sortS (ltC c) X ++ Q := ⟨_, rfl⟩
        have lL1 : L1.length = n := by rw [hL1, ← hlen, hc3]; simp [St.sortS_len]
        have hso1 : ∀ j, j < k + 1 → St.Sorted (ltC c) (St.blk 20 j L1) := by
          rw [hL1]; exact St.blk_more ho (by omega) (by rw [← hc3]; exact hso) (.inl lX)
        have hst1 : St.StEq (ltC c) L1 L := by
          refine St.StEq.trans ?_ hst
          rw [hL1, hc3]; exact St.steq_part ho P X Q
        have w1 : IntKind.i64.wrap ((b : Int) + 20) = (((k + 1 + 1) * 20 : Nat) : Int) := by rw [wrap64_in _ (by omega) (by omega)]; omega
        obtain ⟨b2, hb2⟩ : ∃ b2, b2 = (k + 1 + 1) * 20 := ⟨_, rfl⟩
        rw [← hb2] at w1
        simp (implicitDefEqProofs := false) only [↓reduceIte, go_sem, oread, owrite, Nat.reduceAdd, Nat.reduceSub, Nat.reduceMul, Nat.reduceLT, Nat.reduceLeDiff, Nat.reduceEqDiff, Nat.reduceBEq, Int.reduceLE, Int.reduceLT, Int.reduceEq, Int.reduceNe, Int.reduceAdd, Int.reduceSub, Int.reduceMul, Int.reduceNeg, Int.reduceToNat, Int.reduceNatCast, reduceCtorEq, eq_self, t1, t8, eq_true hbn]
        simp (implicitDefEqProofs := false) only [↓reduceIte, go_sem, oread, owrite, Nat.reduceAdd, Nat.reduceSub, Nat.reduceMul, Nat.reduceLT, Nat.reduceLeDiff, Nat.reduceEqDiff, Nat.reduceBEq, Int.reduceLE, Int.reduceLT, Int.reduceEq, Int.reduceNe, Int.reduceAdd, Int.reduceSub, Int.reduceMul, Int.reduceNeg, Int.reduceToNat, Int.reduceNatCast, reduceCtorEq, eq_self, t0, t2, t7, t8]
        refine KCall.ok (insSort_does H id ver hid g caps c ho hc P X Q Lk L1 hc3 hL1 a b n lP (by omega) hlen (by omega)) ?_
        simp (implicitDefEqProofs := false) only [↓reduceIte, go_sem, oread, owrite, Nat.reduceAdd, Nat.reduceSub, Nat.reduceMul, Nat.reduceLT, Nat.reduceLeDiff, Nat.reduceEqDiff, Nat.reduceBEq, Int.reduceLE, Int.reduceLT, Int.reduceEq, Int.reduceNe, Int.reduceAdd, Int.reduceSub, Int.reduceMul, Int.reduceNeg, Int.reduceToNat, Int.reduceNatCast, reduceCtorEq, eq_self, t6, t8, w1]
        refine ⟨_, _, k + 1, Weak.refl _ _, ⟨by omega, ⟨L1, rfl, hst1, lL1, hso1⟩, ?_⟩, by omega⟩
        rw [← hb, ← hb2]
        simp (implicitDefEqProofs := false) only [↓reduceIte, go_sem, oread, owrite, Nat.reduceAdd, Nat.reduceSub, Nat.reduceMul, Nat.reduceLT, Nat.reduceLeDiff, Nat.reduceEqDiff, Nat.reduceBEq, Int.reduceLE, Int.reduceLT, Int.reduceEq, Int.reduceNe, Int.reduceAdd, Int.reduceSub, Int.reduceMul, Int.reduceNeg, Int.reduceToNat, Int.reduceNatCast, reduceCtorEq, eq_self, t0, t1, t2, t6]
      · simp (implicitDefEqProofs := false) only [↓reduceIte, go_sem, oread, owrite, Nat.reduceAdd, Nat.reduceSub, Nat.reduceMul, Nat.reduceLT, Nat.reduceLeDiff, Nat.reduceEqDiff, Nat.reduceBEq, Int.reduceLE, Int.reduceLT, Int.reduceEq, Int.reduceNe, Int.reduceAdd, Int.reduceSub, Int.reduceMul, Int.reduceNeg, Int.reduceToNat, Int.reduceNatCast, reduceCtorEq, eq_self, t1, t8, eq_false hbn]
        refine ⟨⟨Lk, rfl, hst, hlen, k, by omega, by omega, hso, ?_⟩, ?_⟩
        · rw [← ha]; simp (implicitDefEqProofs := false) only [↓reduceIte, go_sem, oread, owrite, Nat.reduceAdd, Nat.reduceSub, Nat.reduceMul, Nat.reduceLT, Nat.reduceLeDiff, Nat.reduceEqDiff, Nat.reduceBEq, Int.reduceLE, Int.reduceLT, Int.reduceEq, Int.reduceNe, Int.reduceAdd, Int.reduceSub, Int.reduceMul, Int.reduceNeg, Int.reduceToNat, Int.reduceNatCast, reduceCtorEq, eq_self, t7]
        · simp (implicitDefEqProofs := false) only [↓reduceIte, go_sem, oread, owrite, Nat.reduceAdd, Nat.reduceSub, Nat.reduceMul, Nat.reduceLT, Nat.reduceLeDiff, Nat.reduceEqDiff, Nat.reduceBEq, Int.reduceLE, Int.reduceLT, Int.reduceEq, Int.reduceNe, Int.reduceAdd, Int.reduceSub, Int.reduceMul, Int.reduceNeg, Int.reduceToNat, Int.reduceNatCast, reduceCtorEq, eq_self, t0, t1, t2, t6]
  rintro s H' ⟨⟨Lk, rfl, hst, hlen, k, hk1, hk2, hso, t7⟩, t0, t1, t2, t6⟩
  obtain ⟨a, ha⟩ : ∃ a, a = k * 20 := ⟨_, rfl⟩
  rw [← ha] at t7
  have hc3 : Lk = Lk.take a ++ Lk.drop a ++ [] := by simp
  obtain ⟨L1, hL1⟩ : ∃ L1, L1 = Lk.take a ++ St.sortS (ltC c) (Lk.drop a) ++ [] := ⟨_, rfl⟩
  have lP : (Lk.take a).length = a := by rw [List.length_take]; omega
  have lX : (Lk.drop a).length = n - a := by rw [List.length_drop]; omega
  have lL1 : L1.length = n := by rw [hL1]; simp only [List.length_append, St.sortS_len, lP, lX, List.length_nil]; omega
  have hst1 : St.StEq (ltC c) L1 L := by
    refine St.StEq.trans ?_ hst
    rw [hL1]
    have := St.steq_part ho (Lk.take a) (Lk.drop a) []
    rwa [← hc3] at this
  have hb1 : ∀ j, St.Sorted (ltC c) (St.blk 20 j L1) := by
    intro j
    rcases Nat.lt_or_ge j (k + 1) with h | h
    · rw [hL1]
      exact St.blk_more ho (by omega) (by rw [← hc3]; exact hso) (.inr ⟨by omega, rfl⟩) j h
    · have := Nat.mul_le_mul_right 20 h
      rw [St.blk_out (by omega)]
      exact List.Pairwise.nil
  simp (implicitDefEqProofs := false) only [↓reduceIte, go_sem, oread, owrite, Nat.reduceAdd, Nat.reduceSub, Nat.reduceMul, Nat.reduceLT, Nat.reduceLeDiff, Nat.reduceEqDiff, Nat.reduceBEq, Int.reduceLE, Int.reduceLT, Int.reduceEq, Int.reduceNe, Int.reduceAdd, Int.reduceSub, Int.reduceMul, Int.reduceNeg, Int.reduceToNat, Int.reduceNatCast, reduceCtorEq, eq_self, t0, t1, t2, t7]
  refine KCall.ok (insSort_does H id ver hid g caps c ho hc _ _ _ Lk L1 hc3 hL1 a n n lP (by omega) hlen (by omega)) ?_
  clear hc3 hL1 lP lX hst hso hlen
  simp (implicitDefEqProofs := false) only [↓reduceIte, go_sem, oread, owrite, Nat.reduceAdd, Nat.reduceSub, Nat.reduceMul, Nat.reduceLT, Nat.reduceLeDiff, Nat.reduceEqDiff, Nat.reduceBEq, Int.reduceLE, Int.reduceLT, Int.reduceEq, Int.reduceNe, Int.reduceAdd, Int.reduceSub, Int.reduceMul, Int.reduceNeg, Int.reduceToNat, Int.reduceNatCast, reduceCtorEq, eq_self]
  refine awp_loop _ _ _ _ (fun (z : Nat) s H' => 20 ≤ z ∧ z ≤ 2 * n + 20 ∧ (∃ Lk, H' = aH H id ver Lk ∧ St.StEq (ltC c) Lk L ∧ Lk.length = n ∧ ∀ j, St.Sorted (ltC c) (St.blk z j Lk)) ∧ s 0 = .sl id ver 0 n ∧ s 1 = iA n ∧ s 2 = .fn g caps ∧ s 6 = iA z) (fun z => n - z) 20 (Weak.refl _ _) ?_ ?_
  · refine ⟨Nat.le_refl _, by omega, ⟨L1, rfl, hst1, lL1, hb1⟩, ?_⟩
    simp (implicitDefEqProofs := false) only [↓reduceIte, go_sem, oread, owrite, Nat.reduceAdd, Nat.reduceSub, Nat.reduceMul, Nat.reduceLT, Nat.reduceLeDiff, Nat.reduceEqDiff, Nat.reduceBEq, Int.reduceLE, Int.reduceLT, Int.reduceEq, Int.reduceNe, Int.reduceAdd, Int.reduceSub, Int.reduceMul, Int.reduceNeg, Int.reduceToNat, Int.reduceNatCast, reduceCtorEq, eq_self, t0, t1, t2, t6]
  clear hb1 hst1 lL1 t0 t1 t2 t6 t7 hk1 hk2 ha
  rintro z s H' ⟨hz1, hz2, ⟨Lk, rfl, hst, hlen, hbl⟩, t0, t1, t2, t6⟩
  by_cases hzn : z < n
  · have w1 : IntKind.i64.wrap (2 * (z : Int)) = ((2 * z : Nat) : Int) := by rw [wrap64_in _ (by omega) (by omega)]; omega
    have w1' : IntKind.i64.wrap ((z : Int) * 2) = ((2 * z : Nat) : Int) := by rw [wrap64_in _ (by omega) (by omega)]; omega
    obtain ⟨y, hy⟩ : ∃ y, y = 2 * z := ⟨_, rfl⟩
    rw [← hy] at w1 w1'
    simp (implicitDefEqProofs := false) only [↓reduceIte, go_sem, oread, owrite, Nat.reduceAdd, Nat.reduceSub, Nat.reduceMul, Nat.reduceLT, Nat.reduceLeDiff, Nat.reduceEqDiff, Nat.reduceBEq, Int.reduceLE, Int.reduceLT, Int.reduceEq, Int.reduceNe, Int.reduceAdd, Int.reduceSub, Int.reduceMul, Int.reduceNeg, Int.reduceToNat, Int.reduceNatCast, reduceCtorEq, eq_self, t1, t6, eq_true hzn, w1]
    refine awp_cutB (fun s H' => (∃ Lk, H' = aH H id ver Lk ∧ St.StEq (ltC c) Lk L ∧ Lk.length = n ∧ ∃ k a, a = k * y ∧ a = 2 * k * z ∧ a ≤ n ∧ n < a + y ∧ (∀ j, j < k → St.Sorted (ltC c) (St.blk y j Lk)) ∧ (∀ j, 2 * k ≤ j → St.Sorted (ltC c) (St.blk z j Lk)) ∧ s 7 = iA a) ∧ s 0 = .sl id ver 0 n ∧ s 1 = iA n ∧ s 2 = .fn g caps ∧ s 6 = iA z) rfl ?_ ?_
    · refine awp_loop _ _ _ _ (fun (k : Nat) s H' => (∃ a, a = k * y ∧ a = 2 * k * z ∧ a ≤ n ∧ s 7 = iA a ∧ s 8 = iA ((a + y : Nat) : Int)) ∧ (∃ Lk, H' = aH H id ver Lk ∧ St.StEq (ltC c) Lk L ∧ Lk.length = n ∧ (∀ j, j < k → St.Sorted (ltC c) (St.blk y j Lk)) ∧ (∀ j, 2 * k ≤ j → St.Sorted (ltC c) (St.blk z j Lk))) ∧ s 0 = .sl id ver 0 n ∧ s 1 = iA n ∧ s 2 = .fn g caps ∧ s 6 = iA z) (fun k => n + 1 - k * y) 0 (Weak.refl _ _) ?_ ?_
      · refine ⟨⟨0, by omega, by omega, by omega, ?_⟩, ⟨Lk, rfl, hst, hlen, fun j hj => by omega, fun j _ => hbl j⟩, ?_⟩
        · simp (implicitDefEqProofs := false) only [↓reduceIte, go_sem, oread, owrite, Nat.reduceAdd, Nat.reduceSub, Nat.reduceMul, Nat.reduceLT, Nat.reduceLeDiff, Nat.reduceEqDiff, Nat.reduceBEq, Int.reduceLE, Int.reduceLT, Int.reduceEq, Int.reduceNe, Int.reduceAdd, Int.reduceSub, Int.reduceMul, Int.reduceNeg, Int.reduceToNat, Int.reduceNatCast, reduceCtorEq, eq_self, Nat.zero_add]
        · simp (implicitDefEqProofs := false) only [↓reduceIte, go_sem, oread, owrite, Nat.reduceAdd, Nat.reduceSub, Nat.reduceMul, Nat.reduceLT, Nat.reduceLeDiff, Nat.reduceEqDiff, Nat.reduceBEq, Int.reduceLE, Int.reduceLT, Int.reduceEq, Int.reduceNe, Int.reduceAdd, Int.reduceSub, Int.reduceMul, Int.reduceNeg, Int.reduceToNat, Int.reduceNatCast, reduceCtorEq, eq_self, t0, t1, t2, t6]
      clear hst hlen hbl Lk t0 t1 t2 t6
      rintro k s H' ⟨⟨a, ha, ha2, han, t7, t8⟩, ⟨Lk, rfl, hst, hlen, hso, hso2⟩, t0, t1, t2, t6⟩
      obtain ⟨b, hb⟩ : ∃ b, b = a + y := ⟨_, rfl⟩
      rw [← hb] at t8
      have hk1 : (k + 1) * y = a + y := by rw [Nat.add_mul, ← ha, Nat.one_mul]
      have hk2 : 2 * (k + 1) * z = a + 2 * z := by rw [Nat.mul_add, Nat.add_mul, ← ha2]
      have hk3 : (2 * k + 1) * z = a + z := by rw [Nat.add_mul, ← ha2, Nat.one_mul]
      by_cases hbn : b ≤ n
      · obtain ⟨P, hP⟩ : ∃ P, P = Lk.take a := ⟨_, rfl⟩
        obtain ⟨X, hX⟩ : ∃ X, X = (Lk.drop a).take z := ⟨_, rfl⟩
        obtain ⟨Y, hY⟩ : ∃ Y, Y = (Lk.drop (a + z)).take z := ⟨_, rfl⟩
        obtain ⟨Q, hQ⟩ : ∃ Q, Q = Lk.drop (a + z + z) := ⟨_, rfl⟩
        have hc4 : Lk = P ++ X ++ Y ++ Q := by rw [hP, hX, hY, hQ, St.cut4]
        have hc5 : Lk = P ++ (X ++ Y) ++ Q := by rw [hc4]; simp
        have lP : P.length = a := by rw [hP, List.length_take]; omega
        have lX : X.length = z := by rw [hX, List.length_take, List.length_drop]; omega
        have lY : Y.length = z := by rw [hY, List.length_take, List.length_drop]; omega
        have lXY : (X ++ Y).length = y := by rw [List.length_append]; omega
        have sX : St.Sorted (ltC c) X := by have := hso2 (2 * k) (Nat.le_refl _); rw [St.blk, ← ha2, ← hX] at this; exact this
        have sY : St.Sorted (ltC c) Y := by have := hso2 (2 * k + 1) (by omega); rw [St.blk, hk3, ← hY] at this; exact this
        obtain ⟨L1, hL1⟩ : ∃ L1, L1 = P ++ St.sortS (ltC c) (X ++ Y) ++ Q := ⟨_, rfl⟩
        have lL1 : L1.length = n := by rw [hL1, ← hlen, hc5]; simp [St.sortS_len]; try omega
        have hst1 : St.StEq (ltC c) L1 L := by
          refine St.StEq.trans ?_ hst
          rw [hL1, hc5]; exact St.steq_part ho P (X ++ Y) Q
        have hso1 : ∀ j, j < k + 1 → St.Sorted (ltC c) (St.blk y j L1) := by
          rw [hL1]; exact St.blk_more ho (by omega) (by rw [← hc5]; exact hso) (.inl lXY)
        have hso3 : ∀ j, 2 * (k + 1) ≤ j → St.Sorted (ltC c) (St.blk z j L1) := fun j hj => by
          have h1 := Nat.mul_le_mul_right z hj
          rw [hL1, St.blk_behind (X' := X ++ Y) (St.sortS_len _) (by rw [St.sortS_len, lXY, lP]; omega), ← hc5]
          exact hso2 j (by omega)
        clear hP hX hY hQ hst hso hso2
        obtain ⟨m, hm⟩ : ∃ m, m = a + z := ⟨_, rfl⟩
        obtain ⟨b2, hb2⟩ : ∃ b2, b2 = b + y := ⟨_, rfl⟩
        have w2 : IntKind.i64.wrap ((a : Int) + (z : Int)) = (m : Int) := by rw [wrap64_in _ (by omega) (by omega)]; omega
        have w3 : IntKind.i64.wrap ((b : Int) + (y : Int)) = (b2 : Int) := by rw [wrap64_in _ (by omega) (by omega)]; omega
        simp (implicitDefEqProofs := false) only [↓reduceIte, go_sem, oread, owrite, Nat.reduceAdd, Nat.reduceSub, Nat.reduceMul, Nat.reduceLT, Nat.reduceLeDiff, Nat.reduceEqDiff, Nat.reduceBEq, Int.reduceLE, Int.reduceLT, Int.reduceEq, Int.reduceNe, Int.reduceAdd, Int.reduceSub, Int.reduceMul, Int.reduceNeg, Int.reduceToNat, Int.reduceNatCast, reduceCtorEq, eq_self, t1, t8, eq_true hbn]
        simp (implicitDefEqProofs := false) only [↓reduceIte, go_sem, oread, owrite, Nat.reduceAdd, Nat.reduceSub, Nat.reduceMul, Nat.reduceLT, Nat.reduceLeDiff, Nat.reduceEqDiff, Nat.reduceBEq, Int.reduceLE, Int.reduceLT, Int.reduceEq, Int.reduceNe, Int.reduceAdd, Int.reduceSub, Int.reduceMul, Int.reduceNeg, Int.reduceToNat, Int.reduceNatCast, reduceCtorEq, eq_self, t0, t2, t6, t7, t8, w2]
        refine KCall.ok (symMerge_does H id ver hid g caps c ho hc n (by omega) _ P X Y Q Lk L1 a m b (Nat.le_refl _) hc4 hL1 lP (by omega) (by omega) (by omega) (by omega) sX sY hlen) ?_
        simp (implicitDefEqProofs := false) only [↓reduceIte, go_sem, oread, owrite, Nat.reduceAdd, Nat.reduceSub, Nat.reduceMul, Nat.reduceLT, Nat.reduceLeDiff, Nat.reduceEqDiff, Nat.reduceBEq, Int.reduceLE, Int.reduceLT, Int.reduceEq, Int.reduceNe, Int.reduceAdd, Int.reduceSub, Int.reduceMul, Int.reduceNeg, Int.reduceToNat, Int.reduceNatCast, reduceCtorEq, eq_self, t6, t8, w1, w3]
        refine ⟨_, _, k + 1, Weak.refl _ _, ⟨⟨b, by omega, by omega, hbn, ?_⟩, ⟨L1, rfl, hst1, lL1, hso1, hso3⟩, ?_⟩, by omega⟩
        · simp (implicitDefEqProofs := false) only [↓reduceIte, go_sem, oread, owrite, Nat.reduceAdd, Nat.reduceSub, Nat.reduceMul, Nat.reduceLT, Nat.reduceLeDiff, Nat.reduceEqDiff, Nat.reduceBEq, Int.reduceLE, Int.reduceLT, Int.reduceEq, Int.reduceNe, Int.reduceAdd, Int.reduceSub, Int.reduceMul, Int.reduceNeg, Int.reduceToNat, Int.reduceNatCast, reduceCtorEq, eq_self, show ((b : Int) + (y : Int)) = (b2 : Int) by omega]
        · simp (implicitDefEqProofs := false) only [↓reduceIte, go_sem, oread, owrite, Nat.reduceAdd, Nat.reduceSub, Nat.reduceMul, Nat.reduceLT, Nat.reduceLeDiff, Nat.reduceEqDiff, Nat.reduceBEq, Int.reduceLE, Int.reduceLT, Int.reduceEq, Int.reduceNe, Int.reduceAdd, Int.reduceSub, Int.reduceMul, Int.reduceNeg, Int.reduceToNat, Int.reduceNatCast, reduceCtorEq, eq_self, t0, t1, t2, t6]
      · simp (implicitDefEqProofs := false) only [↓reduceIte, go_sem, oread, owrite, Nat.reduceAdd, Nat.reduceSub, Nat.reduceMul, Nat.reduceLT, Nat.reduceLeDiff, Nat.reduceEqDiff, Nat.reduceBEq, Int.reduceLE, Int.reduceLT, Int.reduceEq, Int.reduceNe, Int.reduceAdd, Int.reduceSub, Int.reduceMul, Int.reduceNeg, Int.reduceToNat, Int.reduceNatCast, reduceCtorEq, eq_self, t1, t8, eq_false hbn]
        refine ⟨⟨Lk, rfl, hst, hlen, k, a, ha, ha2, han, by omega, hso, hso2, ?_⟩, ?_⟩
        · simp (implicitDefEqProofs := false) only [↓reduceIte, go_sem, oread, owrite, Nat.reduceAdd, Nat.reduceSub, Nat.reduceMul, Nat.reduceLT, Nat.reduceLeDiff, Nat.reduceEqDiff, Nat.reduceBEq, Int.reduceLE, Int.reduceLT, Int.reduceEq, Int.reduceNe, Int.reduceAdd, Int.reduceSub, Int.reduceMul, Int.reduceNeg, Int.reduceToNat, Int.reduceNatCast, reduceCtorEq, eq_self, t7]
        · simp (implicitDefEqProofs := false) only [↓reduceIte, go_sem, oread, owrite, Nat.reduceAdd, Nat.reduceSub, Nat.reduceMul, Nat.reduceLT, Nat.reduceLeDiff, Nat.reduceEqDiff, Nat.reduceBEq, Int.reduceLE, Int.reduceLT, Int.reduceEq, Int.reduceNe, Int.reduceAdd, Int.reduceSub, Int.reduceMul, Int.reduceNeg, Int.reduceToNat, Int.reduceNatCast, reduceCtorEq, eq_self, t0, t1, t2, t6]
    clear hst hlen hbl Lk t0 t1 t2 t6
    rintro s H' ⟨⟨Lk, rfl, hst, hlen, k, a, ha, ha2, han, hna, hso, hso2, t7⟩, t0, t1, t2, t6⟩
    have hk3 : (2 * k + 1) * z = a + z := by rw [Nat.add_mul, ← ha2, Nat.one_mul]
    have hk1 : (k + 1) * y = a + y := by rw [Nat.add_mul, ← ha, Nat.one_mul]
    obtain ⟨m, hm⟩ : ∃ m, m = a + z := ⟨_, rfl⟩
    have w2 : IntKind.i64.wrap ((a : Int) + (z : Int)) = (m : Int) := by rw [wrap64_in _ (by omega) (by omega)]; omega
    have all : ∀ L1 : List Val, L1.length = n → (∀ j, j < k + 1 → St.Sorted (ltC c) (St.blk y j L1)) → ∀ j, St.Sorted (ltC c) (St.blk y j L1) := fun L1 hl h j => by
      rcases Nat.lt_or_ge j (k + 1) with h1 | h1
      · exact h j h1
      · have := Nat.mul_le_mul_right y h1
        rw [St.blk_out (by omega)]
        exact List.Pairwise.nil
    by_cases hmn : m < n
    · obtain ⟨P, hP⟩ : ∃ P, P = Lk.take a := ⟨_, rfl⟩
      obtain ⟨X, hX⟩ : ∃ X, X = (Lk.drop a).take z := ⟨_, rfl⟩
      obtain ⟨Y, hY⟩ : ∃ Y, Y = (Lk.drop (a + z)).take z := ⟨_, rfl⟩
      have hQ : Lk.drop (a + z + z) = [] := List.drop_of_length_le (by omega)
      have hc4 : Lk = P ++ X ++ Y ++ [] := by rw [hP, hX, hY, ← hQ, St.cut4]
      have hc5 : Lk = P ++ (X ++ Y) ++ [] := by rw [hc4]; simp
      have lP : P.length = a := by rw [hP, List.length_take]; omega
      have lX : X.length = z := by rw [hX, List.length_take, List.length_drop]; omega
      have lY : Y.length = n - m := by rw [hY, List.length_take, List.length_drop]; omega
      have lXY : (X ++ Y).length ≤ y := by rw [List.length_append]; omega
      have sX : St.Sorted (ltC c) X := by have := hso2 (2 * k) (Nat.le_refl _); rw [St.blk, ← ha2, ← hX] at this; exact this
      have sY : St.Sorted (ltC c) Y := by have := hso2 (2 * k + 1) (by omega); rw [St.blk, hk3, ← hY] at this; exact this
      obtain ⟨L1, hL1⟩ : ∃ L1, L1 = P ++ St.sortS (ltC c) (X ++ Y) ++ [] := ⟨_, rfl⟩
      have lL1 : L1.length = n := by rw [hL1, ← hlen, hc5]; simp [St.sortS_len]; try omega
      have hst1 : St.StEq (ltC c) L1 L := by
        refine St.StEq.trans ?_ hst
        rw [hL1]
        have := St.steq_part ho P (X ++ Y) []
        rwa [← hc5] at this
      have hso1 : ∀ j, j < k + 1 → St.Sorted (ltC c) (St.blk y j L1) := by
        rw [hL1]; exact St.blk_more ho (by omega) (by rw [← hc5]; exact hso) (.inr ⟨lXY, rfl⟩)
      clear hP hX hY hQ hst hso hso2
      simp (implicitDefEqProofs := false) only [↓reduceIte, go_sem, oread, owrite, Nat.reduceAdd, Nat.reduceSub, Nat.reduceMul, Nat.reduceLT, Nat.reduceLeDiff, Nat.reduceEqDiff, Nat.reduceBEq, Int.reduceLE, Int.reduceLT, Int.reduceEq, Int.reduceNe, Int.reduceAdd, Int.reduceSub, Int.reduceMul, Int.reduceNeg, Int.reduceToNat, Int.reduceNatCast, reduceCtorEq, eq_self, t1, t6, t7, w2, eq_true hmn]
      simp (implicitDefEqProofs := false) only [↓reduceIte, go_sem, oread, owrite, Nat.reduceAdd, Nat.reduceSub, Nat.reduceMul, Nat.reduceLT, Nat.reduceLeDiff, Nat.reduceEqDiff, Nat.reduceBEq, Int.reduceLE, Int.reduceLT, Int.reduceEq, Int.reduceNe, Int.reduceAdd, Int.reduceSub, Int.reduceMul, Int.reduceNeg, Int.reduceToNat, Int.reduceNatCast, reduceCtorEq, eq_self, t0, t1, t2, t7]
      refine KCall.ok (symMerge_does H id ver hid g caps c ho hc n (by omega) _ P X Y [] Lk L1 a m n (Nat.le_refl _) hc4 hL1 lP (by omega) (by omega) (by omega) (by omega) sX sY hlen) ?_
      simp (implicitDefEqProofs := false) only [↓reduceIte, go_sem, oread, owrite, Nat.reduceAdd, Nat.reduceSub, Nat.reduceMul, Nat.reduceLT, Nat.reduceLeDiff, Nat.reduceEqDiff, Nat.reduceBEq, Int.reduceLE, Int.reduceLT, Int.reduceEq, Int.reduceNe, Int.reduceAdd, Int.reduceSub, Int.reduceMul, Int.reduceNeg, Int.reduceToNat, Int.reduceNatCast, reduceCtorEq, eq_self, t6, w1']
      refine ⟨_, _, y, Weak.refl _ _, ⟨by omega, by omega, ⟨L1, rfl, hst1, lL1, all L1 lL1 hso1⟩, ?_⟩, by omega⟩
      simp (implicitDefEqProofs := false) only [↓reduceIte, go_sem, oread, owrite, Nat.reduceAdd, Nat.reduceSub, Nat.reduceMul, Nat.reduceLT, Nat.reduceLeDiff, Nat.reduceEqDiff, Nat.reduceBEq, Int.reduceLE, Int.reduceLT, Int.reduceEq, Int.reduceNe, Int.reduceAdd, Int.reduceSub, Int.reduceMul, Int.reduceNeg, Int.reduceToNat, Int.reduceNatCast, reduceCtorEq, eq_self, t0, t1, t2]
    · have hso1 : ∀ j, j < k + 1 → St.Sorted (ltC c) (St.blk y j Lk) := fun j hj => by
        rcases Nat.lt_or_ge j k with h | h
        · exact hso j h
        · obtain rfl : j = k := by omega
          have h1 := hso2 (2 * j) (Nat.le_refl _)
          unfold St.blk at h1 ⊢
          rw [← ha2, List.take_of_length_le (by rw [List.length_drop]; omega)] at h1
          rw [← ha, List.take_of_length_le (by rw [List.length_drop]; omega)]
          exact h1
      simp (implicitDefEqProofs := false) only [↓reduceIte, go_sem, oread, owrite, Nat.reduceAdd, Nat.reduceSub, Nat.reduceMul, Nat.reduceLT, Nat.reduceLeDiff, Nat.reduceEqDiff, Nat.reduceBEq, Int.reduceLE, Int.reduceLT, Int.reduceEq, Int.reduceNe, Int.reduceAdd, Int.reduceSub, Int.reduceMul, Int.reduceNeg, Int.reduceToNat, Int.reduceNatCast, reduceCtorEq, eq_self, t1, t6, t7, w2, eq_false hmn, w1']
      refine ⟨_, _, y, Weak.refl _ _, ⟨by omega, by omega, ⟨Lk, rfl, hst, hlen, all Lk hlen hso1⟩, ?_⟩, by omega⟩
      simp (implicitDefEqProofs := false) only [↓reduceIte, go_sem, oread, owrite, Nat.reduceAdd, Nat.reduceSub, Nat.reduceMul, Nat.reduceLT, Nat.reduceLeDiff, Nat.reduceEqDiff, Nat.reduceBEq, Int.reduceLE, Int.reduceLT, Int.reduceEq, Int.reduceNe, Int.reduceAdd, Int.reduceSub, Int.reduceMul, Int.reduceNeg, Int.reduceToNat, Int.reduceNatCast, reduceCtorEq, eq_self, t0, t1, t2]
  · simp (implicitDefEqProofs := false) only [↓reduceIte, go_sem, oread, owrite, Nat.reduceAdd, Nat.reduceSub, Nat.reduceMul, Nat.reduceLT, Nat.reduceLeDiff, Nat.reduceEqDiff, Nat.reduceBEq, Int.reduceLE, Int.reduceLT, Int.reduceEq, Int.reduceNe, Int.reduceAdd, Int.reduceSub, Int.reduceMul, Int.reduceNeg, Int.reduceToNat, Int.reduceNatCast, reduceCtorEq, eq_self, t1, t6, eq_false hzn]
    have h0 := hbl 0
    unfold St.blk at h0
    rw [Nat.zero_mul, List.drop_zero, List.take_of_length_le (by omega)] at h0
    rw [← hE1, St.sortS_eq ho h0 hst]
    exact ⟨_, Weak.refl _ _, rfl⟩
set_option maxRecDepth 10000 in
theorem sort_does (H : AHeap) (id ver : Nat) (hid : id < H.length) (g : FuncId) (caps : List AV) (c : Val → Val → Int) (ho : St.Ord (ltC c)) (hc : CmpOk g caps c H id) (n : Nat) (hbig : n ≤ 100000000000) (L : List Val) (hn : L.length = n) :
    Does Try.prog 26 [.sl id ver 0 n, .fn g caps] (aH H id ver L) (.ok (.tup [])) (aH H id ver (St.sortS (ltC c) L)) := by
  have gh := aH_get hid ver L
  have hs := stable_does H id ver hid g caps c ho hc n hbig L hn
  generalize aH H id ver L = E0 at *
  refine Does.of_awp (hint := (fun _ => false)) Try.func26 (by kernel_rfl) rfl [] (by kernel_rfl) (by decide) (by simp [Try.ntmps26]) ?_
  rw [Try.ntmps26]
  simp (implicitDefEqProofs := false) only [↓reduceIte, go_sem, oread, owrite, Nat.reduceAdd, Nat.reduceSub, Nat.reduceMul, Nat.reduceLT, Nat.reduceLeDiff, Nat.reduceEqDiff, Nat.reduceBEq, Int.reduceLE, Int.reduceLT, Int.reduceEq, Int.reduceNe, Int.reduceAdd, Int.reduceSub, Int.reduceMul, Int.reduceNeg, Int.reduceToNat, Int.reduceNatCast, reduceCtorEq, eq_self, gh]
  refine KCall.ok hs ?_
  simp (implicitDefEqProofs := false) only [↓reduceIte, go_sem, oread, owrite, Nat.reduceAdd, Nat.reduceSub, Nat.reduceMul, Nat.reduceLT, Nat.reduceLeDiff, Nat.reduceEqDiff, Nat.reduceBEq, Int.reduceLE, Int.reduceLT, Int.reduceEq, Int.reduceNe, Int.reduceAdd, Int.reduceSub, Int.reduceMul, Int.reduceNeg, Int.reduceToNat, Int.reduceNatCast, reduceCtorEq, eq_self]
  exact ⟨_, Weak.refl _ _, rfl⟩
end SV
end Go.Proofs.Ytfmmemboakdeiaa

/- slices' swapRange, rotate, insertion sort over Val: what they do. -/
import Derived.Test.YtfmmemboakdeiaaSortP
import Derived.Test.YtfmmemboakdeiaaAwJ
import Derived.Test.YtfmmemboakdeiaaCmp
namespace Go.Proofs.Ytfmmemboakdeiaa
open Go.Proofs.YtfmmemboakdeiaaAw Go.RowKit
set_option linter.unusedVariables false
set_option linter.unusedSimpArgs false
namespace SV
/-- The heap in which an array has these elements. -/
def aH (H : AHeap) (id ver : Nat) (L : List Val) : AHeap := H.set id (.arr 26 3 ver (L.map Val.enc))
theorem aH_get {H : AHeap} {id : Nat} (h : id < H.length) (ver : Nat) (L : List Val) : (aH H id ver L)[id]? = some (.arr 26 3 ver (L.map Val.enc)) := by simp [aH, h]
theorem aH_set (H : AHeap) (id ver : Nat) (L : List Val) (v : Nat) (es : List (List D)) : (aH H id ver L).set id (.arr 26 3 v es) = H.set id (.arr 26 3 v es) := by simp [aH]
theorem aH_fold (H : AHeap) (id ver : Nat) (L : List Val) : H.set id (.arr 26 3 ver (L.map Val.enc)) = aH H id ver L := rfl
theorem get_enc {L : List Val} {i : Nat} {x : Val} (h : L[i]? = some x) : (L.map Val.enc)[i]? = some x.enc := by simp [h]
theorem set_enc (L : List Val) (i : Nat) (x : Val) : (L.map Val.enc).set i x.enc = (L.set i x).map Val.enc := by simp [List.map_set]
theorem get_at {A B : List Val} {x : Val} {n : Nat} (h : A.length = n) : (A ++ x :: B)[n]? = some x := by subst h; simp
theorem set_at {A B : List Val} {x y : Val} {n : Nat} (h : A.length = n) : (A ++ x :: B).set n y = A ++ y :: B := by subst h; simp
def swL (P X M Y Q : List Val) (k : Nat) : List Val := P ++ Y.take k ++ (X.drop k ++ M ++ X.take k ++ (Y.drop k ++ Q))
theorem swL_zero (P X M Y Q : List Val) : swL P X M Y Q 0 = P ++ X ++ M ++ Y ++ Q := by simp [swL]
theorem swL_end (P X M Y Q : List Val) (n : Nat) (h1 : X.length = n) (h2 : Y.length = n) : swL P X M Y Q n = P ++ Y ++ M ++ X ++ Q := by
  unfold swL
  rw [List.take_of_length_le (by omega), List.drop_of_length_le (by omega), List.take_of_length_le (by omega), List.drop_of_length_le (by omega)]
  simp
theorem swL_len (P X M Y Q : List Val) (k : Nat) (hk : k ≤ X.length) (h : X.length = Y.length) : (swL P X M Y Q k).length = P.length + X.length + M.length + Y.length + Q.length := by
  simp [swL]; omega
theorem swL_step (P X M Y Q : List Val) (k : Nat) (hk : k < X.length) (h : X.length = Y.length) : ∃ x y, (swL P X M Y Q k)[P.length + k]? = some x ∧ (swL P X M Y Q k)[P.length + X.length + M.length + k]? = some y ∧
    ((swL P X M Y Q k).set (P.length + k) y).set (P.length + X.length + M.length + k) x = swL P X M Y Q (k + 1) := by
  have hk2 : k < Y.length := by omega
  have e1 : X.drop k = X[k] :: X.drop (k + 1) := List.drop_eq_getElem_cons hk
  have e2 : Y.drop k = Y[k] :: Y.drop (k + 1) := List.drop_eq_getElem_cons hk2
  have e3 : X.take (k + 1) = X.take k ++ [X[k]] := List.take_succ_eq_append_getElem hk
  have e4 : Y.take (k + 1) = Y.take k ++ [Y[k]] := List.take_succ_eq_append_getElem hk2
  have l1 : (P ++ Y.take k).length = P.length + k := by simp; omega
  have l2 : (X.drop (k + 1)).length = X.length - (k + 1) := by simp
  have l3 : (X.take k).length = k := by simp; omega
  unfold swL
  rw [e1, e2, e3, e4]
  generalize X[k] = x
  generalize Y[k] = y
  generalize X.drop (k + 1) = X1 at *
  generalize Y.drop (k + 1) = Y1 at *
  generalize X.take k = X0 at *
  generalize Y.take k = Y0 at *
  have a1 : P ++ Y0 ++ (x :: X1 ++ M ++ X0 ++ (y :: Y1 ++ Q)) = (P ++ Y0) ++ x :: (X1 ++ M ++ X0 ++ (y :: Y1 ++ Q)) := by simp
  have a2 : P ++ Y0 ++ (x :: X1 ++ M ++ X0 ++ (y :: Y1 ++ Q)) = (P ++ Y0 ++ x :: X1 ++ M ++ X0) ++ y :: (Y1 ++ Q) := by simp
  have a3 : (P ++ Y0) ++ y :: (X1 ++ M ++ X0 ++ (y :: Y1 ++ Q)) = (P ++ Y0 ++ y :: X1 ++ M ++ X0) ++ y :: (Y1 ++ Q) := by simp
  refine ⟨x, y, ?_, ?_, ?_⟩
  · rw [a1]; exact get_at l1
  · rw [a2]
    refine get_at ?_
    simp only [List.length_append, List.length_cons, l2, l3] at *
    omega
  · rw [a1, set_at l1, a3, set_at (by simp only [List.length_append, List.length_cons, l2, l3] at *; omega)]
    simp
set_option maxRecDepth 10000 in
set_option maxHeartbeats 1000000 in
theorem swapRange_does (H : AHeap) (id ver : Nat) (hid : id < H.length) (g : FuncId) (caps : List AV) (P X M Y Q : List Val) (a b n m : Nat) (ha : P.length = a) (hn : X.length = n) (hy : Y.length = n) (hb : P.length + X.length + M.length = b)
    (hm : (P ++ X ++ M ++ Y ++ Q).length = m) (hbig : m ≤ 1000000000000) :
    Does Try.prog 75 [.sl id ver 0 m, iA a, iA b, iA n, .fn g caps] (aH H id ver (P ++ X ++ M ++ Y ++ Q)) (.ok (.tup [])) (aH H id ver (P ++ Y ++ M ++ X ++ Q)) := by
  have hml : P.length + X.length + M.length + Y.length + Q.length = m := by rw [← hm]; simp; omega
  generalize hE : aH H id ver (P ++ Y ++ M ++ X ++ Q) = E
  generalize hE0 : aH H id ver (P ++ X ++ M ++ Y ++ Q) = E0
  refine Does.of_awp (hint := (fun _ => false)) Try.func75 (by kernel_rfl) rfl [] (by kernel_rfl) (by decide) (by simp [Try.ntmps75]) ?_
  rw [Try.ntmps75]
  simp (implicitDefEqProofs := false) only [↓reduceIte, go_sem, oread, owrite, Nat.reduceAdd, Nat.reduceSub, Nat.reduceMul, Nat.reduceLT, Nat.reduceLeDiff, Nat.reduceEqDiff, Nat.reduceBEq, Int.reduceLE, Int.reduceLT, Int.reduceEq, Int.reduceNe, Int.reduceAdd, Int.reduceSub, Int.reduceMul, Int.reduceNeg, Int.reduceToNat, Int.reduceNatCast, reduceCtorEq, eq_self]
  refine awp_for3 (fun k s H' => H' = aH H id ver (swL P X M Y Q k) ∧ s 0 = .sl id ver 0 m ∧ s 1 = iA a ∧ s 2 = iA b ∧ s 3 = iA n ∧ s 10 = iA k) n (by omega) (Weak.refl _ _) ?_ ?_ ?_
  · refine ⟨by rw [swL_zero, hE0], ?_⟩
    simp (implicitDefEqProofs := false) only [↓reduceIte, go_sem, oread, owrite, Nat.reduceAdd, Nat.reduceSub, Nat.reduceMul, Nat.reduceLT, Nat.reduceLeDiff, Nat.reduceEqDiff, Nat.reduceBEq, Int.reduceLE, Int.reduceLT, Int.reduceEq, Int.reduceNe, Int.reduceAdd, Int.reduceSub, Int.reduceMul, Int.reduceNeg, Int.reduceToNat, Int.reduceNatCast, reduceCtorEq, eq_self]
  · rintro k s H' hk hw ⟨rfl, t0, t1, t2, t3, t10⟩
    obtain ⟨x, y, hx, hy2, hst⟩ := swL_step P X M Y Q k (by omega) (by omega)
    rw [hb] at hy2 hst
    rw [ha] at hx hst
    obtain ⟨i, hi⟩ : ∃ i, i = a + k := ⟨_, rfl⟩
    obtain ⟨j, hj⟩ : ∃ j, j = b + k := ⟨_, rfl⟩
    have w1 : IntKind.i64.wrap ((a : Int) + (k : Int)) = (i : Int) := by rw [wrap64_in _ (by omega) (by omega)]; omega
    have w2 : IntKind.i64.wrap ((b : Int) + (k : Int)) = (j : Int) := by rw [wrap64_in _ (by omega) (by omega)]; omega
    rw [← hi] at hx hst
    rw [← hj] at hy2 hst
    have hil : i < m := by omega
    have hjl : j < m := by omega
    generalize swL P X M Y Q k = L at *
    generalize swL P X M Y Q (k + 1) = L' at *
    have gx := get_enc hx
    have gy := get_enc hy2
    have gh := aH_get hid ver L
    have s1 := set_enc L i y
    have s2 := set_enc (L.set i y) j x
    rw [hst] at s2
    have gy2 : ((L.set i y).map Val.enc)[j]? = some y.enc := by
      refine get_enc ?_
      rw [List.getElem?_set]
      by_cases hij : i = j
      · omega
      · rw [if_neg hij]; exact hy2
    simp only [Val.enc] at gx gy gy2 s1 s2
    simp (implicitDefEqProofs := false) only [↓reduceIte, go_sem, oread, owrite, Nat.reduceAdd, Nat.reduceSub, Nat.reduceMul, Nat.reduceLT, Nat.reduceLeDiff, Nat.reduceEqDiff, Nat.reduceBEq, Int.reduceLE, Int.reduceLT, Int.reduceEq, Int.reduceNe, Int.reduceAdd, Int.reduceSub, Int.reduceMul, Int.reduceNeg, Int.reduceToNat, Int.reduceNatCast, reduceCtorEq, eq_self, t3, t10, hk]
    refine awp_drawN [false, false, false, false, false, false, false, false, false, false, false, false, false, false, false, false, false, false, false, false, true, true, true, true] 20 K.mixed (by kernel_rfl) (by kernel_rfl) (by kernel_rfl) ?_
    simp (implicitDefEqProofs := false) only [↓reduceIte, go_sem, oread, owrite, Nat.reduceAdd, Nat.reduceSub, Nat.reduceMul, Nat.reduceLT, Nat.reduceLeDiff, Nat.reduceEqDiff, Nat.reduceBEq, Int.reduceLE, Int.reduceLT, Int.reduceEq, Int.reduceNe, Int.reduceAdd, Int.reduceSub, Int.reduceMul, Int.reduceNeg, Int.reduceToNat, Int.reduceNatCast, reduceCtorEq, eq_self, t0, t1, t2, t10, w1, w2, hil, hjl, gh, gx, gy, aH_set, aH_get hid, s1, s2, gy2, hid, List.getElem?_set_self, List.set_set]
    refine Rnd.same ⟨by rw [← aH_fold], ?_⟩
    simp (implicitDefEqProofs := false) only [↓reduceIte, go_sem, oread, owrite, Nat.reduceAdd, Nat.reduceSub, Nat.reduceMul, Nat.reduceLT, Nat.reduceLeDiff, Nat.reduceEqDiff, Nat.reduceBEq, Int.reduceLE, Int.reduceLT, Int.reduceEq, Int.reduceNe, Int.reduceAdd, Int.reduceSub, Int.reduceMul, Int.reduceNeg, Int.reduceToNat, Int.reduceNatCast, reduceCtorEq, eq_self, t0, t1, t2, t3, hw]
  · rintro s H' ⟨rfl, t0, t1, t2, t3, t10⟩
    simp (implicitDefEqProofs := false) only [↓reduceIte, go_sem, oread, owrite, Nat.reduceAdd, Nat.reduceSub, Nat.reduceMul, Nat.reduceLT, Nat.reduceLeDiff, Nat.reduceEqDiff, Nat.reduceBEq, Int.reduceLE, Int.reduceLT, Int.reduceEq, Int.reduceNe, Int.reduceAdd, Int.reduceSub, Int.reduceMul, Int.reduceNeg, Int.reduceToNat, Int.reduceNatCast, reduceCtorEq, eq_self, t3, t10]
    rw [swL_end _ _ _ _ _ n hn hy, hE]
    exact ⟨_, Weak.refl _ _, rfl⟩
theorem swapRange_at (H : AHeap) (id ver : Nat) (hid : id < H.length) (g : FuncId) (caps : List AV) (P X M Y Q L L' : List Val) (a b n m : Nat) (hL : L = P ++ X ++ M ++ Y ++ Q) (hL' : L' = P ++ Y ++ M ++ X ++ Q) (ha : P.length = a) (hn : X.length = n) (hy : Y.length = n) (hb : P.length + X.length + M.length = b)
    (hm : L.length = m) (hbig : m ≤ 1000000000000) :
    Does Try.prog 75 [.sl id ver 0 m, iA a, iA b, iA n, .fn g caps] (aH H id ver L) (.ok (.tup [])) (aH H id ver L') := by
  subst hL hL'
  exact swapRange_does H id ver hid g caps P X M Y Q a b n m ha hn hy hb hm hbig
end SV
end Go.Proofs.Ytfmmemboakdeiaa

/- plan.Orders: what it does. -/
import Derived.Test.YtfjdggcemfebpaaPlan3
import Derived.Test.YtfjdggcemfebpaaAwG
namespace Go.Proofs.Ytfjdggcemfebpaa
open Go.Proofs.YtfjdggcemfebpaaAw Go.RowKit
set_option linter.unusedVariables false
set_option linter.unusedSimpArgs false
def dfs (n : Nat) : Nat → List Int → List (List Int)
  | 0, o => [o]
  | k + 1, o => (upto n).flatMap fun i => if i ∈ o then [] else dfs n k (o ++ [i])
theorem dfs_eq : ∀ n, n ≤ 4 → dfs n n [] = ordersR n := by decide +kernel
def ordH (H : AHeap) (n : Nat) (L : List (List Int)) (ver : Nat) (T : AHeap) : AHeap :=
  H ++ .box 3 1 0 1 [iA n] :: .box 24 1 0 1 [.sl (H.length + 3) ver 0 L.length] :: .box 45 1 0 1 [.fn 21 [.ptr H.length 0 0 0, .ptr (H.length + 1) 0 0 0, .ptr (H.length + 2) 0 0 0]] :: .arr 27 1 ver (L.map encO) :: T
set_option maxRecDepth 10000 in
set_option maxHeartbeats 1000000 in
theorem leaf_does (n : Nat) (o : List Int) (ho : o.length = n) (hn : 0 < n) (hn4 : n ≤ 4) (L : List (List Int)) (hL : L.length ≤ 100000) (nn : Bool) (H : AHeap) (ver : Nat) (T : AHeap) :
    Does Try.prog 21 [.d (.list nn (ints o)), .ptr H.length 0 0 0, .ptr (H.length + 1) 0 0 0, .ptr (H.length + 2) 0 0 0] (ordH H n L ver T) (.ok (.tup [])) (ordH H n (L ++ [o]) (ver + 1) T) := by
  have hm : (L.map encO).length = L.length := by simp
  have hlen : (((o.length : Nat) : Int) = (n : Int)) = True := eq_true (by omega)
  have hfin : ordH H n (L ++ [o]) (ver + 1) T = H ++ .box 3 1 0 1 [iA n] :: .box 24 1 0 1 [.sl (H.length + 3) (ver + 1) 0 (L.length + 1)] :: .box 45 1 0 1 [.fn 21 [.ptr H.length 0 0 0, .ptr (H.length + 1) 0 0 0, .ptr (H.length + 2) 0 0 0]] :: .arr 27 1 (ver + 1) (L.map encO ++ [[D.list false (ints o)]]) :: T := by
    simp [ordH, encO]
  rw [hfin]
  refine Does.of_awp (hint := (fun _ => false)) Try.func21 (by kernel_rfl) rfl [] (by kernel_rfl) (by decide) (by simp [Try.ntmps21]) ?_
  rw [Try.ntmps21]
  simp (implicitDefEqProofs := false) only [↓reduceIte, go_sem, oread, owrite, Nat.reduceAdd, Nat.reduceSub, Nat.reduceMul, Nat.reduceLT, Nat.reduceLeDiff, Nat.reduceEqDiff, Nat.reduceBEq, Int.reduceLE, Int.reduceLT, Int.reduceEq, Int.reduceNe, Int.reduceAdd, Int.reduceSub, Int.reduceMul, Int.reduceNeg, Int.reduceToNat, Int.reduceNatCast, reduceCtorEq, eq_self, ordH, ints_len, ho]
  refine awp_drawK 4 K.mixed (by kernel_rfl) (by kernel_rfl) ?_
  simp (implicitDefEqProofs := false) only [↓reduceIte, go_sem, oread, owrite, Nat.reduceAdd, Nat.reduceSub, Nat.reduceMul, Nat.reduceLT, Nat.reduceLeDiff, Nat.reduceEqDiff, Nat.reduceBEq, Int.reduceLE, Int.reduceLT, Int.reduceEq, Int.reduceNe, Int.reduceAdd, Int.reduceSub, Int.reduceMul, Int.reduceNeg, Int.reduceToNat, Int.reduceNatCast, reduceCtorEq, eq_self, ordH]
  refine KCall.ok (clone_does o nn _ (by omega) (by omega)) ?_
  simp (implicitDefEqProofs := false) only [↓reduceIte, go_sem, oread, owrite, Nat.reduceAdd, Nat.reduceSub, Nat.reduceMul, Nat.reduceLT, Nat.reduceLeDiff, Nat.reduceEqDiff, Nat.reduceBEq, Int.reduceLE, Int.reduceLT, Int.reduceEq, Int.reduceNe, Int.reduceAdd, Int.reduceSub, Int.reduceMul, Int.reduceNeg, Int.reduceToNat, Int.reduceNatCast, reduceCtorEq, eq_self, hm, List.map_append, List.length_append]
  exact ⟨by omega, by omega, _, Weak.refl _ _, rfl⟩
set_option maxRecDepth 10000 in
theorem cloneOwn_does (l : List Int) (n1 : Bool) (H : AHeap) (h0 : 0 < l.length) (hl : l.length ≤ 1000000000000) : Does Try.prog 22 [.d (.list n1 (ints l))] H (.ok (.sl H.length 1 0 l.length)) (H ++ [.arr 3 1 1 (ints l)]) := by
  have e1 := isEmpty_ints h0
  refine Does.of_awp (hint := (fun _ => false)) Try.func22 (by kernel_rfl) rfl [2] (by kernel_rfl) (by decide) (by simp [Try.ntmps22]) ?_
  rw [Try.ntmps22]
  simp (implicitDefEqProofs := false) only [↓reduceIte, go_sem, oread, owrite, Nat.reduceAdd, Nat.reduceSub, Nat.reduceMul, Nat.reduceLT, Nat.reduceLeDiff, Nat.reduceEqDiff, Nat.reduceBEq, Int.reduceLE, Int.reduceLT, Int.reduceEq, Int.reduceNe, Int.reduceAdd, Int.reduceSub, Int.reduceMul, Int.reduceNeg, Int.reduceToNat, Int.reduceNatCast, reduceCtorEq, eq_self, e1, ints_one, ints_len]
  refine ⟨by omega, by omega, _, Weak.refl _ _, ?_⟩
  simp (implicitDefEqProofs := false) only [↓reduceIte, go_sem, oread, owrite, Nat.reduceAdd, Nat.reduceSub, Nat.reduceMul, Nat.reduceLT, Nat.reduceLeDiff, Nat.reduceEqDiff, Nat.reduceBEq, Int.reduceLE, Int.reduceLT, Int.reduceEq, Int.reduceNe, Int.reduceAdd, Int.reduceSub, Int.reduceMul, Int.reduceNeg, Int.reduceToNat, Int.reduceNatCast, reduceCtorEq, eq_self]
theorem ord_cut (H : AHeap) (n : Nat) (L L' : List (List Int)) (v v' : Nat) (T X : AHeap) (s : Nat → AV) : Weak (ordH H n L v T) s (ordH H n L' v' (T ++ X)) (fun t => frz (ordH H n L' v' (T ++ X)) (H.length + (4 + T.length)) (s t)) (ordH H n L' v' T) := by
  have hl0 : (ordH H n L v T).length = H.length + (4 + T.length) := by unfold ordH; simp only [List.length_append, List.length_cons]; omega
  have hl1 : (ordH H n L' v' (T ++ X)).length = H.length + (4 + T.length) + X.length := by unfold ordH; simp only [List.length_append, List.length_cons]; omega
  have key := Weak.trunc (H0 := ordH H n L v T) s (ordH H n L' v' (T ++ X)) (H.length + (4 + T.length)) (by omega) (by omega) ?_
  · have e : (ordH H n L' v' (T ++ X)).take (H.length + (4 + T.length)) = ordH H n L' v' T := by
      unfold ordH
      rw [List.take_length_add_append, show 4 + T.length = T.length + 4 from by omega]
      simp
    rwa [e] at key
  · intro i o hi ho
    rcases Nat.lt_or_ge i H.length with h | h
    · left
      unfold ordH at ho ⊢
      rw [List.getElem?_append_left h] at ho ⊢
      exact ho
    · obtain ⟨j, rfl⟩ := Nat.exists_eq_add_of_le h
      unfold ordH at ho ⊢
      rw [List.getElem?_append_right (by omega), Nat.add_sub_cancel_left] at ho ⊢
      rcases j with _ | _ | _ | _ | j
      · left; exact ho
      · right
        simp at ho
        subst ho
        rw [below_box]
        simp only [List.all_cons, below1_sl, List.all_nil, Bool.and_true, decide_eq_true_eq]
        omega
      · left; exact ho
      · right
        simp at ho
        subst ho
        rfl
      · left
        simp only [List.getElem?_cons_succ] at ho ⊢
        rwa [List.getElem?_append_left (by omega)] at ho
def ordE (H : AHeap) (n : Nat) (M : List (List Int)) (T : AHeap) : AHeap := ordH H n M M.length T
def doneK (n k : Nat) (o : List Int) (j : Nat) : List (List Int) := (upto j).flatMap fun i => if i ∈ o then [] else dfs n k (o ++ [i])
theorem doneK_succ (n k : Nat) (o : List Int) (j : Nat) : doneK n k o (j + 1) = doneK n k o j ++ if (j : Int) ∈ o then [] else dfs n k (o ++ [(j : Int)]) := by simp [doneK, upto_snoc, List.flatMap_append]
set_option maxRecDepth 10000 in
set_option maxHeartbeats 2000000 in
theorem node_step (n k : Nat) (hn4 : n ≤ 4) (o : List Int) (ho : o.length + (k + 1) = n) (h0 : 0 < o.length) (nn : Bool) (H : AHeap) (b : Nat)
    (ih : ∀ (i : Int) (L : List (List Int)) (T : AHeap), L.length ≤ b → Does Try.prog 21 [.d (.list false (ints (o ++ [i]))), .ptr H.length 0 0 0, .ptr (H.length + 1) 0 0 0, .ptr (H.length + 2) 0 0 0] (ordE H n L T) (.ok (.tup [])) (ordE H n (L ++ dfs n k (o ++ [i])) T))
    (L : List (List Int)) (hL : ∀ j, j < n → (L ++ doneK n k o j).length ≤ b) (T : AHeap) :
    Does Try.prog 21 [.d (.list nn (ints o)), .ptr H.length 0 0 0, .ptr (H.length + 1) 0 0 0, .ptr (H.length + 2) 0 0 0] (ordE H n L T) (.ok (.tup [])) (ordE H n (L ++ doneK n k o n) T) := by
  have c1 : (((o.length : Nat) : Int) = (n : Int)) = False := eq_false (by omega)
  have c2 : (o.length = n) = False := eq_false (by omega)
  generalize hE1 : ordE H n (L ++ doneK n k o n) T = E1
  refine Does.of_awp (hint := (fun _ => false)) Try.func21 (by kernel_rfl) rfl [] (by kernel_rfl) (by decide) (by simp [Try.ntmps21]) ?_
  rw [Try.ntmps21]
  simp (implicitDefEqProofs := false) only [↓reduceIte, go_sem, oread, owrite, Nat.reduceAdd, Nat.reduceSub, Nat.reduceMul, Nat.reduceLT, Nat.reduceLeDiff, Nat.reduceEqDiff, Nat.reduceBEq, Int.reduceLE, Int.reduceLT, Int.reduceEq, Int.reduceNe, Int.reduceAdd, Int.reduceSub, Int.reduceMul, Int.reduceNeg, Int.reduceToNat, Int.reduceNatCast, reduceCtorEq, eq_self, ordE, ordH, ints_len, c1, c2]
  refine awp_for (fun j s H' => H' = ordE H n (L ++ doneK n k o j) T ∧ s 0 = .d (.list nn (ints o)) ∧ s 1 = .ptr H.length 0 0 0 ∧ s 2 = .ptr (H.length + 1) 0 0 0 ∧ s 3 = .ptr (H.length + 2) 0 0 0 ∧ s 15 = iA n ∧ s 16 = iA j) n (by omega) (Weak.refl _ _) ?_ ?_ ?_
  · refine ⟨?_, ?_⟩
    · simp [doneK, upto, ordE, ordH]
    · simp (implicitDefEqProofs := false) only [↓reduceIte, go_sem, oread, owrite, Nat.reduceAdd, Nat.reduceSub, Nat.reduceMul, Nat.reduceLT, Nat.reduceLeDiff, Nat.reduceEqDiff, Nat.reduceBEq, Int.reduceLE, Int.reduceLT, Int.reduceEq, Int.reduceNe, Int.reduceAdd, Int.reduceSub, Int.reduceMul, Int.reduceNeg, Int.reduceToNat, Int.reduceNatCast, reduceCtorEq, eq_self]
  · rintro j s H' hj hw ⟨rfl, t0, t1, t2, t3, t15, t16⟩
    simp (implicitDefEqProofs := false) only [↓reduceIte, go_sem, oread, owrite, Nat.reduceAdd, Nat.reduceSub, Nat.reduceMul, Nat.reduceLT, Nat.reduceLeDiff, Nat.reduceEqDiff, Nat.reduceBEq, Int.reduceLE, Int.reduceLT, Int.reduceEq, Int.reduceNe, Int.reduceAdd, Int.reduceSub, Int.reduceMul, Int.reduceNeg, Int.reduceToNat, Int.reduceNatCast, reduceCtorEq, eq_self, t0, t15, t16, hj]
    refine KCall.ok (containsI_does o j nn _ (by omega)) ?_
    have hLj := hL j hj
    have hsc := doneK_succ n k o j
    by_cases hin : (j : Int) ∈ o
    · rw [if_pos hin, List.append_nil] at hsc
      simp (implicitDefEqProofs := false) only [↓reduceIte, go_sem, oread, owrite, Nat.reduceAdd, Nat.reduceSub, Nat.reduceMul, Nat.reduceLT, Nat.reduceLeDiff, Nat.reduceEqDiff, Nat.reduceBEq, Int.reduceLE, Int.reduceLT, Int.reduceEq, Int.reduceNe, Int.reduceAdd, Int.reduceSub, Int.reduceMul, Int.reduceNeg, Int.reduceToNat, Int.reduceNatCast, reduceCtorEq, eq_self, hin, t16]
      refine Rnd.same ⟨by rw [hsc], ?_⟩
      simp (implicitDefEqProofs := false) only [↓reduceIte, go_sem, oread, owrite, Nat.reduceAdd, Nat.reduceSub, Nat.reduceMul, Nat.reduceLT, Nat.reduceLeDiff, Nat.reduceEqDiff, Nat.reduceBEq, Int.reduceLE, Int.reduceLT, Int.reduceEq, Int.reduceNe, Int.reduceAdd, Int.reduceSub, Int.reduceMul, Int.reduceNeg, Int.reduceToNat, Int.reduceNatCast, reduceCtorEq, eq_self, t0, t1, t2, t3, t15, hw]
    · rw [if_neg hin] at hsc
      have hLL : (L ++ doneK n k o j ++ dfs n k (o ++ [(j : Int)])) = L ++ doneK n k o (j + 1) := by rw [hsc, List.append_assoc]
      have hd := ih j (L ++ doneK n k o j) (T ++ [.arr 3 1 3 []]) hLj
      rw [hLL] at hd
      have h3 : (ordE H n (L ++ doneK n k o j) T)[H.length + 2]? = some (.box 45 1 0 1 [.fn 21 [.ptr H.length 0 0 0, .ptr (H.length + 1) 0 0 0, .ptr (H.length + 2) 0 0 0]]) := by simp [ordE, ordH]
      have hT : ordE H n (L ++ doneK n k o j) (T ++ [.arr 3 1 3 []]) = ordE H n (L ++ doneK n k o j) T ++ [.arr 3 1 3 []] := by simp [ordE, ordH]
      rw [hT] at hd
      generalize ordE H n (L ++ doneK n k o j) T = E at *
      have hlt : H.length + 2 < E.length := (List.getElem?_eq_some_iff.1 h3).1
      simp (implicitDefEqProofs := false) only [↓reduceIte, go_sem, oread, owrite, Nat.reduceAdd, Nat.reduceSub, Nat.reduceMul, Nat.reduceLT, Nat.reduceLeDiff, Nat.reduceEqDiff, Nat.reduceBEq, Int.reduceLE, Int.reduceLT, Int.reduceEq, Int.reduceNe, Int.reduceAdd, Int.reduceSub, Int.reduceMul, Int.reduceNeg, Int.reduceToNat, Int.reduceNatCast, reduceCtorEq, eq_self, hin]
      refine awp_drawM [false, false, true, false, false, true] K.mixed (by kernel_rfl) (by kernel_rfl) (by kernel_rfl) ?_
      simp (implicitDefEqProofs := false) only [↓reduceIte, go_sem, oread, owrite, Nat.reduceAdd, Nat.reduceSub, Nat.reduceMul, Nat.reduceLT, Nat.reduceLeDiff, Nat.reduceEqDiff, Nat.reduceBEq, Int.reduceLE, Int.reduceLT, Int.reduceEq, Int.reduceNe, Int.reduceAdd, Int.reduceSub, Int.reduceMul, Int.reduceNeg, Int.reduceToNat, Int.reduceNatCast, reduceCtorEq, eq_self, t0, t3, h3]
      refine KCall.ok (cloneOwn_does o nn E h0 (by omega)) ?_
      simp (implicitDefEqProofs := false) only [↓reduceIte, go_sem, oread, owrite, Nat.reduceAdd, Nat.reduceSub, Nat.reduceMul, Nat.reduceLT, Nat.reduceLeDiff, Nat.reduceEqDiff, Nat.reduceBEq, Int.reduceLE, Int.reduceLT, Int.reduceEq, Int.reduceNe, Int.reduceAdd, Int.reduceSub, Int.reduceMul, Int.reduceNeg, Int.reduceToNat, Int.reduceNatCast, reduceCtorEq, eq_self, t0, t3, h3, ints_len, ints_snoc]
      refine ⟨Ext.app _ _, by omega, by omega, Ext.app _ _, ?_⟩
      have e2 : (E ++ [AObj.arr 3 1 2 (ints (o ++ [(j : Int)]))]).set E.length (.arr 3 1 3 []) = E ++ [.arr 3 1 3 []] := by simp
      refine KCall.frz [] (e := 3) (k := 1) (ver := 2) (es := ints (o ++ [(j : Int)])) (by simp) (by rw [List.drop_zero, List.take_of_length_le (by rw [ints_len]; simp), e2]; exact hd) ?_
      simp (implicitDefEqProofs := false) only [↓reduceIte, go_sem, oread, owrite, Nat.reduceAdd, Nat.reduceSub, Nat.reduceMul, Nat.reduceLT, Nat.reduceLeDiff, Nat.reduceEqDiff, Nat.reduceBEq, Int.reduceLE, Int.reduceLT, Int.reduceEq, Int.reduceNe, Int.reduceAdd, Int.reduceSub, Int.reduceMul, Int.reduceNeg, Int.reduceToNat, Int.reduceNatCast, reduceCtorEq, eq_self, t16]
      refine ⟨_, _, ord_cut H n L (L ++ doneK n k o (j + 1)) L.length (L ++ doneK n k o (j + 1)).length T [.arr 3 1 3 []] _, rfl, ?_⟩
      have q1 : H.length < H.length + (4 + T.length) := by omega
      have q2 : H.length + 1 < H.length + (4 + T.length) := by omega
      have q3 : H.length + 2 < H.length + (4 + T.length) := by omega
      simp (implicitDefEqProofs := false) only [↓reduceIte, go_sem, oread, owrite, Nat.reduceAdd, Nat.reduceSub, Nat.reduceMul, Nat.reduceLT, Nat.reduceLeDiff, Nat.reduceEqDiff, Nat.reduceBEq, Int.reduceLE, Int.reduceLT, Int.reduceEq, Int.reduceNe, Int.reduceAdd, Int.reduceSub, Int.reduceMul, Int.reduceNeg, Int.reduceToNat, Int.reduceNatCast, reduceCtorEq, eq_self, t0, t1, t2, t3, t15, hw, q1, q2, q3]
  · rintro s H' ⟨rfl, t0, t1, t2, t3, t15, t16⟩
    rw [hE1]
    simp (implicitDefEqProofs := false) only [↓reduceIte, go_sem, oread, owrite, Nat.reduceAdd, Nat.reduceSub, Nat.reduceMul, Nat.reduceLT, Nat.reduceLeDiff, Nat.reduceEqDiff, Nat.reduceBEq, Int.reduceLE, Int.reduceLT, Int.reduceEq, Int.reduceNe, Int.reduceAdd, Int.reduceSub, Int.reduceMul, Int.reduceNeg, Int.reduceToNat, Int.reduceNatCast, reduceCtorEq, eq_self, t15, t16]
    exact ⟨_, Weak.refl _ _, rfl⟩
set_option maxRecDepth 10000 in
set_option maxHeartbeats 2000000 in
theorem root_step (n k : Nat) (hn4 : n ≤ 4) (ho : k + 1 = n) (H : AHeap) (b : Nat)
    (ih : ∀ (i : Int) (L : List (List Int)) (T : AHeap), L.length ≤ b → Does Try.prog 21 [.d (.list false (ints [i])), .ptr H.length 0 0 0, .ptr (H.length + 1) 0 0 0, .ptr (H.length + 2) 0 0 0] (ordE H n L T) (.ok (.tup [])) (ordE H n (L ++ dfs n k [i]) T))
    (L : List (List Int)) (hL : ∀ j, j < n → (L ++ doneK n k [] j).length ≤ b) (T : AHeap) :
    Does Try.prog 21 [.d (.v (.slice none 0 0)), .ptr H.length 0 0 0, .ptr (H.length + 1) 0 0 0, .ptr (H.length + 2) 0 0 0] (ordE H n L T) (.ok (.tup [])) (ordE H n (L ++ doneK n k [] n) T) := by
  have c1 : ((0 : Int) = (n : Int)) = False := eq_false (by omega)
  have c2 : (0 = n) = False := eq_false (by omega)
  generalize hE1 : ordE H n (L ++ doneK n k [] n) T = E1
  refine Does.of_awp (hint := (fun _ => false)) Try.func21 (by kernel_rfl) rfl [] (by kernel_rfl) (by decide) (by simp [Try.ntmps21]) ?_
  rw [Try.ntmps21]
  simp (implicitDefEqProofs := false) only [↓reduceIte, go_sem, oread, owrite, Nat.reduceAdd, Nat.reduceSub, Nat.reduceMul, Nat.reduceLT, Nat.reduceLeDiff, Nat.reduceEqDiff, Nat.reduceBEq, Int.reduceLE, Int.reduceLT, Int.reduceEq, Int.reduceNe, Int.reduceAdd, Int.reduceSub, Int.reduceMul, Int.reduceNeg, Int.reduceToNat, Int.reduceNatCast, reduceCtorEq, eq_self, ordE, ordH, ints_len, c1, c2]
  refine awp_for (fun j s H' => H' = ordE H n (L ++ doneK n k [] j) T ∧ s 0 = .d (.v (.slice none 0 0)) ∧ s 1 = .ptr H.length 0 0 0 ∧ s 2 = .ptr (H.length + 1) 0 0 0 ∧ s 3 = .ptr (H.length + 2) 0 0 0 ∧ s 15 = iA n ∧ s 16 = iA j) n (by omega) (Weak.refl _ _) ?_ ?_ ?_
  · refine ⟨?_, ?_⟩
    · simp [doneK, upto, ordE, ordH]
    · simp (implicitDefEqProofs := false) only [↓reduceIte, go_sem, oread, owrite, Nat.reduceAdd, Nat.reduceSub, Nat.reduceMul, Nat.reduceLT, Nat.reduceLeDiff, Nat.reduceEqDiff, Nat.reduceBEq, Int.reduceLE, Int.reduceLT, Int.reduceEq, Int.reduceNe, Int.reduceAdd, Int.reduceSub, Int.reduceMul, Int.reduceNeg, Int.reduceToNat, Int.reduceNatCast, reduceCtorEq, eq_self]
  · rintro j s H' hj hw ⟨rfl, t0, t1, t2, t3, t15, t16⟩
    simp (implicitDefEqProofs := false) only [↓reduceIte, go_sem, oread, owrite, Nat.reduceAdd, Nat.reduceSub, Nat.reduceMul, Nat.reduceLT, Nat.reduceLeDiff, Nat.reduceEqDiff, Nat.reduceBEq, Int.reduceLE, Int.reduceLT, Int.reduceEq, Int.reduceNe, Int.reduceAdd, Int.reduceSub, Int.reduceMul, Int.reduceNeg, Int.reduceToNat, Int.reduceNatCast, reduceCtorEq, eq_self, t0, t15, t16, hj]
    refine KCall.sub (.cons .nil (.cons (.refl _) .nil)) (containsI_does [] j false _ (by simp)) ?_
    have hLj := hL j hj
    have hsc := doneK_succ n k [] j
    have hin : ¬ (j : Int) ∈ ([] : List Int) := by simp
    · rw [if_neg hin] at hsc
      have hLL : (L ++ doneK n k [] j ++ dfs n k [(j : Int)]) = L ++ doneK n k [] (j + 1) := by rw [hsc, List.append_assoc]; rfl
      have hd := ih j (L ++ doneK n k [] j) (T ++ [.arr 3 1 2 []]) hLj
      rw [hLL] at hd
      have h3 : (ordE H n (L ++ doneK n k [] j) T)[H.length + 2]? = some (.box 45 1 0 1 [.fn 21 [.ptr H.length 0 0 0, .ptr (H.length + 1) 0 0 0, .ptr (H.length + 2) 0 0 0]]) := by simp [ordE, ordH]
      have hT : ordE H n (L ++ doneK n k [] j) (T ++ [.arr 3 1 2 []]) = ordE H n (L ++ doneK n k [] j) T ++ [.arr 3 1 2 []] := by simp [ordE, ordH]
      rw [hT] at hd
      generalize ordE H n (L ++ doneK n k [] j) T = E at *
      have hlt : H.length + 2 < E.length := (List.getElem?_eq_some_iff.1 h3).1
      simp (implicitDefEqProofs := false) only [↓reduceIte, go_sem, oread, owrite, Nat.reduceAdd, Nat.reduceSub, Nat.reduceMul, Nat.reduceLT, Nat.reduceLeDiff, Nat.reduceEqDiff, Nat.reduceBEq, Int.reduceLE, Int.reduceLT, Int.reduceEq, Int.reduceNe, Int.reduceAdd, Int.reduceSub, Int.reduceMul, Int.reduceNeg, Int.reduceToNat, Int.reduceNatCast, reduceCtorEq, eq_self, List.not_mem_nil]
      refine awp_drawM [false, false, true, false, false, true] K.mixed (by kernel_rfl) (by kernel_rfl) (by kernel_rfl) ?_
      simp (implicitDefEqProofs := false) only [↓reduceIte, go_sem, oread, owrite, Nat.reduceAdd, Nat.reduceSub, Nat.reduceMul, Nat.reduceLT, Nat.reduceLeDiff, Nat.reduceEqDiff, Nat.reduceBEq, Int.reduceLE, Int.reduceLT, Int.reduceEq, Int.reduceNe, Int.reduceAdd, Int.reduceSub, Int.reduceMul, Int.reduceNeg, Int.reduceToNat, Int.reduceNatCast, reduceCtorEq, eq_self, t0, t3, h3]
      refine KCall.ok (cloneNil_does E) ?_
      simp (implicitDefEqProofs := false) only [↓reduceIte, go_sem, oread, owrite, Nat.reduceAdd, Nat.reduceSub, Nat.reduceMul, Nat.reduceLT, Nat.reduceLeDiff, Nat.reduceEqDiff, Nat.reduceBEq, Int.reduceLE, Int.reduceLT, Int.reduceEq, Int.reduceNe, Int.reduceAdd, Int.reduceSub, Int.reduceMul, Int.reduceNeg, Int.reduceToNat, Int.reduceNatCast, reduceCtorEq, eq_self, t0, t3, h3, ints_len, ints_snoc]
      refine ⟨Ext.refl _, Ext.app _ _, ?_⟩
      have e2 : (E ++ [AObj.arr 3 1 1 [[.v (.int .i64 (j : Int))]]]).set E.length (.arr 3 1 2 []) = E ++ [.arr 3 1 2 []] := by simp
      refine KCall.frz [] (e := 3) (k := 1) (ver := 1) (es := [[.v (.int .i64 (j : Int))]]) (by simp) (by rw [e2]; exact hd) ?_
      simp (implicitDefEqProofs := false) only [↓reduceIte, go_sem, oread, owrite, Nat.reduceAdd, Nat.reduceSub, Nat.reduceMul, Nat.reduceLT, Nat.reduceLeDiff, Nat.reduceEqDiff, Nat.reduceBEq, Int.reduceLE, Int.reduceLT, Int.reduceEq, Int.reduceNe, Int.reduceAdd, Int.reduceSub, Int.reduceMul, Int.reduceNeg, Int.reduceToNat, Int.reduceNatCast, reduceCtorEq, eq_self, t16]
      refine ⟨_, _, ord_cut H n L (L ++ doneK n k [] (j + 1)) L.length (L ++ doneK n k [] (j + 1)).length T [.arr 3 1 2 []] _, rfl, ?_⟩
      have q1 : H.length < H.length + (4 + T.length) := by omega
      have q2 : H.length + 1 < H.length + (4 + T.length) := by omega
      have q3 : H.length + 2 < H.length + (4 + T.length) := by omega
      simp (implicitDefEqProofs := false) only [↓reduceIte, go_sem, oread, owrite, Nat.reduceAdd, Nat.reduceSub, Nat.reduceMul, Nat.reduceLT, Nat.reduceLeDiff, Nat.reduceEqDiff, Nat.reduceBEq, Int.reduceLE, Int.reduceLT, Int.reduceEq, Int.reduceNe, Int.reduceAdd, Int.reduceSub, Int.reduceMul, Int.reduceNeg, Int.reduceToNat, Int.reduceNatCast, reduceCtorEq, eq_self, t0, t1, t2, t3, t15, hw, q1, q2, q3]
  · rintro s H' ⟨rfl, t0, t1, t2, t3, t15, t16⟩
    rw [hE1]
    simp (implicitDefEqProofs := false) only [↓reduceIte, go_sem, oread, owrite, Nat.reduceAdd, Nat.reduceSub, Nat.reduceMul, Nat.reduceLT, Nat.reduceLeDiff, Nat.reduceEqDiff, Nat.reduceBEq, Int.reduceLE, Int.reduceLT, Int.reduceEq, Int.reduceNe, Int.reduceAdd, Int.reduceSub, Int.reduceMul, Int.reduceNeg, Int.reduceToNat, Int.reduceNatCast, reduceCtorEq, eq_self, t15, t16]
    exact ⟨_, Weak.refl _ _, rfl⟩
theorem dfs_len (n : Nat) (hn : n ≤ 4) : ∀ (k : Nat) (o : List Int), (dfs n k o).length ≤ 4 ^ k
  | 0, o => by simp [dfs]
  | k + 1, o => by
    have : ∀ j, (doneK n k o j).length ≤ j * 4 ^ k := by
      intro j
      induction j with
      | zero => simp [doneK, upto]
      | succ j ih =>
        rw [doneK_succ, List.length_append, Nat.succ_mul]
        have := dfs_len n hn k (o ++ [(j : Int)])
        split
        · simp; omega
        · omega
    have h := this n
    have e : dfs n (k + 1) o = doneK n k o n := rfl
    rw [e, Nat.pow_succ, Nat.mul_comm]
    exact Nat.le_trans h (Nat.mul_le_mul_right _ hn)
theorem doneK_len (n : Nat) (hn : n ≤ 4) (k : Nat) (o : List Int) : ∀ j, (doneK n k o j).length ≤ j * 4 ^ k := by
  intro j
  induction j with
  | zero => simp [doneK, upto]
  | succ j ih =>
    rw [doneK_succ, List.length_append, Nat.succ_mul]
    have := dfs_len n hn k (o ++ [(j : Int)])
    split
    · simp; omega
    · omega
theorem node_does (n : Nat) (hn : 0 < n) (hn4 : n ≤ 4) (H : AHeap) : ∀ (k : Nat) (o : List Int) (nn : Bool) (L : List (List Int)) (T : AHeap), o.length + k = n → 0 < o.length → L.length ≤ 100000 - 4 ^ k → k ≤ 4 →
    Does Try.prog 21 [.d (.list nn (ints o)), .ptr H.length 0 0 0, .ptr (H.length + 1) 0 0 0, .ptr (H.length + 2) 0 0 0] (ordE H n L T) (.ok (.tup [])) (ordE H n (L ++ dfs n k o) T)
  | 0, o, nn, L, T, ho, h0, hL, _ => by
    have := leaf_does n o (by omega) hn hn4 L (by omega) nn H L.length T
    have e : (L ++ dfs n 0 o).length = L.length + 1 := by simp [dfs]
    unfold ordE
    rw [e]
    exact this
  | k + 1, o, nn, L, T, ho, h0, hL, hk => by
    have hp : 4 ^ k ≤ 256 := by
      have : k ≤ 4 := by omega
      rcases k with _ | _ | _ | _ | _ | k <;> first | decide | omega
    refine node_step n k hn4 o ho h0 nn H (100000 - 4 ^ k) (fun i L T hL => node_does n hn hn4 H k (o ++ [i]) false L T (by simp; omega) (by simp) hL (by omega)) L (fun j hj => ?_) T
    have := doneK_len n hn4 k o j
    have h2 : j * 4 ^ k ≤ 3 * 4 ^ k := Nat.mul_le_mul_right _ (by omega)
    rw [Nat.pow_succ] at hL
    rw [List.length_append]
    omega
theorem root_does (n : Nat) (hn : 0 < n) (hn4 : n ≤ 4) (H T : AHeap) :
    Does Try.prog 21 [.d (.v (.slice none 0 0)), .ptr H.length 0 0 0, .ptr (H.length + 1) 0 0 0, .ptr (H.length + 2) 0 0 0] (ordE H n [] T) (.ok (.tup [])) (ordE H n (dfs n n []) T) := by
  obtain ⟨k, rfl⟩ : ∃ k, n = k + 1 := ⟨n - 1, by omega⟩
  have hp : 4 ^ k ≤ 64 := by
    have : k ≤ 3 := by omega
    rcases k with _ | _ | _ | _ | k <;> first | decide | omega
  refine root_step (k + 1) k hn4 rfl H (100000 - 4 ^ k) (fun i L T hL => node_does (k + 1) hn hn4 H k [i] false L T (by simp; omega) (by simp) hL (by omega)) [] (fun j hj => ?_) T
  have := doneK_len (k + 1) hn4 k [] j
  have h2 : j * 4 ^ k ≤ 4 * 4 ^ k := Nat.mul_le_mul_right _ (by omega)
  rw [List.nil_append]
  omega
end Go.Proofs.Ytfjdggcemfebpaa

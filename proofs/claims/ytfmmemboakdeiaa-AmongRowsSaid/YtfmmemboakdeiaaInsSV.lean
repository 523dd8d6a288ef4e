/- slices' insertion sort over Val: what it does. -/
import Derived.Test.YtfmmemboakdeiaaRotV
namespace Go.Proofs.Ytfmmemboakdeiaa
open Go.Proofs.YtfmmemboakdeiaaAw Go.RowKit
set_option linter.unusedVariables false
set_option linter.unusedSimpArgs false
namespace SV
def ltC (c : Val → Val → Int) (x y : Val) : Bool := decide (c x y < 0)
/-- What a comparing function is asked for, whatever the array holds. -/
def CmpOk (g : FuncId) (caps : List AV) (c : Val → Val → Int) (H : AHeap) (id : Nat) : Prop := ∀ (o : AObj) (x y : Val), Does Try.prog g ([.agg (x.enc.map .d), .agg (y.enc.map .d)] ++ caps) (H.set id o) (.ok (iA (c x y))) (H.set id o)
theorem CmpOk.at {g : FuncId} {caps : List AV} {c : Val → Val → Int} {H : AHeap} {id : Nat} (h : CmpOk g caps c H id) (ver : Nat) (L : List Val) (x y : Val) : Does Try.prog g ([.agg (x.enc.map .d), .agg (y.enc.map .d)] ++ caps) (aH H id ver L) (.ok (iA (c x y))) (aH H id ver L) := h _ x y
structure InsI where
  L : List Val
  A : List Val
  B : List Val
set_option maxRecDepth 10000 in
set_option maxHeartbeats 2000000 in
theorem insSort_does (H : AHeap) (id ver : Nat) (hid : id < H.length) (g : FuncId) (caps : List AV) (c : Val → Val → Int) (ho : St.Ord (ltC c)) (hc : CmpOk g caps c H id) (P X Q L L' : List Val) (hL : L = P ++ X ++ Q) (hL' : L' = P ++ St.sortS (ltC c) X ++ Q) (a b n : Nat) (ha : P.length = a) (hb : P.length + X.length = b)
    (hn : L.length = n) (hbig : n ≤ 1000000000000) :
    Does Try.prog 64 [.sl id ver 0 n, iA a, iA b, .fn g caps] (aH H id ver L) (.ok (.tup [])) (aH H id ver L') := by
  have hnl : P.length + X.length + Q.length = n := by rw [← hn, hL]; simp; omega
  generalize hE0 : aH H id ver L = E0
  have w1 : IntKind.i64.wrap ((a : Int) + 1) = (a : Int) + 1 := wrap64_in _ (by omega) (by omega)
  refine Does.of_awp (hint := (fun _ => false)) Try.func64 (by kernel_rfl) rfl [] (by kernel_rfl) (by decide) (by simp [Try.ntmps64]) ?_
  rw [Try.ntmps64]
  simp (implicitDefEqProofs := false) only [↓reduceIte, go_sem, oread, owrite, Nat.reduceAdd, Nat.reduceSub, Nat.reduceMul, Nat.reduceLT, Nat.reduceLeDiff, Nat.reduceEqDiff, Nat.reduceBEq, Int.reduceLE, Int.reduceLT, Int.reduceEq, Int.reduceNe, Int.reduceAdd, Int.reduceSub, Int.reduceMul, Int.reduceNeg, Int.reduceToNat, Int.reduceNatCast, reduceCtorEq, eq_self, w1]
  refine awp_for3 (fun k s H' => (∃ Lk, H' = aH H id ver Lk ∧ Lk = P ++ (St.sortS (ltC c) (X.take (k + 1)) ++ (X.drop (k + 1) ++ Q))) ∧ s 0 = .sl id ver 0 n ∧ s 1 = iA a ∧ s 2 = iA b ∧ s 3 = .fn g caps ∧ s 8 = iA ((a : Int) + 1 + (k : Int))) (X.length - 1) (by omega) (Weak.refl _ _) ?_ ?_ ?_
  · refine ⟨⟨L, hE0.symm, ?_⟩, ?_⟩
    · have : St.sortS (ltC c) (X.take 1) = X.take 1 := by cases X <;> rfl
      rw [hL, this, ← List.append_assoc (X.take 1), List.take_append_drop, List.append_assoc]
    · simp (implicitDefEqProofs := false) only [↓reduceIte, go_sem, oread, owrite, Nat.reduceAdd, Nat.reduceSub, Nat.reduceMul, Nat.reduceLT, Nat.reduceLeDiff, Nat.reduceEqDiff, Nat.reduceBEq, Int.reduceLE, Int.reduceLT, Int.reduceEq, Int.reduceNe, Int.reduceAdd, Int.reduceSub, Int.reduceMul, Int.reduceNeg, Int.reduceToNat, Int.reduceNatCast, reduceCtorEq, eq_self, Int.add_zero]
  · rintro k s H' hk hw ⟨⟨Lk, rfl, hLk⟩, t0, t1, t2, t3, t8⟩
    have hkx : k + 1 < X.length := by omega
    have e1 : X.drop (k + 1) = X[k + 1] :: X.drop (k + 1 + 1) := List.drop_eq_getElem_cons hkx
    have e2 : X.take (k + 1 + 1) = X.take (k + 1) ++ [X[k + 1]] := List.take_succ_eq_append_getElem hkx
    have hSl := St.sortS_len (lt := ltC c) (X.take (k + 1))
    have hXl : (X.take (k + 1)).length = k + 1 := by simp; omega
    have hRl : (X.drop (k + 1 + 1)).length = X.length - (k + 2) := by simp
    rw [e1] at hLk
    rw [e2]
    have hlt : ((a : Int) + 1 + (k : Int) < (b : Int)) = True := eq_true (by omega)
    have hss := St.sortS_sorted ho (X.take (k + 1))
    generalize X[k + 1] = x at *
    generalize X.drop (k + 1 + 1) = R0 at *
    generalize X.take (k + 1) = X0 at *
    generalize hS : St.sortS (ltC c) X0 = S at *
    simp (implicitDefEqProofs := false) only [↓reduceIte, go_sem, oread, owrite, Nat.reduceAdd, Nat.reduceSub, Nat.reduceMul, Nat.reduceLT, Nat.reduceLeDiff, Nat.reduceEqDiff, Nat.reduceBEq, Int.reduceLE, Int.reduceLT, Int.reduceEq, Int.reduceNe, Int.reduceAdd, Int.reduceSub, Int.reduceMul, Int.reduceNeg, Int.reduceToNat, Int.reduceNatCast, reduceCtorEq, eq_self, t0, t1, t2, t3, t8, hlt]
    refine awp_loop _ _ _ _ (fun (z : InsI) s H' => H' = aH H id ver z.L ∧ z.L = P ++ z.A ++ x :: (z.B ++ (R0 ++ Q)) ∧ z.A ++ z.B = S ∧ (∀ y ∈ z.B, ltC c x y = true) ∧ s 0 = .sl id ver 0 n ∧ s 1 = iA a ∧ s 2 = iA b ∧ s 3 = .fn g caps ∧ s 8 = iA ((a : Int) + 1 + (k : Int)) ∧ s 9 = iA ((a + z.A.length : Nat) : Int)) (fun z => z.A.length) ⟨Lk, S, []⟩ (Weak.refl _ _) ?_ ?_
    · refine ⟨rfl, by rw [hLk]; simp, by simp, by simp, ?_⟩
      simp (implicitDefEqProofs := false) only [↓reduceIte, go_sem, oread, owrite, Nat.reduceAdd, Nat.reduceSub, Nat.reduceMul, Nat.reduceLT, Nat.reduceLeDiff, Nat.reduceEqDiff, Nat.reduceBEq, Int.reduceLE, Int.reduceLT, Int.reduceEq, Int.reduceNe, Int.reduceAdd, Int.reduceSub, Int.reduceMul, Int.reduceNeg, Int.reduceToNat, Int.reduceNatCast, reduceCtorEq, eq_self, t0, t1, t2, t3, t8, show ((a : Int) + 1 + (k : Int)) = ((a + S.length : Nat) : Int) by omega]
    · rintro ⟨L1, A, B⟩ s H' ⟨rfl, hL1, hAB, hB, t0, t1, t2, t3, t8, t9⟩
      simp only at hL1 hAB hB t0 t1 t2 t3 t8 t9
      have hABl : A.length + B.length = k + 1 := by rw [← List.length_append, hAB, hSl, hXl]
      have hL1n : L1.length = n := by rw [hL1]; simp; omega
      have fin : (∀ y ∈ A, ltC c x y = false) → L1 = P ++ (St.sortS (ltC c) (X0 ++ [x]) ++ (R0 ++ Q)) := fun hA => by
        rw [hL1, ← St.insert_eq ho (hAB.trans hS.symm) hB hA]; simp
      obtain ⟨j, hj⟩ : ∃ j, j = a + A.length := ⟨_, rfl⟩
      rw [← hj] at t9
      have hw8 : IntKind.i64.wrap ((a : Int) + 1 + (k : Int) + 1) = (a : Int) + 1 + ((k : Int) + 1) := by rw [wrap64_in _ (by omega) (by omega)]; omega
      rcases List.eq_nil_or_concat A with rfl | ⟨A', z, rfl⟩
      · have hja : ((a : Int) < (j : Int)) = False := eq_false (by simp at hj; omega)
        simp (implicitDefEqProofs := false) only [↓reduceIte, go_sem, oread, owrite, Nat.reduceAdd, Nat.reduceSub, Nat.reduceMul, Nat.reduceLT, Nat.reduceLeDiff, Nat.reduceEqDiff, Nat.reduceBEq, Int.reduceLE, Int.reduceLT, Int.reduceEq, Int.reduceNe, Int.reduceAdd, Int.reduceSub, Int.reduceMul, Int.reduceNeg, Int.reduceToNat, Int.reduceNatCast, reduceCtorEq, eq_self]
        refine awp_draw K.mixed (by kernel_rfl) ?_
        simp (implicitDefEqProofs := false) only [↓reduceIte, go_sem, oread, owrite, Nat.reduceAdd, Nat.reduceSub, Nat.reduceMul, Nat.reduceLT, Nat.reduceLeDiff, Nat.reduceEqDiff, Nat.reduceBEq, Int.reduceLE, Int.reduceLT, Int.reduceEq, Int.reduceNe, Int.reduceAdd, Int.reduceSub, Int.reduceMul, Int.reduceNeg, Int.reduceToNat, Int.reduceNatCast, reduceCtorEq, eq_self, t1, t9, hja, t8, hw8]
        refine Rnd.same ⟨⟨L1, rfl, fin (by simp)⟩, ?_⟩
        simp (implicitDefEqProofs := false) only [↓reduceIte, go_sem, oread, owrite, Nat.reduceAdd, Nat.reduceSub, Nat.reduceMul, Nat.reduceLT, Nat.reduceLeDiff, Nat.reduceEqDiff, Nat.reduceBEq, Int.reduceLE, Int.reduceLT, Int.reduceEq, Int.reduceNe, Int.reduceAdd, Int.reduceSub, Int.reduceMul, Int.reduceNeg, Int.reduceToNat, Int.reduceNatCast, reduceCtorEq, eq_self, t0, t1, t2, t3]
      · simp only [List.concat_eq_append, List.length_append, List.length_singleton] at hL1 hAB hj hABl fin
        have hja : ((a : Int) < (j : Int)) = True := eq_true (by omega)
        obtain ⟨i, hi⟩ : ∃ i, i = a + A'.length := ⟨_, rfl⟩
        have hw9 : IntKind.i64.wrap ((j : Int) - 1) = (i : Int) := by rw [wrap64_in _ (by omega) (by omega)]; omega
        have hL1' : L1 = (P ++ A') ++ z :: (x :: (B ++ (R0 ++ Q))) := by rw [hL1]; simp
        have hL1'' : L1 = (P ++ A' ++ [z]) ++ x :: (B ++ (R0 ++ Q)) := by rw [hL1]; simp
        have gz : L1[i]? = some z := by rw [hL1']; exact get_at (by simp; omega)
        have gx : L1[j]? = some x := by rw [hL1'']; exact get_at (by simp; omega)
        have il : i < n := by omega
        have jl : j < n := by omega
        have st : (L1.set j z).set i x = P ++ A' ++ x :: (z :: B ++ (R0 ++ Q)) := by
          rw [hL1'', set_at (by simp; omega)]
          have : P ++ A' ++ [z] ++ z :: (B ++ (R0 ++ Q)) = (P ++ A') ++ z :: (z :: (B ++ (R0 ++ Q))) := by simp
          rw [this, set_at (by simp; omega)]
          simp
        have gz' := get_enc gz
        have gx' := get_enc gx
        have gz2 : ((L1.set j z).map Val.enc)[i]? = some z.enc := by
          refine get_enc ?_
          rw [List.getElem?_set, if_neg (by omega)]; exact gz
        have s1 := set_enc L1 j z
        have s2 := set_enc (L1.set j z) i x
        rw [st] at s2
        have gh := aH_get hid ver L1
        have hd := hc.at ver L1 x z
        simp only [Val.enc] at gz' gx' gz2 s1 s2
        simp only [Val.enc, List.map_cons, List.map_nil] at hd
        simp (implicitDefEqProofs := false) only [↓reduceIte, go_sem, oread, owrite, Nat.reduceAdd, Nat.reduceSub, Nat.reduceMul, Nat.reduceLT, Nat.reduceLeDiff, Nat.reduceEqDiff, Nat.reduceBEq, Int.reduceLE, Int.reduceLT, Int.reduceEq, Int.reduceNe, Int.reduceAdd, Int.reduceSub, Int.reduceMul, Int.reduceNeg, Int.reduceToNat, Int.reduceNatCast, reduceCtorEq, eq_self]
        refine awp_draw K.mixed (by kernel_rfl) ?_
        simp (implicitDefEqProofs := false) only [↓reduceIte, go_sem, oread, owrite, Nat.reduceAdd, Nat.reduceSub, Nat.reduceMul, Nat.reduceLT, Nat.reduceLeDiff, Nat.reduceEqDiff, Nat.reduceBEq, Int.reduceLE, Int.reduceLT, Int.reduceEq, Int.reduceNe, Int.reduceAdd, Int.reduceSub, Int.reduceMul, Int.reduceNeg, Int.reduceToNat, Int.reduceNatCast, reduceCtorEq, eq_self, t0, t1, t3, t9, hja, hw9, il, jl, gh, gz', gx']
        refine KCall.ok hd ?_
        by_cases hlt2 : c x z < 0
        · have hltb : ltC c x z = true := by simp [ltC, hlt2]
          simp (implicitDefEqProofs := false) only [↓reduceIte, go_sem, oread, owrite, Nat.reduceAdd, Nat.reduceSub, Nat.reduceMul, Nat.reduceLT, Nat.reduceLeDiff, Nat.reduceEqDiff, Nat.reduceBEq, Int.reduceLE, Int.reduceLT, Int.reduceEq, Int.reduceNe, Int.reduceAdd, Int.reduceSub, Int.reduceMul, Int.reduceNeg, Int.reduceToNat, Int.reduceNatCast, reduceCtorEq, eq_self, hlt2]
          refine awp_drawN [false, false, false, false, false, false, false, false, false, false, false, false, false, false, true, true, true, true] 14 K.mixed (by kernel_rfl) (by kernel_rfl) (by kernel_rfl) ?_
          simp (implicitDefEqProofs := false) only [↓reduceIte, go_sem, oread, owrite, Nat.reduceAdd, Nat.reduceSub, Nat.reduceMul, Nat.reduceLT, Nat.reduceLeDiff, Nat.reduceEqDiff, Nat.reduceBEq, Int.reduceLE, Int.reduceLT, Int.reduceEq, Int.reduceNe, Int.reduceAdd, Int.reduceSub, Int.reduceMul, Int.reduceNeg, Int.reduceToNat, Int.reduceNatCast, reduceCtorEq, eq_self, t0, t1, t3, t9, hja, hw9, il, jl, gh, gz', gx', aH_set, aH_get hid, s1, gz2, s2, hid, List.getElem?_set_self, List.set_set]
          refine ⟨_, _, ⟨_, A', z :: B⟩, Weak.refl _ _, ⟨by rw [← aH_fold], rfl, by rw [← hAB]; simp, ?_, ?_⟩, by simp⟩
          · intro y hy
            rcases List.mem_cons.1 hy with rfl | hy
            · exact hltb
            · exact hB y hy
          · simp (implicitDefEqProofs := false) only [↓reduceIte, go_sem, oread, owrite, Nat.reduceAdd, Nat.reduceSub, Nat.reduceMul, Nat.reduceLT, Nat.reduceLeDiff, Nat.reduceEqDiff, Nat.reduceBEq, Int.reduceLE, Int.reduceLT, Int.reduceEq, Int.reduceNe, Int.reduceAdd, Int.reduceSub, Int.reduceMul, Int.reduceNeg, Int.reduceToNat, Int.reduceNatCast, reduceCtorEq, eq_self, t0, t1, t2, t3, t8, show ((a : Int) + (A'.length : Int)) = (i : Int) by omega]
        · have hltb : ltC c x z = false := by simp [ltC, hlt2]
          have hAx : ∀ y ∈ A' ++ [z], ltC c x y = false := by
            intro y hy
            have hso := hss
            rw [← hAB] at hso
            rcases List.mem_append.1 hy with hy | hy
            · exact ho.le_trans (hso.left.cross y hy z (by simp)) hltb
            · simp at hy; rw [hy]; exact hltb
          simp (implicitDefEqProofs := false) only [↓reduceIte, go_sem, oread, owrite, Nat.reduceAdd, Nat.reduceSub, Nat.reduceMul, Nat.reduceLT, Nat.reduceLeDiff, Nat.reduceEqDiff, Nat.reduceBEq, Int.reduceLE, Int.reduceLT, Int.reduceEq, Int.reduceNe, Int.reduceAdd, Int.reduceSub, Int.reduceMul, Int.reduceNeg, Int.reduceToNat, Int.reduceNatCast, reduceCtorEq, eq_self, hlt2, t8, hw8]
          refine Rnd.same ⟨⟨L1, rfl, fin hAx⟩, ?_⟩
          simp (implicitDefEqProofs := false) only [↓reduceIte, go_sem, oread, owrite, Nat.reduceAdd, Nat.reduceSub, Nat.reduceMul, Nat.reduceLT, Nat.reduceLeDiff, Nat.reduceEqDiff, Nat.reduceBEq, Int.reduceLE, Int.reduceLT, Int.reduceEq, Int.reduceNe, Int.reduceAdd, Int.reduceSub, Int.reduceMul, Int.reduceNeg, Int.reduceToNat, Int.reduceNatCast, reduceCtorEq, eq_self, t0, t1, t2, t3]
  · rintro s H' ⟨⟨Lk, rfl, hLk⟩, t0, t1, t2, t3, t8⟩
    have hlt : ((a : Int) + 1 + ((X.length - 1 : Nat) : Int) < (b : Int)) = False := eq_false (by omega)
    simp (implicitDefEqProofs := false) only [↓reduceIte, go_sem, oread, owrite, Nat.reduceAdd, Nat.reduceSub, Nat.reduceMul, Nat.reduceLT, Nat.reduceLeDiff, Nat.reduceEqDiff, Nat.reduceBEq, Int.reduceLE, Int.reduceLT, Int.reduceEq, Int.reduceNe, Int.reduceAdd, Int.reduceSub, Int.reduceMul, Int.reduceNeg, Int.reduceToNat, Int.reduceNatCast, reduceCtorEq, eq_self, t2, t8, hlt]
    have : Lk = L' := by
      rw [hLk, hL', List.take_of_length_le (by omega), List.drop_of_length_le (by omega)]; simp
    rw [this]
    exact ⟨_, Weak.refl _ _, rfl⟩
end SV
end Go.Proofs.Ytfmmemboakdeiaa

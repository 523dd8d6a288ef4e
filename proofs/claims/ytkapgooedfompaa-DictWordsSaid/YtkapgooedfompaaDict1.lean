/- dict.Below, dict.Codes, and the reference's: what they do. -/
import Derived.Test.YtkapgooedfompaaWords
import Derived.Test.YtkapgooedfompaaUs
import Derived.Test.YtkapgooedfompaaAwJ
import Derived.Test.YtkapgooedfompaaFindV
import Derived.Test.YtkapgooedfompaaRef05
namespace Go.Proofs.Ytkapgooedfompaa
open Go.Proofs.YtkapgooedfompaaAw Go.RowKit
set_option linter.unusedVariables false
set_option linter.unusedSimpArgs false
def belowP (words : List Val) (v : Val) : Nat := words.countP fun w => decide (cmpV w v < 0)
theorem belowP_snoc (l : List Val) (x v : Val) : belowP (l ++ [x]) v = if cmpV x v < 0 then belowP l v + 1 else belowP l v := by
  unfold belowP
  rw [List.countP_append]
  by_cases h : cmpV x v < 0 <;> simp [h]
theorem belowP_le (l : List Val) (v : Val) : belowP l v ≤ l.length := List.countP_le_length
set_option maxRecDepth 10000 in
set_option maxHeartbeats 1000000 in
theorem below_does (words : List Val) (v : Val) (nn : Bool) (H : AHeap) (hl : words.length ≤ 1000000000000) : Does Try.prog 13 [.d (.list nn (words.map Val.enc)), v.av] H (.ok (iA (belowP words v))) H := by
  refine Does.of_awp (hint := (fun _ => false)) Try.func13 (by kernel_rfl) rfl [4] (by kernel_rfl) (by decide) (by simp [Try.ntmps13]) ?_
  rw [Try.ntmps13]
  simp (implicitDefEqProofs := false) only [↓reduceIte, go_sem, oread, owrite, Nat.reduceAdd, Nat.reduceSub, Nat.reduceMul, Nat.reduceLT, Nat.reduceLeDiff, Nat.reduceEqDiff, Nat.reduceBEq, Int.reduceLE, Int.reduceLT, Int.reduceEq, Int.reduceNe, Int.reduceAdd, Int.reduceSub, Int.reduceMul, Int.reduceNeg, Int.reduceToNat, Int.reduceNatCast, reduceCtorEq, eq_self]
  refine awp_for (fun k s H' => H' = H ++ [.box 24 3 0 1 [iA v.kind, iA v.i, sA v.s]] ∧ s 3 = .ptr H.length 0 0 0 ∧ s 5 = iA (belowP (words.take k) v) ∧ s 8 = .d (.list nn (words.map Val.enc)) ∧ s 9 = iA words.length ∧ s 10 = iA k) words.length (by omega) (Weak.refl _ _) ?_ ?_ ?_
  · refine ⟨rfl, ?_⟩
    simp (implicitDefEqProofs := false) only [↓reduceIte, go_sem, oread, owrite, Nat.reduceAdd, Nat.reduceSub, Nat.reduceMul, Nat.reduceLT, Nat.reduceLeDiff, Nat.reduceEqDiff, Nat.reduceBEq, Int.reduceLE, Int.reduceLT, Int.reduceEq, Int.reduceNe, Int.reduceAdd, Int.reduceSub, Int.reduceMul, Int.reduceNeg, Int.reduceToNat, Int.reduceNatCast, reduceCtorEq, eq_self]
    rfl
  · rintro k s H' hk hw ⟨rfl, t3, t5, t8, t9, t10⟩
    have hx := List.getElem?_eq_getElem hk
    have e1 := List.take_succ_eq_append_getElem hk
    have e2 := belowP_snoc (words.take k) words[k] v
    rw [← e1] at e2
    have hb := belowP_le (words.take k) v
    rw [List.length_take] at hb
    generalize words[k] = x at hx e2
    obtain ⟨n, hn⟩ : ∃ n, n = belowP (words.take k) v := ⟨_, rfl⟩
    rw [← hn] at t5 e2 hb
    simp (implicitDefEqProofs := false) only [↓reduceIte, go_sem, oread, owrite, Nat.reduceAdd, Nat.reduceSub, Nat.reduceMul, Nat.reduceLT, Nat.reduceLeDiff, Nat.reduceEqDiff, Nat.reduceBEq, Int.reduceLE, Int.reduceLT, Int.reduceEq, Int.reduceNe, Int.reduceAdd, Int.reduceSub, Int.reduceMul, Int.reduceNeg, Int.reduceToNat, Int.reduceNatCast, reduceCtorEq, eq_self, t8, t9, t10, hk, hx, Val.enc]
    simp (implicitDefEqProofs := false) only [↓reduceIte, go_sem, oread, owrite, Nat.reduceAdd, Nat.reduceSub, Nat.reduceMul, Nat.reduceLT, Nat.reduceLeDiff, Nat.reduceEqDiff, Nat.reduceBEq, Int.reduceLE, Int.reduceLT, Int.reduceEq, Int.reduceNe, Int.reduceAdd, Int.reduceSub, Int.reduceMul, Int.reduceNeg, Int.reduceToNat, Int.reduceNatCast, reduceCtorEq, eq_self, t3, t5]
    refine KCall.ok (vcmp_does x v _) ?_
    have hw2 : IntKind.i64.wrap ((n : Int) + 1) = (n : Int) + 1 := wrap64_in _ (by omega) (by omega)
    by_cases hc : cmpV x v < 0
    · rw [if_pos hc] at e2
      simp (implicitDefEqProofs := false) only [↓reduceIte, go_sem, oread, owrite, Nat.reduceAdd, Nat.reduceSub, Nat.reduceMul, Nat.reduceLT, Nat.reduceLeDiff, Nat.reduceEqDiff, Nat.reduceBEq, Int.reduceLE, Int.reduceLT, Int.reduceEq, Int.reduceNe, Int.reduceAdd, Int.reduceSub, Int.reduceMul, Int.reduceNeg, Int.reduceToNat, Int.reduceNatCast, reduceCtorEq, eq_self, hc, t5, hw2, t10]
      refine Rnd.cut [.box 24 3 0 1 [iA v.kind, iA v.i, sA v.s]] [.box 24 3 0 1 [iA x.kind, iA x.i, sA x.s]] 1 rfl rfl (by simp (implicitDefEqProofs := false) only [↓reduceIte, go_sem, oread, owrite, Nat.reduceAdd, Nat.reduceSub, Nat.reduceMul, Nat.reduceLT, Nat.reduceLeDiff, Nat.reduceEqDiff, Nat.reduceBEq, Int.reduceLE, Int.reduceLT, Int.reduceEq, Int.reduceNe, Int.reduceAdd, Int.reduceSub, Int.reduceMul, Int.reduceNeg, Int.reduceToNat, Int.reduceNatCast, reduceCtorEq, eq_self]) ?_
      refine ⟨rfl, ?_⟩
      simp (implicitDefEqProofs := false) only [↓reduceIte, go_sem, oread, owrite, Nat.reduceAdd, Nat.reduceSub, Nat.reduceMul, Nat.reduceLT, Nat.reduceLeDiff, Nat.reduceEqDiff, Nat.reduceBEq, Int.reduceLE, Int.reduceLT, Int.reduceEq, Int.reduceNe, Int.reduceAdd, Int.reduceSub, Int.reduceMul, Int.reduceNeg, Int.reduceToNat, Int.reduceNatCast, reduceCtorEq, eq_self, t3, t8, t9, hw, e2, Nat.lt_succ_self, Nat.lt_add_one]
    · rw [if_neg hc] at e2
      simp (implicitDefEqProofs := false) only [↓reduceIte, go_sem, oread, owrite, Nat.reduceAdd, Nat.reduceSub, Nat.reduceMul, Nat.reduceLT, Nat.reduceLeDiff, Nat.reduceEqDiff, Nat.reduceBEq, Int.reduceLE, Int.reduceLT, Int.reduceEq, Int.reduceNe, Int.reduceAdd, Int.reduceSub, Int.reduceMul, Int.reduceNeg, Int.reduceToNat, Int.reduceNatCast, reduceCtorEq, eq_self, hc, t10]
      refine Rnd.cut [.box 24 3 0 1 [iA v.kind, iA v.i, sA v.s]] [.box 24 3 0 1 [iA x.kind, iA x.i, sA x.s]] 1 rfl rfl (by simp (implicitDefEqProofs := false) only [↓reduceIte, go_sem, oread, owrite, Nat.reduceAdd, Nat.reduceSub, Nat.reduceMul, Nat.reduceLT, Nat.reduceLeDiff, Nat.reduceEqDiff, Nat.reduceBEq, Int.reduceLE, Int.reduceLT, Int.reduceEq, Int.reduceNe, Int.reduceAdd, Int.reduceSub, Int.reduceMul, Int.reduceNeg, Int.reduceToNat, Int.reduceNatCast, reduceCtorEq, eq_self]) ?_
      refine ⟨rfl, ?_⟩
      simp (implicitDefEqProofs := false) only [↓reduceIte, go_sem, oread, owrite, Nat.reduceAdd, Nat.reduceSub, Nat.reduceMul, Nat.reduceLT, Nat.reduceLeDiff, Nat.reduceEqDiff, Nat.reduceBEq, Int.reduceLE, Int.reduceLT, Int.reduceEq, Int.reduceNe, Int.reduceAdd, Int.reduceSub, Int.reduceMul, Int.reduceNeg, Int.reduceToNat, Int.reduceNatCast, reduceCtorEq, eq_self, t3, t5, t8, t9, hw, e2, Nat.lt_succ_self, Nat.lt_add_one]
  · rintro s H' ⟨rfl, t3, t5, t8, t9, t10⟩
    rw [List.take_length] at t5
    simp (implicitDefEqProofs := false) only [↓reduceIte, go_sem, oread, owrite, Nat.reduceAdd, Nat.reduceSub, Nat.reduceMul, Nat.reduceLT, Nat.reduceLeDiff, Nat.reduceEqDiff, Nat.reduceBEq, Int.reduceLE, Int.reduceLT, Int.reduceEq, Int.reduceNe, Int.reduceAdd, Int.reduceSub, Int.reduceMul, Int.reduceNeg, Int.reduceToNat, Int.reduceNatCast, reduceCtorEq, eq_self, t5, t9, t10]
    refine AEnd.ret ?_
    simp (implicitDefEqProofs := false) only [↓reduceIte, go_sem, oread, owrite, Nat.reduceAdd, Nat.reduceSub, Nat.reduceMul, Nat.reduceLT, Nat.reduceLeDiff, Nat.reduceEqDiff, Nat.reduceBEq, Int.reduceLE, Int.reduceLT, Int.reduceEq, Int.reduceNe, Int.reduceAdd, Int.reduceSub, Int.reduceMul, Int.reduceNeg, Int.reduceToNat, Int.reduceNatCast, reduceCtorEq, eq_self]
set_option maxRecDepth 10000 in
set_option maxHeartbeats 1000000 in
theorem below09_does (words : List Val) (v : Val) (nn : Bool) (H : AHeap) (hl : words.length ≤ 1000000000000) (hs : ∀ k ∈ words, k.s.size ≤ 9223372036854775807) : Does Try.prog 14 [.d (.list nn (words.map Val.enc)), v.av] H (.ok (iA (belowP words v))) H := by
  refine Does.of_awp (hint := (fun _ => false)) Try.func14 (by kernel_rfl) rfl [4] (by kernel_rfl) (by decide) (by simp [Try.ntmps14]) ?_
  rw [Try.ntmps14]
  simp (implicitDefEqProofs := false) only [↓reduceIte, go_sem, oread, owrite, Nat.reduceAdd, Nat.reduceSub, Nat.reduceMul, Nat.reduceLT, Nat.reduceLeDiff, Nat.reduceEqDiff, Nat.reduceBEq, Int.reduceLE, Int.reduceLT, Int.reduceEq, Int.reduceNe, Int.reduceAdd, Int.reduceSub, Int.reduceMul, Int.reduceNeg, Int.reduceToNat, Int.reduceNatCast, reduceCtorEq, eq_self]
  refine awp_for3 (fun k s H' => H' = H ++ [.box 24 3 0 1 [iA v.kind, iA v.i, sA v.s]] ∧ s 0 = .d (.list nn (words.map Val.enc)) ∧ s 3 = .ptr H.length 0 0 0 ∧ s 5 = iA (belowP (words.take k) v) ∧ s 6 = iA k) words.length (by omega) (Weak.refl _ _) ?_ ?_ ?_
  · refine ⟨rfl, ?_⟩
    simp (implicitDefEqProofs := false) only [↓reduceIte, go_sem, oread, owrite, Nat.reduceAdd, Nat.reduceSub, Nat.reduceMul, Nat.reduceLT, Nat.reduceLeDiff, Nat.reduceEqDiff, Nat.reduceBEq, Int.reduceLE, Int.reduceLT, Int.reduceEq, Int.reduceNe, Int.reduceAdd, Int.reduceSub, Int.reduceMul, Int.reduceNeg, Int.reduceToNat, Int.reduceNatCast, reduceCtorEq, eq_self]
    rfl
  · rintro k s H' hk hw ⟨rfl, t0, t3, t5, t6⟩
    have hx := List.getElem?_eq_getElem hk
    have e1 := List.take_succ_eq_append_getElem hk
    have e2 := belowP_snoc (words.take k) words[k] v
    rw [← e1] at e2
    have hb := belowP_le (words.take k) v
    rw [List.length_take] at hb
    have hxs := hs _ (List.getElem_mem hk)
    generalize words[k] = x at hx e2 hxs
    obtain ⟨n, hn⟩ : ∃ n, n = belowP (words.take k) v := ⟨_, rfl⟩
    rw [← hn] at t5 e2 hb
    simp (implicitDefEqProofs := false) only [↓reduceIte, go_sem, oread, owrite, Nat.reduceAdd, Nat.reduceSub, Nat.reduceMul, Nat.reduceLT, Nat.reduceLeDiff, Nat.reduceEqDiff, Nat.reduceBEq, Int.reduceLE, Int.reduceLT, Int.reduceEq, Int.reduceNe, Int.reduceAdd, Int.reduceSub, Int.reduceMul, Int.reduceNeg, Int.reduceToNat, Int.reduceNatCast, reduceCtorEq, eq_self, t0, t6, hk]
    refine awp_draw K.mixed (by kernel_rfl) ?_
    simp (implicitDefEqProofs := false) only [↓reduceIte, go_sem, oread, owrite, Nat.reduceAdd, Nat.reduceSub, Nat.reduceMul, Nat.reduceLT, Nat.reduceLeDiff, Nat.reduceEqDiff, Nat.reduceBEq, Int.reduceLE, Int.reduceLT, Int.reduceEq, Int.reduceNe, Int.reduceAdd, Int.reduceSub, Int.reduceMul, Int.reduceNeg, Int.reduceToNat, Int.reduceNatCast, reduceCtorEq, eq_self, t0, t3, t6, hk, hx, Val.enc]
    refine KCall.ok (vcmp05_does x v hxs _) ?_
    have hw2 : IntKind.i64.wrap ((n : Int) + 1) = (n : Int) + 1 := wrap64_in _ (by omega) (by omega)
    by_cases hc : cmpV x v < 0
    · rw [if_pos hc] at e2
      simp (implicitDefEqProofs := false) only [↓reduceIte, go_sem, oread, owrite, Nat.reduceAdd, Nat.reduceSub, Nat.reduceMul, Nat.reduceLT, Nat.reduceLeDiff, Nat.reduceEqDiff, Nat.reduceBEq, Int.reduceLE, Int.reduceLT, Int.reduceEq, Int.reduceNe, Int.reduceAdd, Int.reduceSub, Int.reduceMul, Int.reduceNeg, Int.reduceToNat, Int.reduceNatCast, reduceCtorEq, eq_self, hc, t5, hw2, t6]
      refine Rnd.same ⟨rfl, ?_⟩
      simp (implicitDefEqProofs := false) only [↓reduceIte, go_sem, oread, owrite, Nat.reduceAdd, Nat.reduceSub, Nat.reduceMul, Nat.reduceLT, Nat.reduceLeDiff, Nat.reduceEqDiff, Nat.reduceBEq, Int.reduceLE, Int.reduceLT, Int.reduceEq, Int.reduceNe, Int.reduceAdd, Int.reduceSub, Int.reduceMul, Int.reduceNeg, Int.reduceToNat, Int.reduceNatCast, reduceCtorEq, eq_self, t0, t3, hw, e2]
    · rw [if_neg hc] at e2
      simp (implicitDefEqProofs := false) only [↓reduceIte, go_sem, oread, owrite, Nat.reduceAdd, Nat.reduceSub, Nat.reduceMul, Nat.reduceLT, Nat.reduceLeDiff, Nat.reduceEqDiff, Nat.reduceBEq, Int.reduceLE, Int.reduceLT, Int.reduceEq, Int.reduceNe, Int.reduceAdd, Int.reduceSub, Int.reduceMul, Int.reduceNeg, Int.reduceToNat, Int.reduceNatCast, reduceCtorEq, eq_self, hc, t6]
      refine Rnd.same ⟨rfl, ?_⟩
      simp (implicitDefEqProofs := false) only [↓reduceIte, go_sem, oread, owrite, Nat.reduceAdd, Nat.reduceSub, Nat.reduceMul, Nat.reduceLT, Nat.reduceLeDiff, Nat.reduceEqDiff, Nat.reduceBEq, Int.reduceLE, Int.reduceLT, Int.reduceEq, Int.reduceNe, Int.reduceAdd, Int.reduceSub, Int.reduceMul, Int.reduceNeg, Int.reduceToNat, Int.reduceNatCast, reduceCtorEq, eq_self, t0, t3, t5, hw, e2]
  · rintro s H' ⟨rfl, t0, t3, t5, t6⟩
    rw [List.take_length] at t5
    simp (implicitDefEqProofs := false) only [↓reduceIte, go_sem, oread, owrite, Nat.reduceAdd, Nat.reduceSub, Nat.reduceMul, Nat.reduceLT, Nat.reduceLeDiff, Nat.reduceEqDiff, Nat.reduceBEq, Int.reduceLE, Int.reduceLT, Int.reduceEq, Int.reduceNe, Int.reduceAdd, Int.reduceSub, Int.reduceMul, Int.reduceNeg, Int.reduceToNat, Int.reduceNatCast, reduceCtorEq, eq_self, t0, t5, t6]
    refine AEnd.ret ?_
    simp (implicitDefEqProofs := false) only [↓reduceIte, go_sem, oread, owrite, Nat.reduceAdd, Nat.reduceSub, Nat.reduceMul, Nat.reduceLT, Nat.reduceLeDiff, Nat.reduceEqDiff, Nat.reduceBEq, Int.reduceLE, Int.reduceLT, Int.reduceEq, Int.reduceNe, Int.reduceAdd, Int.reduceSub, Int.reduceMul, Int.reduceNeg, Int.reduceToNat, Int.reduceNatCast, reduceCtorEq, eq_self]
end Go.Proofs.Ytkapgooedfompaa

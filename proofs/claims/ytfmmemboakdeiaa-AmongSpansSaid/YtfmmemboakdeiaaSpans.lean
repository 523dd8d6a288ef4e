/- among.Spans: what it does. -/
import Derived.Test.YtfmmemboakdeiaaIn19
import Derived.Test.YtfmmemboakdeiaaArg
namespace Go.Proofs.Ytfmmemboakdeiaa
open Go.Proofs.YtfmmemboakdeiaaAw Go.RowKit
set_option linter.unusedVariables false
set_option linter.unusedSimpArgs false
/-- The last span is made longer. -/
def longer (L : List Span) (n : Int) : List Span := L.set (L.length - 1) ((L[L.length - 1]?.getD (0, 0)).1, n)
def joins (m n : Int) : Bool := decide (m < n) && decide (n - 1 = m)
def stepS (L : List Span) (prev : Option Val) (n : Int) : List Span := match prev with
  | some m => if joins m.i n then longer L n else L ++ [(n, n)]
  | none => L ++ [(n, n)]
def spansK (keys : List Val) : Nat → List Span
  | 0 => []
  | k + 1 => stepS (spansK keys k) (if k = 0 then none else keys[k - 1]?) ((keys[k]?.map (·.i)).getD 0)
theorem longer_len (L : List Span) (n : Int) : (longer L n).length = L.length := by simp [longer]
theorem spansK_le (keys : List Val) : ∀ k, (spansK keys k).length ≤ k
  | 0 => by simp [spansK]
  | k + 1 => by
    have := spansK_le keys k
    simp only [spansK, stepS]
    split
    · split
      · rw [longer_len]; omega
      · simp; omega
    · simp; omega
theorem spansK_pos (keys : List Val) : ∀ k, 0 < k → 0 < (spansK keys k).length
  | 0, h => by omega
  | k + 1, _ => by
    simp only [spansK, stepS]
    split
    · rename_i m hm
      split
      · rw [longer_len]
        refine spansK_pos keys k ?_
        by_cases h : k = 0
        · simp [h] at hm
        · omega
      · simp
    · simp
theorem spansK_succ {keys : List Val} {k : Nat} {v : Val} (h : keys[k]? = some v) : spansK keys (k + 1) = stepS (spansK keys k) (if k = 0 then none else keys[k - 1]?) v.i := by simp [spansK, h]
def allNum (keys : List Val) : Bool := keys.all fun k => decide (k.kind = 1)
def spansR (keys : List Val) : AV := if allNum keys then .tup [.d (.list false ((spansK keys keys.length).map encS)), bA true] else .tup [.d (.v (.slice none 0 0)), bA false]
theorem encS_set (L : List Span) (i : Nat) (s : Span) : (L.set i s).map encS = (L.map encS).set i (encS s) := List.map_set ..
theorem allNum_false {keys : List Val} {k : Nat} (hk : k < keys.length) (h : ¬ (keys[k]).kind = 1) : allNum keys = false := by
  unfold allNum
  rw [List.all_eq_false]
  exact ⟨keys[k], List.getElem_mem hk, by simp [h]⟩
theorem allNum_true {keys : List Val} (h : ∀ i (hi : i < keys.length), (keys[i]).kind = 1) : allNum keys = true := by
  unfold allNum
  rw [List.all_eq_true]
  intro x hx
  obtain ⟨i, hi, rfl⟩ := List.mem_iff_getElem.1 hx
  simp [h i hi]
theorem joins_wrap {m n : Int} (hm : I64 m) (hn : I64 n) (h : m < n) : IntKind.i64.wrap (n - 1) = n - 1 := by
  obtain ⟨a, b⟩ := hm
  obtain ⟨c, d⟩ := hn
  exact wrap64_in _ (by omega) (by omega)
set_option maxRecDepth 10000 in
set_option maxHeartbeats 2000000 in
theorem spans_does (keys : List Val) (n1 : Bool) (H : AHeap) (hl : keys.length ≤ 1000000000000) (hok : ∀ k ∈ keys, I64 k.i) : Does Try.prog 11 [.d (.list n1 (keys.map Val.enc))] H (.ok (spansR keys)) H := by
  refine Does.of_awp (hint := (fun _ => false)) Try.func11 (by kernel_rfl) rfl [2, 3] (by kernel_rfl) (by decide) (by simp [Try.ntmps11]) ?_
  rw [Try.ntmps11]
  simp (implicitDefEqProofs := false) only [↓reduceIte, go_sem, oread, owrite, Nat.reduceAdd, Nat.reduceSub, Nat.reduceMul, Nat.reduceLT, Nat.reduceLeDiff, Nat.reduceEqDiff, Nat.reduceBEq, Int.reduceLE, Int.reduceLT, Int.reduceEq, Int.reduceNe, Int.reduceAdd, Int.reduceSub, Int.reduceMul, Int.reduceNeg, Int.reduceToNat, Int.reduceNatCast, reduceCtorEq, eq_self]
  refine awp_for (fun k s H' => ∃ ver, H' = H ++ [.arr 33 2 ver ((spansK keys k).map encS)] ∧ (∀ i (hi : i < k) (hl : i < keys.length), (keys[i]).kind = 1) ∧ s 0 = .d (.list n1 (keys.map Val.enc)) ∧ s 4 = .sl H.length ver 0 (spansK keys k).length ∧ s 7 = .d (.list n1 (keys.map Val.enc)) ∧ s 8 = iA keys.length ∧ s 9 = iA k) keys.length (by omega)
    (Weak.virt1 _ _ 4 33 2 (by decide) (by simp (implicitDefEqProofs := false) only [↓reduceIte, go_sem, oread, owrite, Nat.reduceAdd, Nat.reduceSub, Nat.reduceMul, Nat.reduceLT, Nat.reduceLeDiff, Nat.reduceEqDiff, Nat.reduceBEq, Int.reduceLE, Int.reduceLT, Int.reduceEq, Int.reduceNe, Int.reduceAdd, Int.reduceSub, Int.reduceMul, Int.reduceNeg, Int.reduceToNat, Int.reduceNatCast, reduceCtorEq, eq_self]) _) ?_ ?_ ?_
  · refine ⟨0, rfl, fun i hi => by omega, ?_⟩
    simp (implicitDefEqProofs := false) only [↓reduceIte, go_sem, oread, owrite, Nat.reduceAdd, Nat.reduceSub, Nat.reduceMul, Nat.reduceLT, Nat.reduceLeDiff, Nat.reduceEqDiff, Nat.reduceBEq, Int.reduceLE, Int.reduceLT, Int.reduceEq, Int.reduceNe, Int.reduceAdd, Int.reduceSub, Int.reduceMul, Int.reduceNeg, Int.reduceToNat, Int.reduceNatCast, reduceCtorEq, eq_self, show (spansK keys 0) = [] from rfl, List.length_nil]
  · rintro k s H' hk hw ⟨ver, rfl, hp, t0, t4, t7, t8, t9⟩
    have hx := List.getElem?_eq_getElem hk
    have hle := spansK_le keys k
    have hpos := spansK_pos keys k
    have hsucc := spansK_succ hx
    have hbad := allNum_false hk
    have hi1 := hok keys[k] (List.getElem_mem hk)
    have hpp : (keys[k]).kind = 1 → ∀ i (hi : i < k + 1) (hl : i < keys.length), (keys[i]).kind = 1 := fun h0 i hi hl' => by
      rcases Nat.lt_or_ge i k with h | h
      · exact hp i h hl'
      · obtain rfl : i = k := by omega
        exact h0
    generalize keys[k] = x at hx hsucc hbad hi1 hpp
    have hL : ∀ L : List Span, spansK keys k = L → True := fun _ _ => trivial
    generalize hLe : spansK keys k = L at hle hpos hsucc t4 ⊢
    simp (implicitDefEqProofs := false) only [↓reduceIte, go_sem, oread, owrite, Nat.reduceAdd, Nat.reduceSub, Nat.reduceMul, Nat.reduceLT, Nat.reduceLeDiff, Nat.reduceEqDiff, Nat.reduceBEq, Int.reduceLE, Int.reduceLT, Int.reduceEq, Int.reduceNe, Int.reduceAdd, Int.reduceSub, Int.reduceMul, Int.reduceNeg, Int.reduceToNat, Int.reduceNatCast, reduceCtorEq, eq_self, t0, t4, t7, t8, t9, hk, hx, Val.enc]
    by_cases h1 : x.kind = 1
    · simp (implicitDefEqProofs := false) only [↓reduceIte, go_sem, oread, owrite, Nat.reduceAdd, Nat.reduceSub, Nat.reduceMul, Nat.reduceLT, Nat.reduceLeDiff, Nat.reduceEqDiff, Nat.reduceBEq, Int.reduceLE, Int.reduceLT, Int.reduceEq, Int.reduceNe, Int.reduceAdd, Int.reduceSub, Int.reduceMul, Int.reduceNeg, Int.reduceToNat, Int.reduceNatCast, reduceCtorEq, eq_self, h1]
      by_cases hk0 : k = 0
      · have e2 : (0 < k) = False := eq_false (by omega)
        rw [if_pos hk0] at hsucc
        refine awp_draw K.mixed (by kernel_rfl) ?_
        have e2i : ((0 : Int) < (k : Int)) = False := eq_false (by omega)
        simp (implicitDefEqProofs := false) only [↓reduceIte, go_sem, oread, owrite, Nat.reduceAdd, Nat.reduceSub, Nat.reduceMul, Nat.reduceLT, Nat.reduceLeDiff, Nat.reduceEqDiff, Nat.reduceBEq, Int.reduceLE, Int.reduceLT, Int.reduceEq, Int.reduceNe, Int.reduceAdd, Int.reduceSub, Int.reduceMul, Int.reduceNeg, Int.reduceToNat, Int.reduceNatCast, reduceCtorEq, eq_self, t0, t4, t9, e2, e2i]
        refine ⟨by omega, by omega, ?_⟩
        refine Rnd.cut [.arr 33 2 (ver + 1) ((spansK keys (k + 1)).map encS)] [.box 26 3 0 1 [iA 1, iA x.i, sA x.s]] 1 rfl ?_ (by simp (implicitDefEqProofs := false) only [↓reduceIte, go_sem, oread, owrite, Nat.reduceAdd, Nat.reduceSub, Nat.reduceMul, Nat.reduceLT, Nat.reduceLeDiff, Nat.reduceEqDiff, Nat.reduceBEq, Int.reduceLE, Int.reduceLT, Int.reduceEq, Int.reduceNe, Int.reduceAdd, Int.reduceSub, Int.reduceMul, Int.reduceNeg, Int.reduceToNat, Int.reduceNatCast, reduceCtorEq, eq_self]) ?_
        · rw [hsucc]
          simp (implicitDefEqProofs := false) only [↓reduceIte, go_sem, oread, owrite, Nat.reduceAdd, Nat.reduceSub, Nat.reduceMul, Nat.reduceLT, Nat.reduceLeDiff, Nat.reduceEqDiff, Nat.reduceBEq, Int.reduceLE, Int.reduceLT, Int.reduceEq, Int.reduceNe, Int.reduceAdd, Int.reduceSub, Int.reduceMul, Int.reduceNeg, Int.reduceToNat, Int.reduceNatCast, reduceCtorEq, eq_self, stepS, List.map_append, encS]
        · refine ⟨ver + 1, rfl, hpp h1, ?_⟩
          simp (implicitDefEqProofs := false) only [↓reduceIte, go_sem, oread, owrite, Nat.reduceAdd, Nat.reduceSub, Nat.reduceMul, Nat.reduceLT, Nat.reduceLeDiff, Nat.reduceEqDiff, Nat.reduceBEq, Int.reduceLE, Int.reduceLT, Int.reduceEq, Int.reduceNe, Int.reduceAdd, Int.reduceSub, Int.reduceMul, Int.reduceNeg, Int.reduceToNat, Int.reduceNatCast, reduceCtorEq, eq_self, t0, t7, t8, hw, hsucc, stepS, List.length_append]
      · obtain ⟨m, hm⟩ : ∃ m, keys[k - 1]? = some m := ⟨_, List.getElem?_eq_getElem (show k - 1 < keys.length by omega)⟩
        have hm1 : I64 m.i := hok m (List.mem_of_getElem? hm)
        have e1 : IntKind.i64.wrap ((k : Int) - 1) = ((k - 1 : Nat) : Int) := by rw [wrap64_in _ (by omega) (by omega)]; omega
        have e2 : (0 : Int) < (k : Int) := by omega
        have e3 : 0 < k := by omega
        rw [if_neg hk0, hm] at hsucc
        by_cases hlt : m.i < x.i
        · have e4 := joins_wrap hm1 hi1 hlt
          by_cases heq : x.i - 1 = m.i
          · have hj : joins m.i x.i = true := by simp [joins, hlt, heq]
            refine awp_draw K.mixed (by kernel_rfl) ?_
            simp (implicitDefEqProofs := false) only [↓reduceIte, go_sem, oread, owrite, Nat.reduceAdd, Nat.reduceSub, Nat.reduceMul, Nat.reduceLT, Nat.reduceLeDiff, Nat.reduceEqDiff, Nat.reduceBEq, Int.reduceLE, Int.reduceLT, Int.reduceEq, Int.reduceNe, Int.reduceAdd, Int.reduceSub, Int.reduceMul, Int.reduceNeg, Int.reduceToNat, Int.reduceNatCast, reduceCtorEq, eq_self, t0, t4, t9, e1, e2, e3, hm, hlt, e4, eq_true heq, Val.enc]
            have hLp := hpos e3
            obtain ⟨w, hw1⟩ : ∃ w, L[L.length - 1]? = some w := ⟨_, List.getElem?_eq_getElem (by omega)⟩
            have e5 : IntKind.i64.wrap ((L.length : Int) - 1) = ((L.length - 1 : Nat) : Int) := by rw [wrap64_in _ (by omega) (by omega)]; omega
            have e6 : L.length - 1 < L.length := by omega
            refine awp_drawK 7 K.mixed (by kernel_rfl) (by kernel_rfl) ?_
            simp (implicitDefEqProofs := false) only [↓reduceIte, go_sem, oread, owrite, Nat.reduceAdd, Nat.reduceSub, Nat.reduceMul, Nat.reduceLT, Nat.reduceLeDiff, Nat.reduceEqDiff, Nat.reduceBEq, Int.reduceLE, Int.reduceLT, Int.reduceEq, Int.reduceNe, Int.reduceAdd, Int.reduceSub, Int.reduceMul, Int.reduceNeg, Int.reduceToNat, Int.reduceNatCast, reduceCtorEq, eq_self, t4, t9, e5, e6, hw1, encS]
            have hset : (longer L x.i).map encS = (L.map encS).set (L.length - 1) (encS (w.1, x.i)) := by
              unfold longer
              rw [hw1, encS_set]
              rfl
            refine Rnd.cut [.arr 33 2 ver ((spansK keys (k + 1)).map encS)] [.box 26 3 0 1 [iA 1, iA x.i, sA x.s]] 1 rfl ?_ (by simp (implicitDefEqProofs := false) only [↓reduceIte, go_sem, oread, owrite, Nat.reduceAdd, Nat.reduceSub, Nat.reduceMul, Nat.reduceLT, Nat.reduceLeDiff, Nat.reduceEqDiff, Nat.reduceBEq, Int.reduceLE, Int.reduceLT, Int.reduceEq, Int.reduceNe, Int.reduceAdd, Int.reduceSub, Int.reduceMul, Int.reduceNeg, Int.reduceToNat, Int.reduceNatCast, reduceCtorEq, eq_self]) ?_
            · rw [hsucc]
              simp (implicitDefEqProofs := false) only [↓reduceIte, go_sem, oread, owrite, Nat.reduceAdd, Nat.reduceSub, Nat.reduceMul, Nat.reduceLT, Nat.reduceLeDiff, Nat.reduceEqDiff, Nat.reduceBEq, Int.reduceLE, Int.reduceLT, Int.reduceEq, Int.reduceNe, Int.reduceAdd, Int.reduceSub, Int.reduceMul, Int.reduceNeg, Int.reduceToNat, Int.reduceNatCast, reduceCtorEq, eq_self, stepS, hj, hset, encS]
            · refine ⟨ver, rfl, hpp h1, ?_⟩
              simp (implicitDefEqProofs := false) only [↓reduceIte, go_sem, oread, owrite, Nat.reduceAdd, Nat.reduceSub, Nat.reduceMul, Nat.reduceLT, Nat.reduceLeDiff, Nat.reduceEqDiff, Nat.reduceBEq, Int.reduceLE, Int.reduceLT, Int.reduceEq, Int.reduceNe, Int.reduceAdd, Int.reduceSub, Int.reduceMul, Int.reduceNeg, Int.reduceToNat, Int.reduceNatCast, reduceCtorEq, eq_self, t0, t4, t7, t8, hw, hsucc, stepS, longer_len, hj]
          · have hj : joins m.i x.i = false := by simp [joins, hlt, heq]
            refine awp_draw K.mixed (by kernel_rfl) ?_
            simp (implicitDefEqProofs := false) only [↓reduceIte, go_sem, oread, owrite, Nat.reduceAdd, Nat.reduceSub, Nat.reduceMul, Nat.reduceLT, Nat.reduceLeDiff, Nat.reduceEqDiff, Nat.reduceBEq, Int.reduceLE, Int.reduceLT, Int.reduceEq, Int.reduceNe, Int.reduceAdd, Int.reduceSub, Int.reduceMul, Int.reduceNeg, Int.reduceToNat, Int.reduceNatCast, reduceCtorEq, eq_self, t0, t4, t9, e1, e2, e3, hm, hlt, e4, heq, Val.enc]
            refine ⟨by omega, by omega, ?_⟩
            refine Rnd.cut [.arr 33 2 (ver + 1) ((spansK keys (k + 1)).map encS)] [.box 26 3 0 1 [iA 1, iA x.i, sA x.s]] 1 rfl ?_ (by simp (implicitDefEqProofs := false) only [↓reduceIte, go_sem, oread, owrite, Nat.reduceAdd, Nat.reduceSub, Nat.reduceMul, Nat.reduceLT, Nat.reduceLeDiff, Nat.reduceEqDiff, Nat.reduceBEq, Int.reduceLE, Int.reduceLT, Int.reduceEq, Int.reduceNe, Int.reduceAdd, Int.reduceSub, Int.reduceMul, Int.reduceNeg, Int.reduceToNat, Int.reduceNatCast, reduceCtorEq, eq_self]) ?_
            · rw [hsucc]
              simp (implicitDefEqProofs := false) only [↓reduceIte, go_sem, oread, owrite, Nat.reduceAdd, Nat.reduceSub, Nat.reduceMul, Nat.reduceLT, Nat.reduceLeDiff, Nat.reduceEqDiff, Nat.reduceBEq, Int.reduceLE, Int.reduceLT, Int.reduceEq, Int.reduceNe, Int.reduceAdd, Int.reduceSub, Int.reduceMul, Int.reduceNeg, Int.reduceToNat, Int.reduceNatCast, reduceCtorEq, eq_self, stepS, List.map_append, encS, hj, Bool.false_eq_true]
            · refine ⟨ver + 1, rfl, hpp h1, ?_⟩
              simp (implicitDefEqProofs := false) only [↓reduceIte, go_sem, oread, owrite, Nat.reduceAdd, Nat.reduceSub, Nat.reduceMul, Nat.reduceLT, Nat.reduceLeDiff, Nat.reduceEqDiff, Nat.reduceBEq, Int.reduceLE, Int.reduceLT, Int.reduceEq, Int.reduceNe, Int.reduceAdd, Int.reduceSub, Int.reduceMul, Int.reduceNeg, Int.reduceToNat, Int.reduceNatCast, reduceCtorEq, eq_self, t0, t7, t8, hw, hsucc, stepS, List.length_append, hj, Bool.false_eq_true]
        · have hj : joins m.i x.i = false := by simp [joins, hlt]
          refine awp_draw K.mixed (by kernel_rfl) ?_
          simp (implicitDefEqProofs := false) only [↓reduceIte, go_sem, oread, owrite, Nat.reduceAdd, Nat.reduceSub, Nat.reduceMul, Nat.reduceLT, Nat.reduceLeDiff, Nat.reduceEqDiff, Nat.reduceBEq, Int.reduceLE, Int.reduceLT, Int.reduceEq, Int.reduceNe, Int.reduceAdd, Int.reduceSub, Int.reduceMul, Int.reduceNeg, Int.reduceToNat, Int.reduceNatCast, reduceCtorEq, eq_self, t0, t4, t9, e1, e2, e3, hm, hlt, Val.enc]
          refine ⟨by omega, by omega, ?_⟩
          refine Rnd.cut [.arr 33 2 (ver + 1) ((spansK keys (k + 1)).map encS)] [.box 26 3 0 1 [iA 1, iA x.i, sA x.s]] 1 rfl ?_ (by simp (implicitDefEqProofs := false) only [↓reduceIte, go_sem, oread, owrite, Nat.reduceAdd, Nat.reduceSub, Nat.reduceMul, Nat.reduceLT, Nat.reduceLeDiff, Nat.reduceEqDiff, Nat.reduceBEq, Int.reduceLE, Int.reduceLT, Int.reduceEq, Int.reduceNe, Int.reduceAdd, Int.reduceSub, Int.reduceMul, Int.reduceNeg, Int.reduceToNat, Int.reduceNatCast, reduceCtorEq, eq_self]) ?_
          · rw [hsucc]
            simp (implicitDefEqProofs := false) only [↓reduceIte, go_sem, oread, owrite, Nat.reduceAdd, Nat.reduceSub, Nat.reduceMul, Nat.reduceLT, Nat.reduceLeDiff, Nat.reduceEqDiff, Nat.reduceBEq, Int.reduceLE, Int.reduceLT, Int.reduceEq, Int.reduceNe, Int.reduceAdd, Int.reduceSub, Int.reduceMul, Int.reduceNeg, Int.reduceToNat, Int.reduceNatCast, reduceCtorEq, eq_self, stepS, List.map_append, encS, hj, Bool.false_eq_true]
          · refine ⟨ver + 1, rfl, hpp h1, ?_⟩
            simp (implicitDefEqProofs := false) only [↓reduceIte, go_sem, oread, owrite, Nat.reduceAdd, Nat.reduceSub, Nat.reduceMul, Nat.reduceLT, Nat.reduceLeDiff, Nat.reduceEqDiff, Nat.reduceBEq, Int.reduceLE, Int.reduceLT, Int.reduceEq, Int.reduceNe, Int.reduceAdd, Int.reduceSub, Int.reduceMul, Int.reduceNeg, Int.reduceToNat, Int.reduceNatCast, reduceCtorEq, eq_self, t0, t7, t8, hw, hsucc, stepS, List.length_append, hj, Bool.false_eq_true]
    · simp (implicitDefEqProofs := false) only [↓reduceIte, go_sem, oread, owrite, Nat.reduceAdd, Nat.reduceSub, Nat.reduceMul, Nat.reduceLT, Nat.reduceLeDiff, Nat.reduceEqDiff, Nat.reduceBEq, Int.reduceLE, Int.reduceLT, Int.reduceEq, Int.reduceNe, Int.reduceAdd, Int.reduceSub, Int.reduceMul, Int.reduceNeg, Int.reduceToNat, Int.reduceNatCast, reduceCtorEq, eq_self, h1]
      refine AEnd.ret ?_
      simp (implicitDefEqProofs := false) only [↓reduceIte, go_sem, oread, owrite, Nat.reduceAdd, Nat.reduceSub, Nat.reduceMul, Nat.reduceLT, Nat.reduceLeDiff, Nat.reduceEqDiff, Nat.reduceBEq, Int.reduceLE, Int.reduceLT, Int.reduceEq, Int.reduceNe, Int.reduceAdd, Int.reduceSub, Int.reduceMul, Int.reduceNeg, Int.reduceToNat, Int.reduceNatCast, reduceCtorEq, eq_self, spansR, hbad h1, Bool.false_eq_true]
  · rintro s H' ⟨ver, rfl, hp, t0, t4, t7, t8, t9⟩
    simp (implicitDefEqProofs := false) only [↓reduceIte, go_sem, oread, owrite, Nat.reduceAdd, Nat.reduceSub, Nat.reduceMul, Nat.reduceLT, Nat.reduceLeDiff, Nat.reduceEqDiff, Nat.reduceBEq, Int.reduceLE, Int.reduceLT, Int.reduceEq, Int.reduceNe, Int.reduceAdd, Int.reduceSub, Int.reduceMul, Int.reduceNeg, Int.reduceToNat, Int.reduceNatCast, reduceCtorEq, eq_self, t4, t8, t9]
    refine AEnd.ret ?_
    simp (implicitDefEqProofs := false) only [↓reduceIte, go_sem, oread, owrite, Nat.reduceAdd, Nat.reduceSub, Nat.reduceMul, Nat.reduceLT, Nat.reduceLeDiff, Nat.reduceEqDiff, Nat.reduceBEq, Int.reduceLE, Int.reduceLT, Int.reduceEq, Int.reduceNe, Int.reduceAdd, Int.reduceSub, Int.reduceMul, Int.reduceNeg, Int.reduceToNat, Int.reduceNatCast, reduceCtorEq, eq_self, spansR, allNum_true fun i hi => hp i hi hi, List.take_of_length_le]
end Go.Proofs.Ytfmmemboakdeiaa

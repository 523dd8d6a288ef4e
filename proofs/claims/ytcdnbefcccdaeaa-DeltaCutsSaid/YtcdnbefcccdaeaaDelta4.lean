/- delta.Sorted, delta.Bytes: what they do. -/
import Derived.Test.YtcdnbefcccdaeaaDelta3
import Derived.Test.YtcdnbefcccdaeaaArg
namespace Go.Proofs.Ytcdnbefcccdaeaa
open Go.Proofs.YtcdnbefcccdaeaaAw Go.RowKit
set_option linter.unusedVariables false
set_option linter.unusedSimpArgs false
def okAt (l : List Val) (k : Nat) : Prop := ∀ x y, l[k]? = some x → l[k + 1]? = some y → cmpV x y ≤ 0
def sortedP (l : List Val) : Bool := (List.range (l.length - 1)).all fun k => match l[k]?, l[k + 1]? with | some x, some y => decide (cmpV x y ≤ 0) | _, _ => true
theorem sortedP_iff (l : List Val) : sortedP l = true ↔ ∀ k, okAt l k := by
  unfold sortedP okAt
  rw [List.all_eq_true]
  constructor
  · intro h k x y hx hy
    have hlt := (List.getElem?_eq_some_iff.1 hy).1
    have := h k (List.mem_range.2 (by omega))
    rw [hx, hy] at this
    simpa using this
  · intro h k hk
    split
    · rename_i x y hx hy
      simpa using h k x y hx hy
    · rfl
set_option maxRecDepth 10000 in
set_option maxHeartbeats 1000000 in
theorem sorted_does (l : List Val) (nn : Bool) (H : AHeap) (hl : l.length ≤ 1000000000000) : Does Try.prog 12 [.d (.list nn (l.map Val.enc))] H (.ok (bA (sortedP l))) H := by
  refine Does.of_awp (hint := (fun _ => false)) Try.func12 (by kernel_rfl) rfl [2] (by kernel_rfl) (by decide) (by simp [Try.ntmps12]) ?_
  rw [Try.ntmps12]
  simp (implicitDefEqProofs := false) only [↓reduceIte, go_sem, oread, owrite, Nat.reduceAdd, Nat.reduceSub, Nat.reduceMul, Nat.reduceLT, Nat.reduceLeDiff, Nat.reduceEqDiff, Nat.reduceBEq, Int.reduceLE, Int.reduceLT, Int.reduceEq, Int.reduceNe, Int.reduceAdd, Int.reduceSub, Int.reduceMul, Int.reduceNeg, Int.reduceToNat, Int.reduceNatCast, reduceCtorEq, eq_self]
  refine awp_for (fun i s H' => H' = H ∧ (∀ j, j + 1 < i → okAt l j) ∧ s 0 = .d (.list nn (l.map Val.enc)) ∧ s 3 = bA true ∧ s 7 = iA l.length ∧ s 8 = iA i) l.length (by omega) (Weak.refl _ _) ?_ ?_ ?_
  · refine ⟨rfl, fun j hj => by omega, ?_⟩
    simp (implicitDefEqProofs := false) only [↓reduceIte, go_sem, oread, owrite, Nat.reduceAdd, Nat.reduceSub, Nat.reduceMul, Nat.reduceLT, Nat.reduceLeDiff, Nat.reduceEqDiff, Nat.reduceBEq, Int.reduceLE, Int.reduceLT, Int.reduceEq, Int.reduceNe, Int.reduceAdd, Int.reduceSub, Int.reduceMul, Int.reduceNeg, Int.reduceToNat, Int.reduceNatCast, reduceCtorEq, eq_self]
  · rintro i s H' hi hw ⟨rfl, hp, t0, t3, t7, t8⟩
    simp (implicitDefEqProofs := false) only [↓reduceIte, go_sem, oread, owrite, Nat.reduceAdd, Nat.reduceSub, Nat.reduceMul, Nat.reduceLT, Nat.reduceLeDiff, Nat.reduceEqDiff, Nat.reduceBEq, Int.reduceLE, Int.reduceLT, Int.reduceEq, Int.reduceNe, Int.reduceAdd, Int.reduceSub, Int.reduceMul, Int.reduceNeg, Int.reduceToNat, Int.reduceNatCast, reduceCtorEq, eq_self, t7, t8, hi]
    refine awp_for (fun k s H1 => H1 = H' ∧ (k < i ∨ i = 0 ∨ okAt l (i - 1)) ∧ s 0 = .d (.list nn (l.map Val.enc)) ∧ s 3 = bA true ∧ s 4 = iA i ∧ s 7 = iA l.length ∧ s 8 = iA i ∧ s 11 = iA i ∧ s 12 = iA k) i (by omega) (Weak.refl _ _) ?_ ?_ ?_
    · refine ⟨rfl, by omega, ?_⟩
      simp (implicitDefEqProofs := false) only [↓reduceIte, go_sem, oread, owrite, Nat.reduceAdd, Nat.reduceSub, Nat.reduceMul, Nat.reduceLT, Nat.reduceLeDiff, Nat.reduceEqDiff, Nat.reduceBEq, Int.reduceLE, Int.reduceLT, Int.reduceEq, Int.reduceNe, Int.reduceAdd, Int.reduceSub, Int.reduceMul, Int.reduceNeg, Int.reduceToNat, Int.reduceNatCast, reduceCtorEq, eq_self, t0, t3, t7, t8]
    · rintro k s H1 hk hw2 ⟨rfl, hq, t0, t3, t4, t7, t8, t11, t12⟩
      have hx := List.getElem?_eq_getElem (show k < l.length by omega)
      have hy := List.getElem?_eq_getElem hi
      generalize l[k] = x at hx
      generalize l[i] = y at hy
      have e1 : IntKind.i64.wrap ((i : Int) - 1) = ((i - 1 : Nat) : Int) := by rw [wrap64_in _ (by omega) (by omega)]; omega
      have hkl : k < l.length := by omega
      simp (implicitDefEqProofs := false) only [↓reduceIte, go_sem, oread, owrite, Nat.reduceAdd, Nat.reduceSub, Nat.reduceMul, Nat.reduceLT, Nat.reduceLeDiff, Nat.reduceEqDiff, Nat.reduceBEq, Int.reduceLE, Int.reduceLT, Int.reduceEq, Int.reduceNe, Int.reduceAdd, Int.reduceSub, Int.reduceMul, Int.reduceNeg, Int.reduceToNat, Int.reduceNatCast, reduceCtorEq, eq_self, t11, t12, hk]
      refine awp_draw K.mixed (by kernel_rfl) ?_
      by_cases hki : k = i - 1
      · have hki' : ((k : Int) = ((i - 1 : Nat) : Int)) = True := eq_true (by omega)
        simp (implicitDefEqProofs := false) only [↓reduceIte, go_sem, oread, owrite, Nat.reduceAdd, Nat.reduceSub, Nat.reduceMul, Nat.reduceLT, Nat.reduceLeDiff, Nat.reduceEqDiff, Nat.reduceBEq, Int.reduceLE, Int.reduceLT, Int.reduceEq, Int.reduceNe, Int.reduceAdd, Int.reduceSub, Int.reduceMul, Int.reduceNeg, Int.reduceToNat, Int.reduceNatCast, reduceCtorEq, eq_self, t0, t4, t12, e1, hki', hx, hy, hkl, hi, Val.enc]
        refine KCall.ok (vcmp_does x y _) ?_
        by_cases hc : 0 < cmpV x y
        · simp (implicitDefEqProofs := false) only [↓reduceIte, go_sem, oread, owrite, Nat.reduceAdd, Nat.reduceSub, Nat.reduceMul, Nat.reduceLT, Nat.reduceLeDiff, Nat.reduceEqDiff, Nat.reduceBEq, Int.reduceLE, Int.reduceLT, Int.reduceEq, Int.reduceNe, Int.reduceAdd, Int.reduceSub, Int.reduceMul, Int.reduceNeg, Int.reduceToNat, Int.reduceNatCast, reduceCtorEq, eq_self, hc]
          refine AEnd.ret0 ?_
          have : sortedP l = false := by
            rw [Bool.eq_false_iff]
            intro h
            have := (sortedP_iff l).1 h k x y hx (by rw [show k + 1 = i by omega]; exact hy)
            omega
          simp (implicitDefEqProofs := false) only [↓reduceIte, go_sem, oread, owrite, Nat.reduceAdd, Nat.reduceSub, Nat.reduceMul, Nat.reduceLT, Nat.reduceLeDiff, Nat.reduceEqDiff, Nat.reduceBEq, Int.reduceLE, Int.reduceLT, Int.reduceEq, Int.reduceNe, Int.reduceAdd, Int.reduceSub, Int.reduceMul, Int.reduceNeg, Int.reduceToNat, Int.reduceNatCast, reduceCtorEq, eq_self, this]
        · simp (implicitDefEqProofs := false) only [↓reduceIte, go_sem, oread, owrite, Nat.reduceAdd, Nat.reduceSub, Nat.reduceMul, Nat.reduceLT, Nat.reduceLeDiff, Nat.reduceEqDiff, Nat.reduceBEq, Int.reduceLE, Int.reduceLT, Int.reduceEq, Int.reduceNe, Int.reduceAdd, Int.reduceSub, Int.reduceMul, Int.reduceNeg, Int.reduceToNat, Int.reduceNatCast, reduceCtorEq, eq_self, hc, t12]
          refine Rnd.same ⟨rfl, .inr (.inr ?_), ?_⟩
          · intro x' y' hx' hy'
            rw [← hki, hx] at hx'
            rw [show i - 1 + 1 = i by omega, hy] at hy'
            cases hx'; cases hy'
            omega
          · simp (implicitDefEqProofs := false) only [↓reduceIte, go_sem, oread, owrite, Nat.reduceAdd, Nat.reduceSub, Nat.reduceMul, Nat.reduceLT, Nat.reduceLeDiff, Nat.reduceEqDiff, Nat.reduceBEq, Int.reduceLE, Int.reduceLT, Int.reduceEq, Int.reduceNe, Int.reduceAdd, Int.reduceSub, Int.reduceMul, Int.reduceNeg, Int.reduceToNat, Int.reduceNatCast, reduceCtorEq, eq_self, t0, t3, t4, t7, t8, t11, hw2]
      · have hki' : ((k : Int) = ((i - 1 : Nat) : Int)) = False := eq_false (by omega)
        simp (implicitDefEqProofs := false) only [↓reduceIte, go_sem, oread, owrite, Nat.reduceAdd, Nat.reduceSub, Nat.reduceMul, Nat.reduceLT, Nat.reduceLeDiff, Nat.reduceEqDiff, Nat.reduceBEq, Int.reduceLE, Int.reduceLT, Int.reduceEq, Int.reduceNe, Int.reduceAdd, Int.reduceSub, Int.reduceMul, Int.reduceNeg, Int.reduceToNat, Int.reduceNatCast, reduceCtorEq, eq_self, t0, t4, t12, e1, hki']
        refine Rnd.same ⟨rfl, by omega, ?_⟩
        simp (implicitDefEqProofs := false) only [↓reduceIte, go_sem, oread, owrite, Nat.reduceAdd, Nat.reduceSub, Nat.reduceMul, Nat.reduceLT, Nat.reduceLeDiff, Nat.reduceEqDiff, Nat.reduceBEq, Int.reduceLE, Int.reduceLT, Int.reduceEq, Int.reduceNe, Int.reduceAdd, Int.reduceSub, Int.reduceMul, Int.reduceNeg, Int.reduceToNat, Int.reduceNatCast, reduceCtorEq, eq_self, t0, t3, t4, t7, t8, t11, hw2]
    · rintro s H1 ⟨rfl, hq, t0, t3, t4, t7, t8, t11, t12⟩
      simp (implicitDefEqProofs := false) only [↓reduceIte, go_sem, oread, owrite, Nat.reduceAdd, Nat.reduceSub, Nat.reduceMul, Nat.reduceLT, Nat.reduceLeDiff, Nat.reduceEqDiff, Nat.reduceBEq, Int.reduceLE, Int.reduceLT, Int.reduceEq, Int.reduceNe, Int.reduceAdd, Int.reduceSub, Int.reduceMul, Int.reduceNeg, Int.reduceToNat, Int.reduceNatCast, reduceCtorEq, eq_self, t8, t11, t12]
      refine Rnd.same ⟨rfl, ?_, ?_⟩
      · intro j hj
        rcases Nat.lt_or_ge (j + 1) i with h | h
        · exact hp j h
        · rcases hq with h1 | h1 | h1
          · omega
          · omega
          · rwa [show j = i - 1 by omega]
      · simp (implicitDefEqProofs := false) only [↓reduceIte, go_sem, oread, owrite, Nat.reduceAdd, Nat.reduceSub, Nat.reduceMul, Nat.reduceLT, Nat.reduceLeDiff, Nat.reduceEqDiff, Nat.reduceBEq, Int.reduceLE, Int.reduceLT, Int.reduceEq, Int.reduceNe, Int.reduceAdd, Int.reduceSub, Int.reduceMul, Int.reduceNeg, Int.reduceToNat, Int.reduceNatCast, reduceCtorEq, eq_self, t0, t3, t7, hw]
  · rintro s H' ⟨rfl, hp, t0, t3, t7, t8⟩
    simp (implicitDefEqProofs := false) only [↓reduceIte, go_sem, oread, owrite, Nat.reduceAdd, Nat.reduceSub, Nat.reduceMul, Nat.reduceLT, Nat.reduceLeDiff, Nat.reduceEqDiff, Nat.reduceBEq, Int.reduceLE, Int.reduceLT, Int.reduceEq, Int.reduceNe, Int.reduceAdd, Int.reduceSub, Int.reduceMul, Int.reduceNeg, Int.reduceToNat, Int.reduceNatCast, reduceCtorEq, eq_self, t3, t7, t8]
    refine AEnd.ret0 ?_
    have : sortedP l = true := by
      rw [sortedP_iff]
      intro k x y hx hy
      exact hp k (List.getElem?_eq_some_iff.1 hy).1 x y hx hy
    simp (implicitDefEqProofs := false) only [↓reduceIte, go_sem, oread, owrite, Nat.reduceAdd, Nat.reduceSub, Nat.reduceMul, Nat.reduceLT, Nat.reduceLeDiff, Nat.reduceEqDiff, Nat.reduceBEq, Int.reduceLE, Int.reduceLT, Int.reduceEq, Int.reduceNe, Int.reduceAdd, Int.reduceSub, Int.reduceMul, Int.reduceNeg, Int.reduceToNat, Int.reduceNatCast, reduceCtorEq, eq_self, this]
/-! ### delta.Bytes -/
def bytesD (l : List Val) : List Nat := match l with
  | [] => []
  | v :: _ => putP (zigP v.i) ++ putP (widthP (stepsP l)) ++ packP (stepsP l) (widthP (stepsP l))
def deltaR (l : List Val) : AV := if plainP l 1 = 0 ∧ l ≠ [] then .tup [.d (.list false (bys (bytesD l))), iA 0] else .tup [.d (.v (.slice none 0 0)), iA (plainP l 1)]
theorem foldOr_le {l : List Nat} : ∀ {a : Nat}, a ≤ l.foldl (· ||| ·) a ∧ ∀ n ∈ l, n ≤ l.foldl (· ||| ·) a := by
  induction l with
  | nil => intro a; exact ⟨Nat.le_refl _, fun n hn => by simp at hn⟩
  | cons x l ih =>
    intro a
    simp only [List.foldl_cons]
    have h := ih (a := a ||| x)
    refine ⟨Nat.le_trans Nat.left_le_or h.1, fun n hn => ?_⟩
    rcases List.mem_cons.1 hn with rfl | hn
    · exact Nat.le_trans Nat.right_le_or h.1
    · exact h.2 n hn
theorem widthP_fits {l : List Nat} : ∀ n ∈ l, n < 2 ^ widthP l := fun n hn => Nat.lt_of_le_of_lt (foldOr_le.2 n hn) ((lenN_le _ _).1 (Nat.le_refl _))
theorem widthP_le {l : List Nat} (h : ∀ n ∈ l, n < 18446744073709551616) : widthP l ≤ 64 := lenN_le64 (foldOr_lt h (by decide))
theorem putP_len : ∀ (k n : Nat), n < 128 ^ k → (putP n).length ≤ k + 1 := by
  intro k
  induction k with
  | zero => intro n hn; rw [putP_small (by omega)]; simp
  | succ k ih =>
    intro n hn
    by_cases h : n < 128
    · rw [putP_small h]; simp
    · rw [putP_big h, List.length_cons]
      have := ih (n / 128) (by rw [Nat.div_lt_iff_lt_mul (by decide)]; exact hn)
      omega
theorem plainP_len {l : List Val} {k : Int} (h : plainP l k = 0) : l.length ≤ 4096 := by
  unfold plainP at h
  by_cases h1 : 4096 < l.length
  · rw [if_pos h1] at h
    split at h <;> omega
  · omega
set_option maxRecDepth 10000 in
set_option maxHeartbeats 1000000 in
theorem dbytes_does (l : List Val) (hok : ∀ v ∈ l, I64 v.i) (nn : Bool) (H : AHeap) (hl : l.length ≤ 1000000000000) : Does Try.prog 9 [.d (.list nn (l.map Val.enc))] H (.ok (deltaR l)) H := by
  have hbad : ∀ b : Bool, b = true ∨ b = false := by decide
  refine Does.of_awp (hint := (fun _ => false)) Try.func9 (by kernel_rfl) rfl [2, 3] (by kernel_rfl) (by decide) (by simp [Try.ntmps9]) ?_
  rw [Try.ntmps9]
  simp (implicitDefEqProofs := false) only [↓reduceIte, go_sem, oread, owrite, Nat.reduceAdd, Nat.reduceSub, Nat.reduceMul, Nat.reduceLT, Nat.reduceLeDiff, Nat.reduceEqDiff, Nat.reduceBEq, Int.reduceLE, Int.reduceLT, Int.reduceEq, Int.reduceNe, Int.reduceAdd, Int.reduceSub, Int.reduceMul, Int.reduceNeg, Int.reduceToNat, Int.reduceNatCast, reduceCtorEq, eq_self]
  refine KCall.ok (plain_does l 1 nn _ (by omega)) ?_
  by_cases h1 : plainP l 1 = 0
  · cases l with
    | nil =>
      simp (implicitDefEqProofs := false) only [↓reduceIte, go_sem, oread, owrite, Nat.reduceAdd, Nat.reduceSub, Nat.reduceMul, Nat.reduceLT, Nat.reduceLeDiff, Nat.reduceEqDiff, Nat.reduceBEq, Int.reduceLE, Int.reduceLT, Int.reduceEq, Int.reduceNe, Int.reduceAdd, Int.reduceSub, Int.reduceMul, Int.reduceNeg, Int.reduceToNat, Int.reduceNatCast, reduceCtorEq, eq_self, h1]
      refine AEnd.ret0 ?_
      simp (implicitDefEqProofs := false) only [↓reduceIte, go_sem, oread, owrite, Nat.reduceAdd, Nat.reduceSub, Nat.reduceMul, Nat.reduceLT, Nat.reduceLeDiff, Nat.reduceEqDiff, Nat.reduceBEq, Int.reduceLE, Int.reduceLT, Int.reduceEq, Int.reduceNe, Int.reduceAdd, Int.reduceSub, Int.reduceMul, Int.reduceNeg, Int.reduceToNat, Int.reduceNatCast, reduceCtorEq, eq_self, deltaR, h1, Ne, not_true, and_false]
    | cons v r =>
      have hs := stepsP_len (v :: r)
      have h4 := plainP_len h1
      have hl0 : (((v :: r).length : Nat) : Int) = 0 ↔ False := by simp; omega
      have hll := hok v (by simp)
      have hss := stepsP_lt (v :: r)
      simp (implicitDefEqProofs := false) only [↓reduceIte, go_sem, oread, owrite, Nat.reduceAdd, Nat.reduceSub, Nat.reduceMul, Nat.reduceLT, Nat.reduceLeDiff, Nat.reduceEqDiff, Nat.reduceBEq, Int.reduceLE, Int.reduceLT, Int.reduceEq, Int.reduceNe, Int.reduceAdd, Int.reduceSub, Int.reduceMul, Int.reduceNeg, Int.reduceToNat, Int.reduceNatCast, reduceCtorEq, eq_self, h1, show (((r.length : Nat) : Int) + 1 = 0) = False from eq_false (by omega)]
      refine KCall.ok (steps_does (v :: r) nn _ hl) ?_
      simp (implicitDefEqProofs := false) only [↓reduceIte, go_sem, oread, owrite, Nat.reduceAdd, Nat.reduceSub, Nat.reduceMul, Nat.reduceLT, Nat.reduceLeDiff, Nat.reduceEqDiff, Nat.reduceBEq, Int.reduceLE, Int.reduceLT, Int.reduceEq, Int.reduceNe, Int.reduceAdd, Int.reduceSub, Int.reduceMul, Int.reduceNeg, Int.reduceToNat, Int.reduceNatCast, reduceCtorEq, eq_self]
      refine KCall.ok (width_does _ false _ (by omega) hss) ?_
      have hw64 := widthP_le hss
      have hfit := widthP_fits (l := stepsP (v :: r))
      have hzl := zigP_lt hll.1 hll.2
      have hb : bytesD (v :: r) = putP (zigP v.i) ++ putP (widthP (stepsP (v :: r))) ++ packP (stepsP (v :: r)) (widthP (stepsP (v :: r))) := rfl
      generalize widthP (stepsP (v :: r)) = w at *
      generalize stepsP (v :: r) = S at *
      simp (implicitDefEqProofs := false) only [↓reduceIte, go_sem, oread, owrite, Nat.reduceAdd, Nat.reduceSub, Nat.reduceMul, Nat.reduceLT, Nat.reduceLeDiff, Nat.reduceEqDiff, Nat.reduceBEq, Int.reduceLE, Int.reduceLT, Int.reduceEq, Int.reduceNe, Int.reduceAdd, Int.reduceSub, Int.reduceMul, Int.reduceNeg, Int.reduceToNat, Int.reduceNatCast, reduceCtorEq, eq_self, Val.enc]
      refine KCall.ok (zig_does _ hll.1 hll.2 _) ?_
      simp (implicitDefEqProofs := false) only [↓reduceIte, go_sem, oread, owrite, Nat.reduceAdd, Nat.reduceSub, Nat.reduceMul, Nat.reduceLT, Nat.reduceLeDiff, Nat.reduceEqDiff, Nat.reduceBEq, Int.reduceLE, Int.reduceLT, Int.reduceEq, Int.reduceNe, Int.reduceAdd, Int.reduceSub, Int.reduceMul, Int.reduceNeg, Int.reduceToNat, Int.reduceNatCast, reduceCtorEq, eq_self]
      refine KCall.ok (putOwn_does _ hzl _) ?_
      simp (implicitDefEqProofs := false) only [↓reduceIte, go_sem, oread, owrite, Nat.reduceAdd, Nat.reduceSub, Nat.reduceMul, Nat.reduceLT, Nat.reduceLeDiff, Nat.reduceEqDiff, Nat.reduceBEq, Int.reduceLE, Int.reduceLT, Int.reduceEq, Int.reduceNe, Int.reduceAdd, Int.reduceSub, Int.reduceMul, Int.reduceNeg, Int.reduceToNat, Int.reduceNatCast, reduceCtorEq, eq_self, wrapU64N w (by omega)]
      refine KCall.ok (put_does w (by omega) _) ?_
      have l1 := putP_len 10 (zigP v.i) (by omega)
      have l2 := putP_len 10 w (by omega)
      simp (implicitDefEqProofs := false) only [↓reduceIte, go_sem, oread, owrite, Nat.reduceAdd, Nat.reduceSub, Nat.reduceMul, Nat.reduceLT, Nat.reduceLeDiff, Nat.reduceEqDiff, Nat.reduceBEq, Int.reduceLE, Int.reduceLT, Int.reduceEq, Int.reduceNe, Int.reduceAdd, Int.reduceSub, Int.reduceMul, Int.reduceNeg, Int.reduceToNat, Int.reduceNatCast, reduceCtorEq, eq_self, bys_one, bys_len, bys_app]
      refine ⟨by omega, by omega, ?_⟩
      refine KCall.ok (pack_does S w hw64 hfit (by omega) false _) ?_
      simp (implicitDefEqProofs := false) only [↓reduceIte, go_sem, oread, owrite, Nat.reduceAdd, Nat.reduceSub, Nat.reduceMul, Nat.reduceLT, Nat.reduceLeDiff, Nat.reduceEqDiff, Nat.reduceBEq, Int.reduceLE, Int.reduceLT, Int.reduceEq, Int.reduceNe, Int.reduceAdd, Int.reduceSub, Int.reduceMul, Int.reduceNeg, Int.reduceToNat, Int.reduceNatCast, reduceCtorEq, eq_self, bys_one, bys_len, bys_app, List.length_append]
      have l3 : (packP S w).length ≤ 100000 := by
        rw [packP, packB_len, bitsL_len]
        have : S.length * w ≤ 4096 * 64 := Nat.mul_le_mul (by omega) hw64
        omega
      refine ⟨by omega, by omega, AEnd.ret ?_⟩
      have ht : (bys (putP (zigP v.i) ++ (putP w ++ packP S w))).take ((putP (zigP v.i)).length + (putP w).length + (packP S w).length) = bys (putP (zigP v.i) ++ (putP w ++ packP S w)) := take_len _ _ (by rw [bys_len, List.length_append, List.length_append]; omega)
      simp (implicitDefEqProofs := false) only [↓reduceIte, go_sem, oread, owrite, Nat.reduceAdd, Nat.reduceSub, Nat.reduceMul, Nat.reduceLT, Nat.reduceLeDiff, Nat.reduceEqDiff, Nat.reduceBEq, Int.reduceLE, Int.reduceLT, Int.reduceEq, Int.reduceNe, Int.reduceAdd, Int.reduceSub, Int.reduceMul, Int.reduceNeg, Int.reduceToNat, Int.reduceNatCast, reduceCtorEq, eq_self, deltaR, h1, hb, ht, Ne, not_false_eq_true, and_self]
  · simp (implicitDefEqProofs := false) only [↓reduceIte, go_sem, oread, owrite, Nat.reduceAdd, Nat.reduceSub, Nat.reduceMul, Nat.reduceLT, Nat.reduceLeDiff, Nat.reduceEqDiff, Nat.reduceBEq, Int.reduceLE, Int.reduceLT, Int.reduceEq, Int.reduceNe, Int.reduceAdd, Int.reduceSub, Int.reduceMul, Int.reduceNeg, Int.reduceToNat, Int.reduceNatCast, reduceCtorEq, eq_self, h1]
    refine AEnd.ret0 ?_
    simp (implicitDefEqProofs := false) only [↓reduceIte, go_sem, oread, owrite, Nat.reduceAdd, Nat.reduceSub, Nat.reduceMul, Nat.reduceLT, Nat.reduceLeDiff, Nat.reduceEqDiff, Nat.reduceBEq, Int.reduceLE, Int.reduceLT, Int.reduceEq, Int.reduceNe, Int.reduceAdd, Int.reduceSub, Int.reduceMul, Int.reduceNeg, Int.reduceToNat, Int.reduceNatCast, reduceCtorEq, eq_self, deltaR, h1, false_and]
end Go.Proofs.Ytcdnbefcccdaeaa

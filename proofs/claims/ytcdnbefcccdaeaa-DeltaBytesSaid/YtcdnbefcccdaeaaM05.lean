/- The document's numbers of bits, and of bytes (layers 1, 2): what they do. The document's bits of bytes (layer 1): what they do. The document's Pack, Bits, Get, Unpack (layer 1): what they do. The document's Compare (layers 4 and 5): what it does: the same as val.Compare. The document's Get (layer 2), May (layer 5), Kinds and Check (layer 7): what they do. Stable sorting, in plain Lean: what is sorted, and stands alike within each class, is one list. Three-way comparing functions: what they have in common; val.Compare is one. -/
import Derived.Test.YtcdnbefcccdaeaaM04
namespace Go.Proofs.Ytcdnbefcccdaeaa
open Go.Proofs.YtcdnbefcccdaeaaAw Go.RowKit
set_option linter.unusedVariables false
set_option linter.unusedSimpArgs false
theorem tdivN (n c : Nat) : Int.tdiv (n : Int) (c : Int) = ((n / c : Nat) : Int) := by rw [Int.tdiv_eq_ediv_of_nonneg (by omega)]; rfl
theorem tmodN (n c : Nat) : Int.tmod (n : Int) (c : Int) = ((n % c : Nat) : Int) := by rw [Int.tmod_eq_emod_of_nonneg (by omega)]; rfl
theorem tdiv2 (n : Nat) : Int.tdiv (n : Int) 2 = ((n / 2 : Nat) : Int) := tdivN n 2
theorem tmod2 (n : Nat) : Int.tmod (n : Int) 2 = ((n % 2 : Nat) : Int) := tmodN n 2
theorem tdiv128 (n : Nat) : Int.tdiv (n : Int) 128 = ((n / 128 : Nat) : Int) := tdivN n 128
theorem tmod128 (n : Nat) : Int.tmod (n : Int) 128 = ((n % 128 : Nat) : Int) := tmodN n 128
theorem wrapDiv {n c : Nat} (h : n < 18446744073709551616) : IntKind.u64.wrap ((n / c : Nat) : Int) = ((n / c : Nat) : Int) := wrapU64N _ (Nat.lt_of_le_of_lt (Nat.div_le_self _ _) h)
theorem div_pow2 (n k : Nat) : n / 2 ^ k / 2 = n / 2 ^ (k + 1) := by rw [Nat.div_div_eq_div_mul, Nat.pow_succ]
theorem nat_eq0 (n : Nat) : ((n : Int) = 0) = (n = 0) := propext ⟨fun h => by omega, fun h => by omega⟩
theorem div_lt0 (n w : Nat) : (n / 2 ^ w = 0) = (n < 2 ^ w) := propext ⟨fun h => by
  rcases Nat.lt_or_ge n (2 ^ w) with h1 | h1
  · exact h1
  · have := Nat.div_pos h1 (Nat.two_pow_pos w); omega, fun h => Nat.div_eq_of_lt h⟩
set_option maxRecDepth 10000 in
theorem fits_does (n w : Nat) (hn : n < 18446744073709551616) (hw : w ≤ 1000) (H : AHeap) : Does Try.prog 52 [du n, iA w] H (.ok (bA (decide (n < 2 ^ w)))) H := by
  refine Does.of_awp (hint := (fun _ => false)) Try.func52 (by kernel_rfl) rfl [4] (by kernel_rfl) (by decide) (by simp [Try.ntmps52]) ?_
  rw [Try.ntmps52]
  simp (implicitDefEqProofs := false) only [↓reduceIte, go_sem, oread, owrite, Nat.reduceAdd, Nat.reduceSub, Nat.reduceMul, Nat.reduceLT, Nat.reduceLeDiff, Nat.reduceEqDiff, Nat.reduceBEq, Int.reduceLE, Int.reduceLT, Int.reduceEq, Int.reduceNe, Int.reduceAdd, Int.reduceSub, Int.reduceMul, Int.reduceNeg, Int.reduceToNat, Int.reduceNatCast, reduceCtorEq, eq_self]
  refine awp_for3 (fun k s H' => H' = H ∧ s 0 = du (n / 2 ^ k) ∧ s 1 = iA w ∧ s 5 = iA k) w (by omega) (Weak.refl _ _) ?_ ?_ ?_
  · refine ⟨rfl, ?_⟩
    simp (implicitDefEqProofs := false) only [↓reduceIte, go_sem, oread, owrite, Nat.reduceAdd, Nat.reduceSub, Nat.reduceMul, Nat.reduceLT, Nat.reduceLeDiff, Nat.reduceEqDiff, Nat.reduceBEq, Int.reduceLE, Int.reduceLT, Int.reduceEq, Int.reduceNe, Int.reduceAdd, Int.reduceSub, Int.reduceMul, Int.reduceNeg, Int.reduceToNat, Int.reduceNatCast, reduceCtorEq, eq_self, Nat.pow_zero, Nat.div_one]
  · rintro k s H' hk hw2 ⟨rfl, t0, t1, t5⟩
    have e := div_pow2 n k
    have hlt : n / 2 ^ k < 18446744073709551616 := Nat.lt_of_le_of_lt (Nat.div_le_self _ _) hn
    have ew := wrapDiv (c := 2) hlt
    rw [← e]
    generalize n / 2 ^ k = m at *
    simp (implicitDefEqProofs := false) only [↓reduceIte, go_sem, oread, owrite, Nat.reduceAdd, Nat.reduceSub, Nat.reduceMul, Nat.reduceLT, Nat.reduceLeDiff, Nat.reduceEqDiff, Nat.reduceBEq, Int.reduceLE, Int.reduceLT, Int.reduceEq, Int.reduceNe, Int.reduceAdd, Int.reduceSub, Int.reduceMul, Int.reduceNeg, Int.reduceToNat, Int.reduceNatCast, reduceCtorEq, eq_self, t0, t1, t5, hk, tdiv2, ew]
    refine Rnd.same ⟨rfl, ?_⟩
    simp (implicitDefEqProofs := false) only [↓reduceIte, go_sem, oread, owrite, Nat.reduceAdd, Nat.reduceSub, Nat.reduceMul, Nat.reduceLT, Nat.reduceLeDiff, Nat.reduceEqDiff, Nat.reduceBEq, Int.reduceLE, Int.reduceLT, Int.reduceEq, Int.reduceNe, Int.reduceAdd, Int.reduceSub, Int.reduceMul, Int.reduceNeg, Int.reduceToNat, Int.reduceNatCast, reduceCtorEq, eq_self, t1, hw2]
  · rintro s H' ⟨rfl, t0, t1, t5⟩
    simp (implicitDefEqProofs := false) only [↓reduceIte, go_sem, oread, owrite, Nat.reduceAdd, Nat.reduceSub, Nat.reduceMul, Nat.reduceLT, Nat.reduceLeDiff, Nat.reduceEqDiff, Nat.reduceBEq, Int.reduceLE, Int.reduceLT, Int.reduceEq, Int.reduceNe, Int.reduceAdd, Int.reduceSub, Int.reduceMul, Int.reduceNeg, Int.reduceToNat, Int.reduceNatCast, reduceCtorEq, eq_self, t0, t1, t5, nat_eq0, div_lt0]
    refine AEnd.ret0 ?_
    simp (implicitDefEqProofs := false) only [↓reduceIte, go_sem, oread, owrite, Nat.reduceAdd, Nat.reduceSub, Nat.reduceMul, Nat.reduceLT, Nat.reduceLeDiff, Nat.reduceEqDiff, Nat.reduceBEq, Int.reduceLE, Int.reduceLT, Int.reduceEq, Int.reduceNe, Int.reduceAdd, Int.reduceSub, Int.reduceMul, Int.reduceNeg, Int.reduceToNat, Int.reduceNatCast, reduceCtorEq, eq_self]
theorem widthP_iff {l : List Nat} (w : Nat) : widthP l ≤ w ↔ ∀ n ∈ l, n < 2 ^ w := by
  refine ⟨fun h n hn => Nat.lt_of_lt_of_le (widthP_fits n hn) (Nat.pow_le_pow_right (by decide) h), fun h => ?_⟩
  unfold widthP
  rw [lenN_le]
  have key : ∀ {l : List Nat}, (∀ n ∈ l, n < 2 ^ w) → ∀ {a : Nat}, a < 2 ^ w → l.foldl (· ||| ·) a < 2 ^ w := by
    intro l
    induction l with
    | nil => exact fun _ {a} h => h
    | cons x l ih => exact fun h {a} ha => ih (fun n hn => h n (by simp [hn])) (Nat.or_lt_two_pow ha (h x (by simp)))
  exact key h (Nat.two_pow_pos w)
set_option maxRecDepth 10000 in
set_option maxHeartbeats 1000000 in
theorem rwidth_does (l : List Nat) (nn : Bool) (H : AHeap) (hl : l.length ≤ 1000000000000) (hu : ∀ n ∈ l, n < 18446744073709551616) : Does Try.prog 27 [.d (.list nn (us l))] H (.ok (iA (widthP l))) H := by
  have h64 := widthP_le hu
  refine Does.of_awp (hint := (fun _ => false)) Try.func27 (by kernel_rfl) rfl [2] (by kernel_rfl) (by decide) (by simp [Try.ntmps27]) ?_
  rw [Try.ntmps27]
  simp (implicitDefEqProofs := false) only [↓reduceIte, go_sem, oread, owrite, Nat.reduceAdd, Nat.reduceSub, Nat.reduceMul, Nat.reduceLT, Nat.reduceLeDiff, Nat.reduceEqDiff, Nat.reduceBEq, Int.reduceLE, Int.reduceLT, Int.reduceEq, Int.reduceNe, Int.reduceAdd, Int.reduceSub, Int.reduceMul, Int.reduceNeg, Int.reduceToNat, Int.reduceNatCast, reduceCtorEq, eq_self]
  refine awp_for3 (fun k s H' => H' = H ∧ k ≤ widthP l ∧ s 0 = .d (.list nn (us l)) ∧ s 3 = iA k) 64 (by omega) (Weak.refl _ _) ?_ ?_ ?_
  · refine ⟨rfl, Nat.zero_le _, ?_⟩
    simp (implicitDefEqProofs := false) only [↓reduceIte, go_sem, oread, owrite, Nat.reduceAdd, Nat.reduceSub, Nat.reduceMul, Nat.reduceLT, Nat.reduceLeDiff, Nat.reduceEqDiff, Nat.reduceBEq, Int.reduceLE, Int.reduceLT, Int.reduceEq, Int.reduceNe, Int.reduceAdd, Int.reduceSub, Int.reduceMul, Int.reduceNeg, Int.reduceToNat, Int.reduceNatCast, reduceCtorEq, eq_self]
  · rintro k s H' hk hw ⟨rfl, hkw, t0, t3⟩
    have hk' : ((k : Int) < 64) = True := eq_true (by omega)
    simp (implicitDefEqProofs := false) only [↓reduceIte, go_sem, oread, owrite, Nat.reduceAdd, Nat.reduceSub, Nat.reduceMul, Nat.reduceLT, Nat.reduceLeDiff, Nat.reduceEqDiff, Nat.reduceBEq, Int.reduceLE, Int.reduceLT, Int.reduceEq, Int.reduceNe, Int.reduceAdd, Int.reduceSub, Int.reduceMul, Int.reduceNeg, Int.reduceToNat, Int.reduceNatCast, reduceCtorEq, eq_self, t3, hk']
    refine awp_for3 (fun j s H2 => H2 = H' ∧ s 0 = .d (.list nn (us l)) ∧ s 3 = iA k ∧ s 4 = bA ((l.take j).all fun n => decide (n < 2 ^ k)) ∧ s 5 = iA j) l.length (by omega) (Weak.refl _ _) ?_ ?_ ?_
    · refine ⟨rfl, ?_⟩
      simp (implicitDefEqProofs := false) only [↓reduceIte, go_sem, oread, owrite, Nat.reduceAdd, Nat.reduceSub, Nat.reduceMul, Nat.reduceLT, Nat.reduceLeDiff, Nat.reduceEqDiff, Nat.reduceBEq, Int.reduceLE, Int.reduceLT, Int.reduceEq, Int.reduceNe, Int.reduceAdd, Int.reduceSub, Int.reduceMul, Int.reduceNeg, Int.reduceToNat, Int.reduceNatCast, reduceCtorEq, eq_self, t0, t3, List.take_zero, List.all_nil]
    · rintro j s H' hj hw2 ⟨rfl, t0, t3, t4, t5⟩
      have hx := us_get l j hj
      have hlt := hu _ (List.getElem_mem hj)
      have e : (l.take (j + 1)).all (fun n => decide (n < 2 ^ k)) = ((l.take j).all (fun n => decide (n < 2 ^ k)) && decide (l[j] < 2 ^ k)) := by rw [List.take_succ_eq_append_getElem hj, List.all_append]; simp
      rw [e]
      generalize l[j] = x at *
      generalize (l.take j).all (fun n => decide (n < 2 ^ k)) = b at *
      simp (implicitDefEqProofs := false) only [↓reduceIte, go_sem, oread, owrite, Nat.reduceAdd, Nat.reduceSub, Nat.reduceMul, Nat.reduceLT, Nat.reduceLeDiff, Nat.reduceEqDiff, Nat.reduceBEq, Int.reduceLE, Int.reduceLT, Int.reduceEq, Int.reduceNe, Int.reduceAdd, Int.reduceSub, Int.reduceMul, Int.reduceNeg, Int.reduceToNat, Int.reduceNatCast, reduceCtorEq, eq_self, t0, t3, t5, us_len, hj, hx]
      refine KCall.ok (fits_does x k hlt (by omega) _) ?_
      cases b
      · simp (implicitDefEqProofs := false) only [↓reduceIte, go_sem, oread, owrite, Nat.reduceAdd, Nat.reduceSub, Nat.reduceMul, Nat.reduceLT, Nat.reduceLeDiff, Nat.reduceEqDiff, Nat.reduceBEq, Int.reduceLE, Int.reduceLT, Int.reduceEq, Int.reduceNe, Int.reduceAdd, Int.reduceSub, Int.reduceMul, Int.reduceNeg, Int.reduceToNat, Int.reduceNatCast, reduceCtorEq, eq_self, t4, t5]
        refine Rnd.same ⟨rfl, ?_⟩
        simp (implicitDefEqProofs := false) only [↓reduceIte, go_sem, oread, owrite, Nat.reduceAdd, Nat.reduceSub, Nat.reduceMul, Nat.reduceLT, Nat.reduceLeDiff, Nat.reduceEqDiff, Nat.reduceBEq, Int.reduceLE, Int.reduceLT, Int.reduceEq, Int.reduceNe, Int.reduceAdd, Int.reduceSub, Int.reduceMul, Int.reduceNeg, Int.reduceToNat, Int.reduceNatCast, reduceCtorEq, eq_self, t0, t3, hw2, Bool.false_and]
      · simp (implicitDefEqProofs := false) only [↓reduceIte, go_sem, oread, owrite, Nat.reduceAdd, Nat.reduceSub, Nat.reduceMul, Nat.reduceLT, Nat.reduceLeDiff, Nat.reduceEqDiff, Nat.reduceBEq, Int.reduceLE, Int.reduceLT, Int.reduceEq, Int.reduceNe, Int.reduceAdd, Int.reduceSub, Int.reduceMul, Int.reduceNeg, Int.reduceToNat, Int.reduceNatCast, reduceCtorEq, eq_self, t4, t5]
        refine Rnd.same ⟨rfl, ?_⟩
        simp (implicitDefEqProofs := false) only [↓reduceIte, go_sem, oread, owrite, Nat.reduceAdd, Nat.reduceSub, Nat.reduceMul, Nat.reduceLT, Nat.reduceLeDiff, Nat.reduceEqDiff, Nat.reduceBEq, Int.reduceLE, Int.reduceLT, Int.reduceEq, Int.reduceNe, Int.reduceAdd, Int.reduceSub, Int.reduceMul, Int.reduceNeg, Int.reduceToNat, Int.reduceNatCast, reduceCtorEq, eq_self, t0, t3, hw2, Bool.true_and]
    · rintro s H' ⟨rfl, t0, t3, t4, t5⟩
      rw [show l.take l.length = l from List.take_length] at t4
      have hiff := widthP_iff (l := l) k
      cases hb : l.all fun n => decide (n < 2 ^ k) with
      | true =>
        rw [hb] at t4
        have : widthP l = k := by
          have : widthP l ≤ k := hiff.2 fun n hn => by simpa using List.all_eq_true.1 hb n hn
          omega
        simp (implicitDefEqProofs := false) only [↓reduceIte, go_sem, oread, owrite, Nat.reduceAdd, Nat.reduceSub, Nat.reduceMul, Nat.reduceLT, Nat.reduceLeDiff, Nat.reduceEqDiff, Nat.reduceBEq, Int.reduceLE, Int.reduceLT, Int.reduceEq, Int.reduceNe, Int.reduceAdd, Int.reduceSub, Int.reduceMul, Int.reduceNeg, Int.reduceToNat, Int.reduceNatCast, reduceCtorEq, eq_self, t0, t3, t4, t5, us_len]
        refine AEnd.ret0 ?_
        simp (implicitDefEqProofs := false) only [↓reduceIte, go_sem, oread, owrite, Nat.reduceAdd, Nat.reduceSub, Nat.reduceMul, Nat.reduceLT, Nat.reduceLeDiff, Nat.reduceEqDiff, Nat.reduceBEq, Int.reduceLE, Int.reduceLT, Int.reduceEq, Int.reduceNe, Int.reduceAdd, Int.reduceSub, Int.reduceMul, Int.reduceNeg, Int.reduceToNat, Int.reduceNatCast, reduceCtorEq, eq_self, this]
      | false =>
        rw [hb] at t4
        have : ¬ widthP l ≤ k := fun h => by
          have h2 := hiff.1 h
          rw [List.all_eq_false] at hb
          obtain ⟨x, hx, hn⟩ := hb
          exact hn (by simpa using h2 x hx)
        simp (implicitDefEqProofs := false) only [↓reduceIte, go_sem, oread, owrite, Nat.reduceAdd, Nat.reduceSub, Nat.reduceMul, Nat.reduceLT, Nat.reduceLeDiff, Nat.reduceEqDiff, Nat.reduceBEq, Int.reduceLE, Int.reduceLT, Int.reduceEq, Int.reduceNe, Int.reduceAdd, Int.reduceSub, Int.reduceMul, Int.reduceNeg, Int.reduceToNat, Int.reduceNatCast, reduceCtorEq, eq_self, t0, t3, t4, t5, us_len]
        refine Rnd.same ⟨rfl, by omega, ?_⟩
        simp (implicitDefEqProofs := false) only [↓reduceIte, go_sem, oread, owrite, Nat.reduceAdd, Nat.reduceSub, Nat.reduceMul, Nat.reduceLT, Nat.reduceLeDiff, Nat.reduceEqDiff, Nat.reduceBEq, Int.reduceLE, Int.reduceLT, Int.reduceEq, Int.reduceNe, Int.reduceAdd, Int.reduceSub, Int.reduceMul, Int.reduceNeg, Int.reduceToNat, Int.reduceNatCast, reduceCtorEq, eq_self, t0, hw]
  · rintro s H' ⟨rfl, hkw, t0, t3⟩
    simp (implicitDefEqProofs := false) only [↓reduceIte, go_sem, oread, owrite, Nat.reduceAdd, Nat.reduceSub, Nat.reduceMul, Nat.reduceLT, Nat.reduceLeDiff, Nat.reduceEqDiff, Nat.reduceBEq, Int.reduceLE, Int.reduceLT, Int.reduceEq, Int.reduceNe, Int.reduceAdd, Int.reduceSub, Int.reduceMul, Int.reduceNeg, Int.reduceToNat, Int.reduceNatCast, reduceCtorEq, eq_self, t3]
    refine AEnd.ret0 ?_
    rw [show widthP l = 64 by omega]
    simp (implicitDefEqProofs := false) only [↓reduceIte, go_sem, oread, owrite, Nat.reduceAdd, Nat.reduceSub, Nat.reduceMul, Nat.reduceLT, Nat.reduceLeDiff, Nat.reduceEqDiff, Nat.reduceBEq, Int.reduceLE, Int.reduceLT, Int.reduceEq, Int.reduceNe, Int.reduceAdd, Int.reduceSub, Int.reduceMul, Int.reduceNeg, Int.reduceToNat, Int.reduceNatCast, reduceCtorEq, eq_self]
set_option maxRecDepth 10000 in
set_option maxHeartbeats 1000000 in
theorem rputOwn_does (n0 : Nat) (hn : n0 < 18446744073709551616) (H : AHeap) : Does Try.prog 28 [du n0] H (.ok (.sl H.length (putP n0).length 0 (putP n0).length)) (H ++ [.arr 5 1 (putP n0).length (bys (putP n0))]) := by
  refine Does.of_awp (hint := (fun _ => false)) Try.func28 (by kernel_rfl) rfl [2] (by kernel_rfl) (by decide) (by simp [Try.ntmps28]) ?_
  rw [Try.ntmps28]
  simp (implicitDefEqProofs := false) only [↓reduceIte, go_sem, oread, owrite, Nat.reduceAdd, Nat.reduceSub, Nat.reduceMul, Nat.reduceLT, Nat.reduceLeDiff, Nat.reduceEqDiff, Nat.reduceBEq, Int.reduceLE, Int.reduceLT, Int.reduceEq, Int.reduceNe, Int.reduceAdd, Int.reduceSub, Int.reduceMul, Int.reduceNeg, Int.reduceToNat, Int.reduceNatCast, reduceCtorEq, eq_self]
  refine awp_loop _ _ _ _ (fun (x : Nat × List Nat) s H' => H' = H ++ [.arr 5 1 x.2.length (bys x.2)] ∧ x.1 * 128 ^ x.2.length ≤ n0 ∧ (x.2.length = 0 ∨ 0 < x.1) ∧ putP n0 = x.2 ++ putP x.1 ∧ s 0 = du x.1 ∧ s 3 = .sl H.length x.2.length 0 x.2.length) (fun x => x.1) (n0, []) (Weak.virt1 _ _ 3 5 1 (by decide) (by simp (implicitDefEqProofs := false) only [↓reduceIte, go_sem, oread, owrite, Nat.reduceAdd, Nat.reduceSub, Nat.reduceMul, Nat.reduceLT, Nat.reduceLeDiff, Nat.reduceEqDiff, Nat.reduceBEq, Int.reduceLE, Int.reduceLT, Int.reduceEq, Int.reduceNe, Int.reduceAdd, Int.reduceSub, Int.reduceMul, Int.reduceNeg, Int.reduceToNat, Int.reduceNatCast, reduceCtorEq, eq_self]) _) ?_ ?_
  · refine ⟨?_, by simp, .inl rfl, by simp, ?_⟩
    · simp (implicitDefEqProofs := false) only [↓reduceIte, go_sem, oread, owrite, Nat.reduceAdd, Nat.reduceSub, Nat.reduceMul, Nat.reduceLT, Nat.reduceLeDiff, Nat.reduceEqDiff, Nat.reduceBEq, Int.reduceLE, Int.reduceLT, Int.reduceEq, Int.reduceNe, Int.reduceAdd, Int.reduceSub, Int.reduceMul, Int.reduceNeg, Int.reduceToNat, Int.reduceNatCast, reduceCtorEq, eq_self, bys_nil, List.length_nil]
    · simp (implicitDefEqProofs := false) only [↓reduceIte, go_sem, oread, owrite, Nat.reduceAdd, Nat.reduceSub, Nat.reduceMul, Nat.reduceLT, Nat.reduceLeDiff, Nat.reduceEqDiff, Nat.reduceBEq, Int.reduceLE, Int.reduceLT, Int.reduceEq, Int.reduceNe, Int.reduceAdd, Int.reduceSub, Int.reduceMul, Int.reduceNeg, Int.reduceToNat, Int.reduceNatCast, reduceCtorEq, eq_self, List.length_nil]
  · rintro ⟨n, bs⟩ s H' ⟨rfl, h1, h3, h2, t0, t3⟩
    simp only at h1 h2 h3 t0 t3
    have hb : bs.length < 10 := by
      rcases Nat.lt_or_ge bs.length 10 with h | h
      · exact h
      · exfalso
        have h4 : 128 ^ 10 ≤ 128 ^ bs.length := Nat.pow_le_pow_right (by decide) h
        have h5 : 1 * 128 ^ bs.length ≤ n * 128 ^ bs.length := Nat.mul_le_mul_right _ (by omega)
        omega
    have hnn : n ≤ n0 := Nat.le_trans (Nat.le_mul_of_pos_right _ (Nat.pow_pos (by decide))) h1
    by_cases hlt : (127 : Int) < (n : Int)
    · have hpb : IntKind.u8.wrap (IntKind.u64.wrap (128 + ((n % 128 : Nat) : Int))) = ((n % 128 + 128 : Nat) : Int) := by
        rw [show (128 : Int) + ((n % 128 : Nat) : Int) = ((n % 128 + 128 : Nat) : Int) by omega, wrapU64N _ (by omega)]
        exact wrap8N _ (by omega)
      have hp2 := putP_big (n := n) (by omega)
      have hdw : IntKind.u64.wrap ((n / 128 : Nat) : Int) = ((n / 128 : Nat) : Int) := wrapU64N _ (by omega)
      generalize n % 128 + 128 = m at hpb hp2
      simp (implicitDefEqProofs := false) only [↓reduceIte, go_sem, oread, owrite, Nat.reduceAdd, Nat.reduceSub, Nat.reduceMul, Nat.reduceLT, Nat.reduceLeDiff, Nat.reduceEqDiff, Nat.reduceBEq, Int.reduceLE, Int.reduceLT, Int.reduceEq, Int.reduceNe, Int.reduceAdd, Int.reduceSub, Int.reduceMul, Int.reduceNeg, Int.reduceToNat, Int.reduceNatCast, reduceCtorEq, eq_self, t0, t3, hlt, tmod128, tdiv128, hpb, bys_len, bys_snoc, hdw]
      refine ⟨by omega, by omega, _, _, (n / 128, bs ++ [m]), .refl _ _, ⟨?_, ?_, .inr (by simp only; omega), ?_, ?_⟩, by simp only; omega⟩
      · simp (implicitDefEqProofs := false) only [↓reduceIte, go_sem, oread, owrite, Nat.reduceAdd, Nat.reduceSub, Nat.reduceMul, Nat.reduceLT, Nat.reduceLeDiff, Nat.reduceEqDiff, Nat.reduceBEq, Int.reduceLE, Int.reduceLT, Int.reduceEq, Int.reduceNe, Int.reduceAdd, Int.reduceSub, Int.reduceMul, Int.reduceNeg, Int.reduceToNat, Int.reduceNatCast, reduceCtorEq, eq_self, List.length_append]
      · simp only [List.length_append, List.length_singleton, Nat.pow_succ]
        have : n / 128 * (128 ^ bs.length * 128) = (n / 128 * 128) * 128 ^ bs.length := by rw [Nat.mul_comm (128 ^ _), ← Nat.mul_assoc]
        rw [this]
        exact Nat.le_trans (Nat.mul_le_mul_right _ (Nat.div_mul_le_self n 128)) h1
      · rw [h2, hp2]; simp
      · simp (implicitDefEqProofs := false) only [↓reduceIte, go_sem, oread, owrite, Nat.reduceAdd, Nat.reduceSub, Nat.reduceMul, Nat.reduceLT, Nat.reduceLeDiff, Nat.reduceEqDiff, Nat.reduceBEq, Int.reduceLE, Int.reduceLT, Int.reduceEq, Int.reduceNe, Int.reduceAdd, Int.reduceSub, Int.reduceMul, Int.reduceNeg, Int.reduceToNat, Int.reduceNatCast, reduceCtorEq, eq_self, List.length_append]
    · have hm : n % 256 = n := by omega
      simp (implicitDefEqProofs := false) only [↓reduceIte, go_sem, oread, owrite, Nat.reduceAdd, Nat.reduceSub, Nat.reduceMul, Nat.reduceLT, Nat.reduceLeDiff, Nat.reduceEqDiff, Nat.reduceBEq, Int.reduceLE, Int.reduceLT, Int.reduceEq, Int.reduceNe, Int.reduceAdd, Int.reduceSub, Int.reduceMul, Int.reduceNeg, Int.reduceToNat, Int.reduceNatCast, reduceCtorEq, eq_self, t0, t3, hlt, wrapU8mod, bys_len, hm, bys_snoc]
      have : putP n0 = bs ++ [n] := by rw [h2, putP_small (by omega)]
      rw [this, List.length_append, List.length_singleton]
      exact ⟨by omega, by omega, _, Weak.refl _ _, by simp (implicitDefEqProofs := false) only [↓reduceIte, go_sem, oread, owrite, Nat.reduceAdd, Nat.reduceSub, Nat.reduceMul, Nat.reduceLT, Nat.reduceLeDiff, Nat.reduceEqDiff, Nat.reduceBEq, Int.reduceLE, Int.reduceLT, Int.reduceEq, Int.reduceNe, Int.reduceAdd, Int.reduceSub, Int.reduceMul, Int.reduceNeg, Int.reduceToNat, Int.reduceNatCast, reduceCtorEq, eq_self]⟩
theorem rput_does (n0 : Nat) (hn : n0 < 18446744073709551616) (H : AHeap) : Does Try.prog 28 [du n0] H (.ok (.d (.list false (bys (putP n0))))) H := (rputOwn_does n0 hn H).list (bys_len _)
set_option maxRecDepth 10000 in
theorem rzig_does (n : Int) (h1 : -9223372036854775808 ≤ n) (h2 : n ≤ 9223372036854775807) (H : AHeap) : Does Try.prog 29 [iA n] H (.ok (du (zigP n))) H := by
  refine Does.of_awp (hint := (fun _ => false)) Try.func29 (by kernel_rfl) rfl [2] (by kernel_rfl) (by decide) (by simp [Try.ntmps29]) ?_
  rw [Try.ntmps29]
  by_cases h : n < 0
  · have e1 : IntKind.i64.wrap (n + 1) = n + 1 := wrap64_in _ (by omega) (by omega)
    have e2 : IntKind.i64.wrap ((0 - (n + 1))) = (0 - (n + 1)) := wrap64_in _ (by omega) (by omega)
    have e3 : IntKind.u64.wrap ((0 - (n + 1))) = (0 - (n + 1)) := wrapu64_in _ (by omega) (by omega)
    have e4 : IntKind.u64.wrap (2 * (0 - (n + 1))) = 2 * (0 - (n + 1)) := wrapu64_in _ (by omega) (by omega)
    have e5 : IntKind.u64.wrap (2 * (0 - (n + 1)) + 1) = ((zigP n : Nat) : Int) := by rw [wrapu64_in _ (by omega) (by omega)]; unfold zigP; rw [if_neg (by omega)]; omega
    simp (implicitDefEqProofs := false) only [↓reduceIte, go_sem, oread, owrite, Nat.reduceAdd, Nat.reduceSub, Nat.reduceMul, Nat.reduceLT, Nat.reduceLeDiff, Nat.reduceEqDiff, Nat.reduceBEq, Int.reduceLE, Int.reduceLT, Int.reduceEq, Int.reduceNe, Int.reduceAdd, Int.reduceSub, Int.reduceMul, Int.reduceNeg, Int.reduceToNat, Int.reduceNatCast, reduceCtorEq, eq_self, h, e1, e2, e3, e4, e5]
    refine AEnd.ret0 ?_
    simp (implicitDefEqProofs := false) only [↓reduceIte, go_sem, oread, owrite, Nat.reduceAdd, Nat.reduceSub, Nat.reduceMul, Nat.reduceLT, Nat.reduceLeDiff, Nat.reduceEqDiff, Nat.reduceBEq, Int.reduceLE, Int.reduceLT, Int.reduceEq, Int.reduceNe, Int.reduceAdd, Int.reduceSub, Int.reduceMul, Int.reduceNeg, Int.reduceToNat, Int.reduceNatCast, reduceCtorEq, eq_self]
  · have e3 : IntKind.u64.wrap n = n := wrapu64_in _ (by omega) (by omega)
    have e4 : IntKind.u64.wrap (2 * n) = ((zigP n : Nat) : Int) := by rw [wrapu64_in _ (by omega) (by omega)]; unfold zigP; rw [if_pos (by omega)]; omega
    simp (implicitDefEqProofs := false) only [↓reduceIte, go_sem, oread, owrite, Nat.reduceAdd, Nat.reduceSub, Nat.reduceMul, Nat.reduceLT, Nat.reduceLeDiff, Nat.reduceEqDiff, Nat.reduceBEq, Int.reduceLE, Int.reduceLT, Int.reduceEq, Int.reduceNe, Int.reduceAdd, Int.reduceSub, Int.reduceMul, Int.reduceNeg, Int.reduceToNat, Int.reduceNatCast, reduceCtorEq, eq_self, h, e3, e4]
    refine AEnd.ret0 ?_
    simp (implicitDefEqProofs := false) only [↓reduceIte, go_sem, oread, owrite, Nat.reduceAdd, Nat.reduceSub, Nat.reduceMul, Nat.reduceLT, Nat.reduceLeDiff, Nat.reduceEqDiff, Nat.reduceBEq, Int.reduceLE, Int.reduceLT, Int.reduceEq, Int.reduceNe, Int.reduceAdd, Int.reduceSub, Int.reduceMul, Int.reduceNeg, Int.reduceToNat, Int.reduceNatCast, reduceCtorEq, eq_self]
set_option maxRecDepth 10000 in
theorem rzag_does (n : Nat) (hn : n < 18446744073709551616) (H : AHeap) : Does Try.prog 36 [du n] H (.ok (iA (zagP n))) H := by
  have e0 : IntKind.u64.wrap ((n % 2 : Nat) : Int) = ((n % 2 : Nat) : Int) := wrapU64N _ (by omega)
  have e1 : IntKind.u64.wrap ((n / 2 : Nat) : Int) = ((n / 2 : Nat) : Int) := wrapU64N _ (by omega)
  have e2 : IntKind.i64.wrap ((n / 2 : Nat) : Int) = ((n / 2 : Nat) : Int) := wrap64_in _ (by omega) (by omega)
  refine Does.of_awp (hint := (fun _ => false)) Try.func36 (by kernel_rfl) rfl [2] (by kernel_rfl) (by decide) (by simp [Try.ntmps36]) ?_
  rw [Try.ntmps36]
  by_cases h : n % 2 = 1
  · have h' : (((n % 2 : Nat) : Int) = 1) = True := eq_true (by omega)
    have e3 : IntKind.i64.wrap (0 - ((n / 2 : Nat) : Int)) = 0 - ((n / 2 : Nat) : Int) := wrap64_in _ (by omega) (by omega)
    have e4 : IntKind.i64.wrap (0 - ((n / 2 : Nat) : Int) - 1) = zagP n := by rw [wrap64_in _ (by omega) (by omega)]; unfold zagP; rw [if_pos h]; omega
    generalize hx : ((n / 2 : Nat) : Int) = x at *
    generalize hm : ((n % 2 : Nat) : Int) = m at *
    simp (implicitDefEqProofs := false) only [↓reduceIte, go_sem, oread, owrite, Nat.reduceAdd, Nat.reduceSub, Nat.reduceMul, Nat.reduceLT, Nat.reduceLeDiff, Nat.reduceEqDiff, Nat.reduceBEq, Int.reduceLE, Int.reduceLT, Int.reduceEq, Int.reduceNe, Int.reduceAdd, Int.reduceSub, Int.reduceMul, Int.reduceNeg, Int.reduceToNat, Int.reduceNatCast, reduceCtorEq, eq_self, tmod2, tdiv2, e0, e1, e2, e3, e4, h', hm, hx]
    refine AEnd.ret0 ?_
    simp (implicitDefEqProofs := false) only [↓reduceIte, go_sem, oread, owrite, Nat.reduceAdd, Nat.reduceSub, Nat.reduceMul, Nat.reduceLT, Nat.reduceLeDiff, Nat.reduceEqDiff, Nat.reduceBEq, Int.reduceLE, Int.reduceLT, Int.reduceEq, Int.reduceNe, Int.reduceAdd, Int.reduceSub, Int.reduceMul, Int.reduceNeg, Int.reduceToNat, Int.reduceNatCast, reduceCtorEq, eq_self]
  · have h' : (((n % 2 : Nat) : Int) = 1) = False := eq_false (by omega)
    have e4 : zagP n = ((n / 2 : Nat) : Int) := by unfold zagP; rw [if_neg h]
    simp (implicitDefEqProofs := false) only [↓reduceIte, go_sem, oread, owrite, Nat.reduceAdd, Nat.reduceSub, Nat.reduceMul, Nat.reduceLT, Nat.reduceLeDiff, Nat.reduceEqDiff, Nat.reduceBEq, Int.reduceLE, Int.reduceLT, Int.reduceEq, Int.reduceNe, Int.reduceAdd, Int.reduceSub, Int.reduceMul, Int.reduceNeg, Int.reduceToNat, Int.reduceNatCast, reduceCtorEq, eq_self, tmod2, tdiv2, e0, e1, e2, h']
    refine AEnd.ret0 ?_
    simp (implicitDefEqProofs := false) only [↓reduceIte, go_sem, oread, owrite, Nat.reduceAdd, Nat.reduceSub, Nat.reduceMul, Nat.reduceLT, Nat.reduceLeDiff, Nat.reduceEqDiff, Nat.reduceBEq, Int.reduceLE, Int.reduceLT, Int.reduceEq, Int.reduceNe, Int.reduceAdd, Int.reduceSub, Int.reduceMul, Int.reduceNeg, Int.reduceToNat, Int.reduceNatCast, reduceCtorEq, eq_self, e4]
end Go.Proofs.Ytcdnbefcccdaeaa
namespace Go.Proofs.Ytcdnbefcccdaeaa
open Go.Proofs.YtcdnbefcccdaeaaAw Go.RowKit
set_option linter.unusedVariables false
set_option linter.unusedSimpArgs false
def bls (l : List Bool) : List (List D) := l.map fun b => [.v (.bool b)]
theorem take_lenD (l : List (List D)) (n : Nat) (h : l.length = n) : l.take n = l := List.take_of_length_le (by omega)
theorem bls_len (l : List Bool) : (bls l).length = l.length := by simp [bls]
theorem bls_nil : bls [] = [] := rfl
theorem bls_get (l : List Bool) (k : Nat) (h : k < l.length) : (bls l)[k]? = some [.v (.bool l[k])] := by simp [bls, h]
theorem bls_snoc (l : List Bool) (b : Bool) : bls l ++ [[.v (.bool b)]] = bls (l ++ [b]) := by simp [bls]
theorem bls_one (l : List Bool) : (∀ c ∈ bls l, c.length = 1) = True := eq_true fun c hc => by obtain ⟨x, _, rfl⟩ := List.mem_map.1 hc; rfl
theorem bls_drop (l : List Bool) (k : Nat) : (bls l).drop k = bls (l.drop k) := by simp [bls, List.map_drop]
theorem bls_take (l : List Bool) (k : Nat) : (bls l).take k = bls (l.take k) := by simp [bls, List.map_take]
theorem weightNext (k : Nat) (h : (k + 1) % 8 ≠ 0) : IntKind.u8.wrap (((2 ^ (k % 8) : Nat) : Int) * 2) = ((2 ^ ((k + 1) % 8) : Nat) : Int) := by
  rw [show (k + 1) % 8 = k % 8 + 1 by omega, Nat.pow_succ]
  have h2 : 2 ^ (k % 8) ≤ 2 ^ 6 := Nat.pow_le_pow_right (by decide) (by omega)
  have h3 : ((2 ^ (k % 8) : Nat) : Int) * 2 = ((2 ^ (k % 8) * 2 : Nat) : Int) := by push_cast; rfl
  rw [h3]
  exact wrapu8_in _ (by omega) (by omega)
theorem set_same (R : List Nat) (i B : Nat) (h : R[i]? = some B) : R.set i B = R := by
  refine List.ext_getElem? fun j => ?_
  by_cases hj : i = j
  · subst hj
    rw [List.getElem?_set_self (List.getElem?_eq_some_iff.1 h).1, h]
  · rw [List.getElem?_set_ne hj]
theorem byteSum (l : List Bool) : IntKind.u8.wrap (((byteAt l (l.length / 8) : Nat) : Int) + ((2 ^ (l.length % 8) : Nat) : Int)) = ((byteAt l (l.length / 8) + 2 ^ (l.length % 8) : Nat) : Int) := by
  have h1 := byteAt_last_lt l
  have h2 : 2 ^ (l.length % 8) ≤ 2 ^ 7 := Nat.pow_le_pow_right (by decide) (by omega)
  exact wrapu8_in _ (by omega) (by omega)
set_option maxRecDepth 10000 in
set_option maxHeartbeats 1000000 in
theorem rbytes_does (l : List Bool) (nn : Bool) (hl : l.length ≤ 100000000) (H : AHeap) : Does Try.prog 53 [.d (.list nn (bls l))] H (.ok (.d (.list false (bys (packB l))))) H := by
  refine Does.of_awp (hint := (fun _ => false)) Try.func53 (by kernel_rfl) rfl [2] (by kernel_rfl) (by decide) (by simp [Try.ntmps53]) ?_
  rw [Try.ntmps53]
  simp (implicitDefEqProofs := false) only [↓reduceIte, go_sem, oread, owrite, Nat.reduceAdd, Nat.reduceSub, Nat.reduceMul, Nat.reduceLT, Nat.reduceLeDiff, Nat.reduceEqDiff, Nat.reduceBEq, Int.reduceLE, Int.reduceLT, Int.reduceEq, Int.reduceNe, Int.reduceAdd, Int.reduceSub, Int.reduceMul, Int.reduceNeg, Int.reduceToNat, Int.reduceNatCast, reduceCtorEq, eq_self]
  refine awp_for3 (fun k s H' => H' = H ++ [.arr 5 1 (packB (l.take k)).length (bys (packB (l.take k)))] ∧ (∃ wt : Int, s 4 = .d (.v (.int .u8 wt)) ∧ (k % 8 ≠ 0 → wt = ((2 ^ (k % 8) : Nat) : Int))) ∧ s 0 = .d (.list nn (bls l)) ∧ s 3 = .sl H.length (packB (l.take k)).length 0 (packB (l.take k)).length ∧ s 5 = iA k) l.length (by omega) (Weak.virt1 _ _ 3 5 1 (by decide) (by simp (implicitDefEqProofs := false) only [↓reduceIte, go_sem, oread, owrite, Nat.reduceAdd, Nat.reduceSub, Nat.reduceMul, Nat.reduceLT, Nat.reduceLeDiff, Nat.reduceEqDiff, Nat.reduceBEq, Int.reduceLE, Int.reduceLT, Int.reduceEq, Int.reduceNe, Int.reduceAdd, Int.reduceSub, Int.reduceMul, Int.reduceNeg, Int.reduceToNat, Int.reduceNatCast, reduceCtorEq, eq_self]) _) ?_ ?_ ?_
  · rw [show packB (l.take 0) = [] from by rw [List.take_zero]; rfl]
    refine ⟨rfl, ⟨1, ?_, fun h => absurd rfl h⟩, ?_⟩
    · simp (implicitDefEqProofs := false) only [↓reduceIte, go_sem, oread, owrite, Nat.reduceAdd, Nat.reduceSub, Nat.reduceMul, Nat.reduceLT, Nat.reduceLeDiff, Nat.reduceEqDiff, Nat.reduceBEq, Int.reduceLE, Int.reduceLT, Int.reduceEq, Int.reduceNe, Int.reduceAdd, Int.reduceSub, Int.reduceMul, Int.reduceNeg, Int.reduceToNat, Int.reduceNatCast, reduceCtorEq, eq_self]
    · simp (implicitDefEqProofs := false) only [↓reduceIte, go_sem, oread, owrite, Nat.reduceAdd, Nat.reduceSub, Nat.reduceMul, Nat.reduceLT, Nat.reduceLeDiff, Nat.reduceEqDiff, Nat.reduceBEq, Int.reduceLE, Int.reduceLT, Int.reduceEq, Int.reduceNe, Int.reduceAdd, Int.reduceSub, Int.reduceMul, Int.reduceNeg, Int.reduceToNat, Int.reduceNatCast, reduceCtorEq, eq_self, List.length_nil]
  · rintro k s H' hk hw ⟨rfl, ⟨wt, t4, hwt⟩, t0, t3, t5⟩
    have hx := bls_get l k hk
    have hs := packB_snoc (l.take k) l[k]
    rw [← List.take_succ_eq_append_getElem hk] at hs
    have hkl : (l.take k).length = k := by rw [List.length_take]; omega
    have hg := packR_get (l.take k)
    have hrl := packR_len (l.take k)
    have hsum := byteSum (l.take k)
    have hwn := weightNext k
    have hfull : k % 8 = 0 → packR (l.take k) = packB (l.take k) ++ [0] := fun h => packR_full (by rw [hkl]; exact h)
    have hpart : ¬ k % 8 = 0 → packR (l.take k) = packB (l.take k) := fun h => packR_part (by rw [hkl]; exact h)
    have hpl := packB_len (l.take k)
    rw [hkl] at hs hg hrl hsum hpl
    have hlen2 : (packB (l.take (k + 1))).length = (packR (l.take k)).length := by rw [hs, List.length_set]
    generalize packB (l.take (k + 1)) = P2 at *
    generalize packB (l.take k) = P at *
    generalize packR (l.take k) = R at *
    generalize hB : byteAt (l.take k) (k / 8) = B at *
    generalize l[k] = b at *
    clear hB
    have hget : (bys R)[k / 8]? = some [.v (.int .u8 (B : Int))] := by unfold bys; rw [List.getElem?_map, hg]; rfl
    have hlt : k / 8 < R.length := by omega
    have hset : ∀ m : Nat, (bys R).set (k / 8) [.v (.int .u8 (m : Int))] = bys (R.set (k / 8) m) := fun m => bys_set R _ m
    generalize hW : ((2 ^ (k % 8) : Nat) : Int) = W at *
    have hset2 : (bys R).set (k / 8) [.v (.int .u8 ((B : Int) + ((2 ^ (k % 8) : Nat) : Int)))] = bys (R.set (k / 8) (B + 2 ^ (k % 8))) := by have := hset (B + 2 ^ (k % 8)); push_cast at this ⊢; exact this
    have e0 : b = false → P2 = R := fun h => by rw [hs, h]; simp only [Bool.toNat_false, Nat.zero_mul, Nat.add_zero]; exact set_same R _ B hg
    have e1 : b = true → P2 = R.set (k / 8) (B + 2 ^ (k % 8)) := fun h => by rw [hs, h]; simp
    have w8 : IntKind.i64.wrap ((k / 8 : Nat) : Int) = ((k / 8 : Nat) : Int) := wrapI _ (by omega)
    have hne : (k + 1) % 8 ≠ 0 → (k + 1) % 8 ≠ 0 := id
    generalize hV : ((2 ^ ((k + 1) % 8) : Nat) : Int) = V at *
    generalize hU : IntKind.u8.wrap (W * 2) = U at *
    by_cases h8 : k % 8 = 0
    · have hR := hfull h8
      have q0 : bys P ++ [[.v (.int .u8 0)]] = bys R := by rw [hR]; exact bys_snoc P 0
      have hPR : P.length + 1 = R.length := by rw [hR]; simp
      have hPI : (P.length : Int) + 1 = (R.length : Int) := by omega
      have hW1 : W = 1 := by rw [← hW, h8]; rfl
      subst hW1
      rw [show (1 : Int) * 2 = 2 from rfl] at hU
      cases b with
      | true =>
        have e1 := e1 rfl
        generalize 2 ^ (k % 8) = m at *
        simp (implicitDefEqProofs := false) only [↓reduceIte, go_sem, oread, owrite, Nat.reduceAdd, Nat.reduceSub, Nat.reduceMul, Nat.reduceLT, Nat.reduceLeDiff, Nat.reduceEqDiff, Nat.reduceBEq, Int.reduceLE, Int.reduceLT, Int.reduceEq, Int.reduceNe, Int.reduceAdd, Int.reduceSub, Int.reduceMul, Int.reduceNeg, Int.reduceToNat, Int.reduceNatCast, reduceCtorEq, eq_self, t0, t3, t5, modI, divI, eq_true h8, bls_len, hk, hx, nat_eq0, bys_len, q0]
        refine ⟨by omega, by omega, ?_⟩
        simp (implicitDefEqProofs := false) only [↓reduceIte, go_sem, oread, owrite, Nat.reduceAdd, Nat.reduceSub, Nat.reduceMul, Nat.reduceLT, Nat.reduceLeDiff, Nat.reduceEqDiff, Nat.reduceBEq, Int.reduceLE, Int.reduceLT, Int.reduceEq, Int.reduceNe, Int.reduceAdd, Int.reduceSub, Int.reduceMul, Int.reduceNeg, Int.reduceToNat, Int.reduceNatCast, reduceCtorEq, eq_self, t0, t3, t5, hlt, hPR, hPI, hget, hsum, hx, hk, divI, w8, hU]
        refine Rnd.same ⟨?_, ⟨_, rfl, hwn⟩, ?_⟩
        · simp (implicitDefEqProofs := false) only [↓reduceIte, go_sem, oread, owrite, Nat.reduceAdd, Nat.reduceSub, Nat.reduceMul, Nat.reduceLT, Nat.reduceLeDiff, Nat.reduceEqDiff, Nat.reduceBEq, Int.reduceLE, Int.reduceLT, Int.reduceEq, Int.reduceNe, Int.reduceAdd, Int.reduceSub, Int.reduceMul, Int.reduceNeg, Int.reduceToNat, Int.reduceNatCast, reduceCtorEq, eq_self, hlen2, e1, hset2, List.length_set]
        · simp (implicitDefEqProofs := false) only [↓reduceIte, go_sem, oread, owrite, Nat.reduceAdd, Nat.reduceSub, Nat.reduceMul, Nat.reduceLT, Nat.reduceLeDiff, Nat.reduceEqDiff, Nat.reduceBEq, Int.reduceLE, Int.reduceLT, Int.reduceEq, Int.reduceNe, Int.reduceAdd, Int.reduceSub, Int.reduceMul, Int.reduceNeg, Int.reduceToNat, Int.reduceNatCast, reduceCtorEq, eq_self, t0, hw, hlen2]
      | false =>
        have e0 := e0 rfl
        simp (implicitDefEqProofs := false) only [↓reduceIte, go_sem, oread, owrite, Nat.reduceAdd, Nat.reduceSub, Nat.reduceMul, Nat.reduceLT, Nat.reduceLeDiff, Nat.reduceEqDiff, Nat.reduceBEq, Int.reduceLE, Int.reduceLT, Int.reduceEq, Int.reduceNe, Int.reduceAdd, Int.reduceSub, Int.reduceMul, Int.reduceNeg, Int.reduceToNat, Int.reduceNatCast, reduceCtorEq, eq_self, t0, t3, t5, modI, divI, eq_true h8, bls_len, hk, hx, nat_eq0, bys_len, q0]
        refine ⟨by omega, by omega, ?_⟩
        simp (implicitDefEqProofs := false) only [↓reduceIte, go_sem, oread, owrite, Nat.reduceAdd, Nat.reduceSub, Nat.reduceMul, Nat.reduceLT, Nat.reduceLeDiff, Nat.reduceEqDiff, Nat.reduceBEq, Int.reduceLE, Int.reduceLT, Int.reduceEq, Int.reduceNe, Int.reduceAdd, Int.reduceSub, Int.reduceMul, Int.reduceNeg, Int.reduceToNat, Int.reduceNatCast, reduceCtorEq, eq_self, t0, t3, t5, hPR, hPI, hx, hk, hU]
        refine Rnd.same ⟨?_, ⟨_, rfl, hwn⟩, ?_⟩
        · simp (implicitDefEqProofs := false) only [↓reduceIte, go_sem, oread, owrite, Nat.reduceAdd, Nat.reduceSub, Nat.reduceMul, Nat.reduceLT, Nat.reduceLeDiff, Nat.reduceEqDiff, Nat.reduceBEq, Int.reduceLE, Int.reduceLT, Int.reduceEq, Int.reduceNe, Int.reduceAdd, Int.reduceSub, Int.reduceMul, Int.reduceNeg, Int.reduceToNat, Int.reduceNatCast, reduceCtorEq, eq_self, e0]
        · simp (implicitDefEqProofs := false) only [↓reduceIte, go_sem, oread, owrite, Nat.reduceAdd, Nat.reduceSub, Nat.reduceMul, Nat.reduceLT, Nat.reduceLeDiff, Nat.reduceEqDiff, Nat.reduceBEq, Int.reduceLE, Int.reduceLT, Int.reduceEq, Int.reduceNe, Int.reduceAdd, Int.reduceSub, Int.reduceMul, Int.reduceNeg, Int.reduceToNat, Int.reduceNatCast, reduceCtorEq, eq_self, t0, hw, e0]
    · have hR := hpart h8
      have hW2 := hwt h8
      subst hW2
      rw [← hR]
      cases b with
      | true =>
        have e1 := e1 rfl
        generalize 2 ^ (k % 8) = m at *
        simp (implicitDefEqProofs := false) only [↓reduceIte, go_sem, oread, owrite, Nat.reduceAdd, Nat.reduceSub, Nat.reduceMul, Nat.reduceLT, Nat.reduceLeDiff, Nat.reduceEqDiff, Nat.reduceBEq, Int.reduceLE, Int.reduceLT, Int.reduceEq, Int.reduceNe, Int.reduceAdd, Int.reduceSub, Int.reduceMul, Int.reduceNeg, Int.reduceToNat, Int.reduceNatCast, reduceCtorEq, eq_self, t0, t3, t4, t5, modI, divI, eq_false h8, bls_len, hk, hx, nat_eq0, bys_len, ← hR, hlt, hget, hsum, w8, hU]
        refine Rnd.same ⟨?_, ⟨_, rfl, hwn⟩, ?_⟩
        · simp (implicitDefEqProofs := false) only [↓reduceIte, go_sem, oread, owrite, Nat.reduceAdd, Nat.reduceSub, Nat.reduceMul, Nat.reduceLT, Nat.reduceLeDiff, Nat.reduceEqDiff, Nat.reduceBEq, Int.reduceLE, Int.reduceLT, Int.reduceEq, Int.reduceNe, Int.reduceAdd, Int.reduceSub, Int.reduceMul, Int.reduceNeg, Int.reduceToNat, Int.reduceNatCast, reduceCtorEq, eq_self, hlen2, e1, hset2, List.length_set]
        · simp (implicitDefEqProofs := false) only [↓reduceIte, go_sem, oread, owrite, Nat.reduceAdd, Nat.reduceSub, Nat.reduceMul, Nat.reduceLT, Nat.reduceLeDiff, Nat.reduceEqDiff, Nat.reduceBEq, Int.reduceLE, Int.reduceLT, Int.reduceEq, Int.reduceNe, Int.reduceAdd, Int.reduceSub, Int.reduceMul, Int.reduceNeg, Int.reduceToNat, Int.reduceNatCast, reduceCtorEq, eq_self, t0, hw, t3, hlen2, hR]
      | false =>
        have e0 := e0 rfl
        simp (implicitDefEqProofs := false) only [↓reduceIte, go_sem, oread, owrite, Nat.reduceAdd, Nat.reduceSub, Nat.reduceMul, Nat.reduceLT, Nat.reduceLeDiff, Nat.reduceEqDiff, Nat.reduceBEq, Int.reduceLE, Int.reduceLT, Int.reduceEq, Int.reduceNe, Int.reduceAdd, Int.reduceSub, Int.reduceMul, Int.reduceNeg, Int.reduceToNat, Int.reduceNatCast, reduceCtorEq, eq_self, t0, t3, t4, t5, modI, divI, eq_false h8, bls_len, hk, hx, nat_eq0, bys_len, hU]
        refine Rnd.same ⟨?_, ⟨_, rfl, hwn⟩, ?_⟩
        · simp (implicitDefEqProofs := false) only [↓reduceIte, go_sem, oread, owrite, Nat.reduceAdd, Nat.reduceSub, Nat.reduceMul, Nat.reduceLT, Nat.reduceLeDiff, Nat.reduceEqDiff, Nat.reduceBEq, Int.reduceLE, Int.reduceLT, Int.reduceEq, Int.reduceNe, Int.reduceAdd, Int.reduceSub, Int.reduceMul, Int.reduceNeg, Int.reduceToNat, Int.reduceNatCast, reduceCtorEq, eq_self, e0]
        · simp (implicitDefEqProofs := false) only [↓reduceIte, go_sem, oread, owrite, Nat.reduceAdd, Nat.reduceSub, Nat.reduceMul, Nat.reduceLT, Nat.reduceLeDiff, Nat.reduceEqDiff, Nat.reduceBEq, Int.reduceLE, Int.reduceLT, Int.reduceEq, Int.reduceNe, Int.reduceAdd, Int.reduceSub, Int.reduceMul, Int.reduceNeg, Int.reduceToNat, Int.reduceNatCast, reduceCtorEq, eq_self, t0, hw, t3, e0, hR]
  · rintro s H' ⟨rfl, ⟨wt, t4, hwt⟩, t0, t3, t5⟩
    rw [show l.take l.length = l from List.take_length] at *
    simp (implicitDefEqProofs := false) only [↓reduceIte, go_sem, oread, owrite, Nat.reduceAdd, Nat.reduceSub, Nat.reduceMul, Nat.reduceLT, Nat.reduceLeDiff, Nat.reduceEqDiff, Nat.reduceBEq, Int.reduceLE, Int.reduceLT, Int.reduceEq, Int.reduceNe, Int.reduceAdd, Int.reduceSub, Int.reduceMul, Int.reduceNeg, Int.reduceToNat, Int.reduceNatCast, reduceCtorEq, eq_self, t0, t3, t5, bls_len]
    refine AEnd.ret ?_
    simp (implicitDefEqProofs := false) only [↓reduceIte, go_sem, oread, owrite, Nat.reduceAdd, Nat.reduceSub, Nat.reduceMul, Nat.reduceLT, Nat.reduceLeDiff, Nat.reduceEqDiff, Nat.reduceBEq, Int.reduceLE, Int.reduceLT, Int.reduceEq, Int.reduceNe, Int.reduceAdd, Int.reduceSub, Int.reduceMul, Int.reduceNeg, Int.reduceToNat, Int.reduceNatCast, reduceCtorEq, eq_self, take_lenD (bys (packB l)) (packB l).length (bys_len _)]
end Go.Proofs.Ytcdnbefcccdaeaa
namespace Go.Proofs.Ytcdnbefcccdaeaa
open Go.Proofs.YtcdnbefcccdaeaaAw Go.RowKit
set_option linter.unusedVariables false
set_option linter.unusedSimpArgs false
theorem bit_div (n j : Nat) : (((n / 2 ^ j % 2 : Nat) : Int) = 1) = (n.testBit j = true) := by
  rw [Nat.testBit_eq_decide_div_mod_eq]
  refine propext ⟨fun h => ?_, fun h => ?_⟩
  · exact decide_eq_true (by omega)
  · have := of_decide_eq_true h; omega
set_option maxRecDepth 10000 in
set_option maxHeartbeats 1000000 in
theorem rpack_does (l : List Nat) (w : Nat) (hw : w ≤ 64) (hu : ∀ n ∈ l, n < 18446744073709551616) (hn : ∀ n ∈ l, n < 2 ^ w) (hl : l.length ≤ 1000000) (nn : Bool) (H : AHeap) :
    Does Try.prog 30 [.d (.list nn (us l)), iA w] H (.ok (.tup [.d (.list false (bys (packP l w))), iA 0])) H := by
  have hbl := bitsL_len l w
  have hlw : l.length * w ≤ 1000000 * 64 := Nat.mul_le_mul hl hw
  refine Does.of_awp (hint := (fun _ => false)) Try.func30 (by kernel_rfl) rfl [4, 5] (by kernel_rfl) (by decide) (by simp [Try.ntmps30]) ?_
  rw [Try.ntmps30]
  simp (implicitDefEqProofs := false) only [↓reduceIte, go_sem, oread, owrite, Nat.reduceAdd, Nat.reduceSub, Nat.reduceMul, Nat.reduceLT, Nat.reduceLeDiff, Nat.reduceEqDiff, Nat.reduceBEq, Int.reduceLE, Int.reduceLT, Int.reduceEq, Int.reduceNe, Int.reduceAdd, Int.reduceSub, Int.reduceMul, Int.reduceNeg, Int.reduceToNat, Int.reduceNatCast, reduceCtorEq, eq_self, show ((w : Int) < 0) = False from eq_false (by omega), show ((64 : Int) < (w : Int)) = False from eq_false (by omega)]
  refine awp_for3 (fun k s H' => H' = H ++ [.arr 4 1 (bitsL (l.take k) w).length (bls (bitsL (l.take k) w))] ∧ s 0 = .d (.list nn (us l)) ∧ s 1 = iA w ∧ s 6 = .sl H.length (bitsL (l.take k) w).length 0 (bitsL (l.take k) w).length ∧ s 7 = iA k) l.length (by omega) (Weak.virt1 _ _ 6 4 1 (by decide) (by simp (implicitDefEqProofs := false) only [↓reduceIte, go_sem, oread, owrite, Nat.reduceAdd, Nat.reduceSub, Nat.reduceMul, Nat.reduceLT, Nat.reduceLeDiff, Nat.reduceEqDiff, Nat.reduceBEq, Int.reduceLE, Int.reduceLT, Int.reduceEq, Int.reduceNe, Int.reduceAdd, Int.reduceSub, Int.reduceMul, Int.reduceNeg, Int.reduceToNat, Int.reduceNatCast, reduceCtorEq, eq_self]) _) ?_ ?_ ?_
  · rw [show bitsL (l.take 0) w = [] from by rw [List.take_zero]; rfl]
    refine ⟨rfl, ?_⟩
    simp (implicitDefEqProofs := false) only [↓reduceIte, go_sem, oread, owrite, Nat.reduceAdd, Nat.reduceSub, Nat.reduceMul, Nat.reduceLT, Nat.reduceLeDiff, Nat.reduceEqDiff, Nat.reduceBEq, Int.reduceLE, Int.reduceLT, Int.reduceEq, Int.reduceNe, Int.reduceAdd, Int.reduceSub, Int.reduceMul, Int.reduceNeg, Int.reduceToNat, Int.reduceNatCast, reduceCtorEq, eq_self, List.length_nil]
  · rintro k s H' hk hwk ⟨rfl, t0, t1, t6, t7⟩
    have hx := us_get l k hk
    have hf := hn _ (List.getElem_mem hk)
    have hxu := hu _ (List.getElem_mem hk)
    have e1 : bitsL (l.take (k + 1)) w = bitsL (l.take k) w ++ bitsN l[k] w := by rw [List.take_succ_eq_append_getElem hk]; exact bitsL_snoc _ _ _
    have hB := bitsL_len (l.take k) w
    rw [List.length_take, Nat.min_eq_left (Nat.le_of_lt hk)] at hB
    have hkw : k * w ≤ l.length * w := Nat.mul_le_mul_right _ (by omega)
    rw [e1]
    generalize bitsL (l.take k) w = B at *
    generalize l[k] = x at *
    simp (implicitDefEqProofs := false) only [↓reduceIte, go_sem, oread, owrite, Nat.reduceAdd, Nat.reduceSub, Nat.reduceMul, Nat.reduceLT, Nat.reduceLeDiff, Nat.reduceEqDiff, Nat.reduceBEq, Int.reduceLE, Int.reduceLT, Int.reduceEq, Int.reduceNe, Int.reduceAdd, Int.reduceSub, Int.reduceMul, Int.reduceNeg, Int.reduceToNat, Int.reduceNatCast, reduceCtorEq, eq_self, t0, t1, t7, us_len, hk, hx]
    refine KCall.ok (fits_does x w hxu (by omega) _) ?_
    simp (implicitDefEqProofs := false) only [↓reduceIte, go_sem, oread, owrite, Nat.reduceAdd, Nat.reduceSub, Nat.reduceMul, Nat.reduceLT, Nat.reduceLeDiff, Nat.reduceEqDiff, Nat.reduceBEq, Int.reduceLE, Int.reduceLT, Int.reduceEq, Int.reduceNe, Int.reduceAdd, Int.reduceSub, Int.reduceMul, Int.reduceNeg, Int.reduceToNat, Int.reduceNatCast, reduceCtorEq, eq_self, hf, t0, t7, us_len, hk, hx]
    refine awp_for3 (fun j s H' => H' = H ++ [.arr 4 1 (B ++ bitsN x j).length (bls (B ++ bitsN x j))] ∧ s 0 = .d (.list nn (us l)) ∧ s 1 = iA w ∧ s 6 = .sl H.length (B ++ bitsN x j).length 0 (B ++ bitsN x j).length ∧ s 7 = iA k ∧ s 8 = du (x / 2 ^ j) ∧ s 9 = iA j) w (by omega) (Weak.refl _ _) ?_ ?_ ?_
    · rw [show B ++ bitsN x 0 = B from List.append_nil _]
      refine ⟨rfl, ?_⟩
      simp (implicitDefEqProofs := false) only [↓reduceIte, go_sem, oread, owrite, Nat.reduceAdd, Nat.reduceSub, Nat.reduceMul, Nat.reduceLT, Nat.reduceLeDiff, Nat.reduceEqDiff, Nat.reduceBEq, Int.reduceLE, Int.reduceLT, Int.reduceEq, Int.reduceNe, Int.reduceAdd, Int.reduceSub, Int.reduceMul, Int.reduceNeg, Int.reduceToNat, Int.reduceNatCast, reduceCtorEq, eq_self, t0, t1, t6, t7, Nat.pow_zero, Nat.div_one]
    · rintro j s H' hj hw2 ⟨rfl, t0, t1, t6, t7, t8, t9⟩
      have e := div_pow2 x j
      have hlt : x / 2 ^ j < 18446744073709551616 := Nat.lt_of_le_of_lt (Nat.div_le_self _ _) hxu
      have ew := wrapDiv (c := 2) hlt
      have hb := bit_div x j
      have es : B ++ bitsN x (j + 1) = (B ++ bitsN x j) ++ [x.testBit j] := by rw [bitsN_succ, List.append_assoc]
      have hBl : (B ++ bitsN x j).length = B.length + j := by rw [List.length_append, bitsN_len]
      rw [← e, es]
      generalize x / 2 ^ j = m at *
      generalize B ++ bitsN x j = C at *
      generalize x.testBit j = b at *
      simp (implicitDefEqProofs := false) only [↓reduceIte, go_sem, oread, owrite, Nat.reduceAdd, Nat.reduceSub, Nat.reduceMul, Nat.reduceLT, Nat.reduceLeDiff, Nat.reduceEqDiff, Nat.reduceBEq, Int.reduceLE, Int.reduceLT, Int.reduceEq, Int.reduceNe, Int.reduceAdd, Int.reduceSub, Int.reduceMul, Int.reduceNeg, Int.reduceToNat, Int.reduceNatCast, reduceCtorEq, eq_self, t1, t6, t8, t9, hj, tmod2, tdiv2, ew, hb, bls_len, Bool.decide_eq_true, bls_snoc]
      refine ⟨by omega, by omega, ?_⟩
      refine Rnd.same ⟨?_, ?_⟩
      · simp (implicitDefEqProofs := false) only [↓reduceIte, go_sem, oread, owrite, Nat.reduceAdd, Nat.reduceSub, Nat.reduceMul, Nat.reduceLT, Nat.reduceLeDiff, Nat.reduceEqDiff, Nat.reduceBEq, Int.reduceLE, Int.reduceLT, Int.reduceEq, Int.reduceNe, Int.reduceAdd, Int.reduceSub, Int.reduceMul, Int.reduceNeg, Int.reduceToNat, Int.reduceNatCast, reduceCtorEq, eq_self, List.length_append, List.length_singleton]
      · simp (implicitDefEqProofs := false) only [↓reduceIte, go_sem, oread, owrite, Nat.reduceAdd, Nat.reduceSub, Nat.reduceMul, Nat.reduceLT, Nat.reduceLeDiff, Nat.reduceEqDiff, Nat.reduceBEq, Int.reduceLE, Int.reduceLT, Int.reduceEq, Int.reduceNe, Int.reduceAdd, Int.reduceSub, Int.reduceMul, Int.reduceNeg, Int.reduceToNat, Int.reduceNatCast, reduceCtorEq, eq_self, t0, t1, t7, hw2, List.length_append, List.length_singleton]
    · rintro s H' ⟨rfl, t0, t1, t6, t7, t8, t9⟩
      simp (implicitDefEqProofs := false) only [↓reduceIte, go_sem, oread, owrite, Nat.reduceAdd, Nat.reduceSub, Nat.reduceMul, Nat.reduceLT, Nat.reduceLeDiff, Nat.reduceEqDiff, Nat.reduceBEq, Int.reduceLE, Int.reduceLT, Int.reduceEq, Int.reduceNe, Int.reduceAdd, Int.reduceSub, Int.reduceMul, Int.reduceNeg, Int.reduceToNat, Int.reduceNatCast, reduceCtorEq, eq_self, t0, t1, t7, t9]
      refine Rnd.same ⟨rfl, ?_⟩
      simp (implicitDefEqProofs := false) only [↓reduceIte, go_sem, oread, owrite, Nat.reduceAdd, Nat.reduceSub, Nat.reduceMul, Nat.reduceLT, Nat.reduceLeDiff, Nat.reduceEqDiff, Nat.reduceBEq, Int.reduceLE, Int.reduceLT, Int.reduceEq, Int.reduceNe, Int.reduceAdd, Int.reduceSub, Int.reduceMul, Int.reduceNeg, Int.reduceToNat, Int.reduceNatCast, reduceCtorEq, eq_self, t0, t1, t6, hwk]
  · rintro s H' ⟨rfl, t0, t1, t6, t7⟩
    rw [show l.take l.length = l from List.take_length] at *
    have hrb := fun H => rbytes_does (bitsL l w) false (by omega) H
    generalize hB : bitsL l w = B at *
    have htk : ((bls B).drop 0).take B.length = bls B := by rw [List.drop_zero]; exact take_lenD _ _ (bls_len _)
    simp (implicitDefEqProofs := false) only [↓reduceIte, go_sem, oread, owrite, Nat.reduceAdd, Nat.reduceSub, Nat.reduceMul, Nat.reduceLT, Nat.reduceLeDiff, Nat.reduceEqDiff, Nat.reduceBEq, Int.reduceLE, Int.reduceLT, Int.reduceEq, Int.reduceNe, Int.reduceAdd, Int.reduceSub, Int.reduceMul, Int.reduceNeg, Int.reduceToNat, Int.reduceNatCast, reduceCtorEq, eq_self, t0, t6, t7, us_len]
    refine KCall.frz [] (e := 4) (k := 1) (ver := B.length) (es := bls B) (by simp) (by rw [htk]; exact hrb _) ?_
    have hp : packP l w = packB B := by unfold packP; rw [hB]
    simp (implicitDefEqProofs := false) only [↓reduceIte, go_sem, oread, owrite, Nat.reduceAdd, Nat.reduceSub, Nat.reduceMul, Nat.reduceLT, Nat.reduceLeDiff, Nat.reduceEqDiff, Nat.reduceBEq, Int.reduceLE, Int.reduceLT, Int.reduceEq, Int.reduceNe, Int.reduceAdd, Int.reduceSub, Int.reduceMul, Int.reduceNeg, Int.reduceToNat, Int.reduceNatCast, reduceCtorEq, eq_self]
    refine AEnd.ret' (T := [.arr 4 1 (B.length + 1) []]) (by simp) ?_
    simp (implicitDefEqProofs := false) only [↓reduceIte, go_sem, oread, owrite, Nat.reduceAdd, Nat.reduceSub, Nat.reduceMul, Nat.reduceLT, Nat.reduceLeDiff, Nat.reduceEqDiff, Nat.reduceBEq, Int.reduceLE, Int.reduceLT, Int.reduceEq, Int.reduceNe, Int.reduceAdd, Int.reduceSub, Int.reduceMul, Int.reduceNeg, Int.reduceToNat, Int.reduceNatCast, reduceCtorEq, eq_self, hp]
set_option maxRecDepth 10000 in
set_option maxHeartbeats 1000000 in
theorem rbits_does (b : List Nat) (nn : Bool) (hl : b.length ≤ 100000000) (hb : ∀ c ∈ b, c < 256) (H : AHeap) : Does Try.prog 59 [.d (.list nn (bys b))] H (.ok (.d (.list false (bls (bitsB b))))) H := by
  refine Does.of_awp (hint := (fun _ => false)) Try.func59 (by kernel_rfl) rfl [2] (by kernel_rfl) (by decide) (by simp [Try.ntmps59]) ?_
  rw [Try.ntmps59]
  simp (implicitDefEqProofs := false) only [↓reduceIte, go_sem, oread, owrite, Nat.reduceAdd, Nat.reduceSub, Nat.reduceMul, Nat.reduceLT, Nat.reduceLeDiff, Nat.reduceEqDiff, Nat.reduceBEq, Int.reduceLE, Int.reduceLT, Int.reduceEq, Int.reduceNe, Int.reduceAdd, Int.reduceSub, Int.reduceMul, Int.reduceNeg, Int.reduceToNat, Int.reduceNatCast, reduceCtorEq, eq_self]
  refine awp_for3 (fun k s H' => H' = H ++ [.arr 4 1 (bitsB (b.take k)).length (bls (bitsB (b.take k)))] ∧ s 0 = .d (.list nn (bys b)) ∧ s 3 = .sl H.length (bitsB (b.take k)).length 0 (bitsB (b.take k)).length ∧ s 4 = iA k) b.length (by omega) (Weak.virt1 _ _ 3 4 1 (by decide) (by simp (implicitDefEqProofs := false) only [↓reduceIte, go_sem, oread, owrite, Nat.reduceAdd, Nat.reduceSub, Nat.reduceMul, Nat.reduceLT, Nat.reduceLeDiff, Nat.reduceEqDiff, Nat.reduceBEq, Int.reduceLE, Int.reduceLT, Int.reduceEq, Int.reduceNe, Int.reduceAdd, Int.reduceSub, Int.reduceMul, Int.reduceNeg, Int.reduceToNat, Int.reduceNatCast, reduceCtorEq, eq_self]) _) ?_ ?_ ?_
  · rw [show bitsB (b.take 0) = [] from by rw [List.take_zero]; rfl]
    refine ⟨rfl, ?_⟩
    simp (implicitDefEqProofs := false) only [↓reduceIte, go_sem, oread, owrite, Nat.reduceAdd, Nat.reduceSub, Nat.reduceMul, Nat.reduceLT, Nat.reduceLeDiff, Nat.reduceEqDiff, Nat.reduceBEq, Int.reduceLE, Int.reduceLT, Int.reduceEq, Int.reduceNe, Int.reduceAdd, Int.reduceSub, Int.reduceMul, Int.reduceNeg, Int.reduceToNat, Int.reduceNatCast, reduceCtorEq, eq_self, List.length_nil]
  · rintro k s H' hk hwk ⟨rfl, t0, t3, t4⟩
    have hx := bys_get b k hk
    have hxu := hb _ (List.getElem_mem hk)
    have e1 : bitsB (b.take (k + 1)) = bitsB (b.take k) ++ bitsN b[k] 8 := by unfold bitsB; rw [List.take_succ_eq_append_getElem hk, List.flatMap_append]; simp
    have hB := bitsB_len (b.take k)
    rw [List.length_take, Nat.min_eq_left (Nat.le_of_lt hk)] at hB
    rw [e1]
    generalize bitsB (b.take k) = B at *
    generalize b[k] = x at *
    simp (implicitDefEqProofs := false) only [↓reduceIte, go_sem, oread, owrite, Nat.reduceAdd, Nat.reduceSub, Nat.reduceMul, Nat.reduceLT, Nat.reduceLeDiff, Nat.reduceEqDiff, Nat.reduceBEq, Int.reduceLE, Int.reduceLT, Int.reduceEq, Int.reduceNe, Int.reduceAdd, Int.reduceSub, Int.reduceMul, Int.reduceNeg, Int.reduceToNat, Int.reduceNatCast, reduceCtorEq, eq_self, t0, t4, bys_len, hk, hx]
    refine awp_for3 (fun j s H' => H' = H ++ [.arr 4 1 (B ++ bitsN x j).length (bls (B ++ bitsN x j))] ∧ s 0 = .d (.list nn (bys b)) ∧ s 3 = .sl H.length (B ++ bitsN x j).length 0 (B ++ bitsN x j).length ∧ s 4 = iA k ∧ s 5 = .d (.v (.int .u8 ((x / 2 ^ j : Nat) : Int))) ∧ s 6 = iA j) 8 (by omega) (Weak.refl _ _) ?_ ?_ ?_
    · rw [show B ++ bitsN x 0 = B from List.append_nil _]
      refine ⟨rfl, ?_⟩
      simp (implicitDefEqProofs := false) only [↓reduceIte, go_sem, oread, owrite, Nat.reduceAdd, Nat.reduceSub, Nat.reduceMul, Nat.reduceLT, Nat.reduceLeDiff, Nat.reduceEqDiff, Nat.reduceBEq, Int.reduceLE, Int.reduceLT, Int.reduceEq, Int.reduceNe, Int.reduceAdd, Int.reduceSub, Int.reduceMul, Int.reduceNeg, Int.reduceToNat, Int.reduceNatCast, reduceCtorEq, eq_self, t0, t3, t4, Nat.pow_zero, Nat.div_one]
    · rintro j s H' hj hw2 ⟨rfl, t0, t3, t4, t5, t6⟩
      have hj' : ((j : Int) < 8) = True := eq_true (by omega)
      have e := div_pow2 x j
      have hlt : x / 2 ^ j < 256 := Nat.lt_of_le_of_lt (Nat.div_le_self _ _) hxu
      have ew : IntKind.u8.wrap ((x / 2 ^ j / 2 : Nat) : Int) = ((x / 2 ^ j / 2 : Nat) : Int) := wrap8N _ (by omega)
      have hb := bit_div x j
      have es : B ++ bitsN x (j + 1) = (B ++ bitsN x j) ++ [x.testBit j] := by rw [bitsN_succ, List.append_assoc]
      have hBl : (B ++ bitsN x j).length = B.length + j := by rw [List.length_append, bitsN_len]
      rw [← e, es]
      generalize x / 2 ^ j = m at *
      generalize B ++ bitsN x j = C at *
      generalize x.testBit j = t at *
      simp (implicitDefEqProofs := false) only [↓reduceIte, go_sem, oread, owrite, Nat.reduceAdd, Nat.reduceSub, Nat.reduceMul, Nat.reduceLT, Nat.reduceLeDiff, Nat.reduceEqDiff, Nat.reduceBEq, Int.reduceLE, Int.reduceLT, Int.reduceEq, Int.reduceNe, Int.reduceAdd, Int.reduceSub, Int.reduceMul, Int.reduceNeg, Int.reduceToNat, Int.reduceNatCast, reduceCtorEq, eq_self, t3, t5, t6, hj', tmod2, tdiv2, ew, hb, bls_len, Bool.decide_eq_true, bls_snoc]
      refine ⟨by omega, by omega, ?_⟩
      refine Rnd.same ⟨?_, ?_⟩
      · simp (implicitDefEqProofs := false) only [↓reduceIte, go_sem, oread, owrite, Nat.reduceAdd, Nat.reduceSub, Nat.reduceMul, Nat.reduceLT, Nat.reduceLeDiff, Nat.reduceEqDiff, Nat.reduceBEq, Int.reduceLE, Int.reduceLT, Int.reduceEq, Int.reduceNe, Int.reduceAdd, Int.reduceSub, Int.reduceMul, Int.reduceNeg, Int.reduceToNat, Int.reduceNatCast, reduceCtorEq, eq_self, List.length_append, List.length_singleton]
      · simp (implicitDefEqProofs := false) only [↓reduceIte, go_sem, oread, owrite, Nat.reduceAdd, Nat.reduceSub, Nat.reduceMul, Nat.reduceLT, Nat.reduceLeDiff, Nat.reduceEqDiff, Nat.reduceBEq, Int.reduceLE, Int.reduceLT, Int.reduceEq, Int.reduceNe, Int.reduceAdd, Int.reduceSub, Int.reduceMul, Int.reduceNeg, Int.reduceToNat, Int.reduceNatCast, reduceCtorEq, eq_self, t0, t4, hw2, List.length_append, List.length_singleton]
    · rintro s H' ⟨rfl, t0, t3, t4, t5, t6⟩
      simp (implicitDefEqProofs := false) only [↓reduceIte, go_sem, oread, owrite, Nat.reduceAdd, Nat.reduceSub, Nat.reduceMul, Nat.reduceLT, Nat.reduceLeDiff, Nat.reduceEqDiff, Nat.reduceBEq, Int.reduceLE, Int.reduceLT, Int.reduceEq, Int.reduceNe, Int.reduceAdd, Int.reduceSub, Int.reduceMul, Int.reduceNeg, Int.reduceToNat, Int.reduceNatCast, reduceCtorEq, eq_self, t0, t4, t6]
      refine Rnd.same ⟨rfl, ?_⟩
      simp (implicitDefEqProofs := false) only [↓reduceIte, go_sem, oread, owrite, Nat.reduceAdd, Nat.reduceSub, Nat.reduceMul, Nat.reduceLT, Nat.reduceLeDiff, Nat.reduceEqDiff, Nat.reduceBEq, Int.reduceLE, Int.reduceLT, Int.reduceEq, Int.reduceNe, Int.reduceAdd, Int.reduceSub, Int.reduceMul, Int.reduceNeg, Int.reduceToNat, Int.reduceNatCast, reduceCtorEq, eq_self, t0, t3, hwk]
  · rintro s H' ⟨rfl, t0, t3, t4⟩
    rw [show b.take b.length = b from List.take_length] at *
    simp (implicitDefEqProofs := false) only [↓reduceIte, go_sem, oread, owrite, Nat.reduceAdd, Nat.reduceSub, Nat.reduceMul, Nat.reduceLT, Nat.reduceLeDiff, Nat.reduceEqDiff, Nat.reduceBEq, Int.reduceLE, Int.reduceLT, Int.reduceEq, Int.reduceNe, Int.reduceAdd, Int.reduceSub, Int.reduceMul, Int.reduceNeg, Int.reduceToNat, Int.reduceNatCast, reduceCtorEq, eq_self, t0, t3, t4, bys_len]
    refine AEnd.ret ?_
    simp (implicitDefEqProofs := false) only [↓reduceIte, go_sem, oread, owrite, Nat.reduceAdd, Nat.reduceSub, Nat.reduceMul, Nat.reduceLT, Nat.reduceLeDiff, Nat.reduceEqDiff, Nat.reduceBEq, Int.reduceLE, Int.reduceLT, Int.reduceEq, Int.reduceNe, Int.reduceAdd, Int.reduceSub, Int.reduceMul, Int.reduceNeg, Int.reduceToNat, Int.reduceNatCast, reduceCtorEq, eq_self, take_lenD (bls (bitsB b)) (bitsB b).length (bls_len _)]
theorem byteOf_drop (L : List Bool) (i : Nat) (h : i < L.length) : byteOf (L.drop i) = L[i].toNat + 2 * byteOf (L.drop (i + 1)) := by
  rw [List.drop_eq_getElem_cons h]; rfl
set_option maxRecDepth 10000 in
set_option maxHeartbeats 1000000 in
theorem r1get_does (r : List Bool) (w : Nat) (nn : Bool) (hw : w ≤ 64) (hr : w ≤ r.length) (hl : r.length ≤ 9007199254740992) (H : AHeap) :
    Does Try.prog 60 [.d (.list nn (bls r)), iA w] H (.ok (.tup [du (byteOf (r.take w)), .d (.list false (bls (r.drop w))), iA 0])) H := by
  refine Does.of_awp (hint := (fun _ => false)) Try.func60 (by kernel_rfl) rfl [4, 5, 6] (by kernel_rfl) (by decide) (by simp [Try.ntmps60]) ?_
  rw [Try.ntmps60]
  simp (implicitDefEqProofs := false) only [↓reduceIte, go_sem, oread, owrite, Nat.reduceAdd, Nat.reduceSub, Nat.reduceMul, Nat.reduceLT, Nat.reduceLeDiff, Nat.reduceEqDiff, Nat.reduceBEq, Int.reduceLE, Int.reduceLT, Int.reduceEq, Int.reduceNe, Int.reduceAdd, Int.reduceSub, Int.reduceMul, Int.reduceNeg, Int.reduceToNat, Int.reduceNatCast, reduceCtorEq, eq_self, show ((w : Int) < 0) = False from eq_false (by omega), show ((64 : Int) < (w : Int)) = False from eq_false (by omega), bls_len, show ((r.length : Int) < (w : Int)) = False from eq_false (by omega)]
  have w0 : IntKind.i64.wrap ((w : Int) - 1) = (w : Int) - 1 := wrap64_in _ (by omega) (by omega)
  refine awp_for3 (fun k s H' => H' = H ∧ s 0 = .d (.list nn (bls r)) ∧ s 1 = iA w ∧ s 7 = du (byteOf ((r.take w).drop (w - k))) ∧ s 8 = iA ((w : Int) - 1 - k)) w (by omega) (Weak.refl _ _) ?_ ?_ ?_
  · have e : byteOf ((r.take w).drop (w - 0)) = 0 := by rw [List.drop_of_length_le (by rw [List.length_take]; omega)]; rfl
    rw [e, show (w : Int) - 1 - ((0 : Nat) : Int) = (w : Int) - 1 by omega]
    refine ⟨rfl, ?_⟩
    simp (implicitDefEqProofs := false) only [↓reduceIte, go_sem, oread, owrite, Nat.reduceAdd, Nat.reduceSub, Nat.reduceMul, Nat.reduceLT, Nat.reduceLeDiff, Nat.reduceEqDiff, Nat.reduceBEq, Int.reduceLE, Int.reduceLT, Int.reduceEq, Int.reduceNe, Int.reduceAdd, Int.reduceSub, Int.reduceMul, Int.reduceNeg, Int.reduceToNat, Int.reduceNatCast, reduceCtorEq, eq_self, w0]
    rfl
  · rintro k s H' hk hw2 ⟨rfl, t0, t1, t7, t8⟩
    obtain ⟨i, hi⟩ : ∃ i, i = w - 1 - k := ⟨_, rfl⟩
    have h1 : w - k = i + 1 := by omega
    have h2 : w - (k + 1) = i := by omega
    have h3 : (w : Int) - 1 - k = (i : Int) := by omega
    have h4 : (w : Int) - 1 - ((k + 1 : Nat) : Int) = (i : Int) - 1 := by omega
    have h5 : IntKind.i64.wrap ((i : Int) - 1) = (i : Int) - 1 := wrap64_in _ (by omega) (by omega)
    have hri : i < r.length := by omega
    have hti : i < (r.take w).length := by rw [List.length_take]; omega
    have e := byteOf_drop (r.take w) i hti
    rw [List.getElem_take] at e
    have hlt := byteOf_lt ((r.take w).drop i)
    have hlt2 : (2 : Nat) ^ ((r.take w).drop i).length ≤ 2 ^ 64 := Nat.pow_le_pow_right (by decide) (by simp; omega)
    rw [e] at hlt
    rw [h1] at t7
    rw [h3] at t8
    rw [h2, h4, e]
    have hx := bls_get r i hri
    generalize r[i] = b at *
    generalize byteOf ((r.take w).drop (i + 1)) = m at *
    have e2 : IntKind.u64.wrap (2 * (m : Int)) = ((2 * m : Nat) : Int) := by rw [show (2 : Int) * (m : Int) = ((2 * m : Nat) : Int) by omega]; exact wrapU64N _ (by omega)
    have e3 : IntKind.u64.wrap (((2 * m : Nat) : Int) + 1) = ((1 + 2 * m : Nat) : Int) ∨ b = false := by
      cases b
      · exact .inr rfl
      · left
        simp only [Bool.toNat_true] at hlt
        rw [show ((2 * m : Nat) : Int) + 1 = ((1 + 2 * m : Nat) : Int) by omega]; exact wrapU64N _ (by omega)
    generalize hm2 : ((2 * m : Nat) : Int) = M at *
    cases b with
    | true =>
      rcases e3 with e3 | e3
      · simp (implicitDefEqProofs := false) only [↓reduceIte, go_sem, oread, owrite, Nat.reduceAdd, Nat.reduceSub, Nat.reduceMul, Nat.reduceLT, Nat.reduceLeDiff, Nat.reduceEqDiff, Nat.reduceBEq, Int.reduceLE, Int.reduceLT, Int.reduceEq, Int.reduceNe, Int.reduceAdd, Int.reduceSub, Int.reduceMul, Int.reduceNeg, Int.reduceToNat, Int.reduceNatCast, reduceCtorEq, eq_self, t0, t7, t8, bls_len, hri, hx, e2, e3, h5]
        refine Rnd.same ⟨rfl, ?_⟩
        simp (implicitDefEqProofs := false) only [↓reduceIte, go_sem, oread, owrite, Nat.reduceAdd, Nat.reduceSub, Nat.reduceMul, Nat.reduceLT, Nat.reduceLeDiff, Nat.reduceEqDiff, Nat.reduceBEq, Int.reduceLE, Int.reduceLT, Int.reduceEq, Int.reduceNe, Int.reduceAdd, Int.reduceSub, Int.reduceMul, Int.reduceNeg, Int.reduceToNat, Int.reduceNatCast, reduceCtorEq, eq_self, t0, t1, Bool.toNat_true]
        exact congrArg (fun z => AV.d (D.v (Value.int .u64 z))) (by omega)
      · cases e3
    | false =>
      simp (implicitDefEqProofs := false) only [↓reduceIte, go_sem, oread, owrite, Nat.reduceAdd, Nat.reduceSub, Nat.reduceMul, Nat.reduceLT, Nat.reduceLeDiff, Nat.reduceEqDiff, Nat.reduceBEq, Int.reduceLE, Int.reduceLT, Int.reduceEq, Int.reduceNe, Int.reduceAdd, Int.reduceSub, Int.reduceMul, Int.reduceNeg, Int.reduceToNat, Int.reduceNatCast, reduceCtorEq, eq_self, t0, t7, t8, bls_len, hri, hx, e2, h5]
      refine Rnd.same ⟨rfl, ?_⟩
      simp (implicitDefEqProofs := false) only [↓reduceIte, go_sem, oread, owrite, Nat.reduceAdd, Nat.reduceSub, Nat.reduceMul, Nat.reduceLT, Nat.reduceLeDiff, Nat.reduceEqDiff, Nat.reduceBEq, Int.reduceLE, Int.reduceLT, Int.reduceEq, Int.reduceNe, Int.reduceAdd, Int.reduceSub, Int.reduceMul, Int.reduceNeg, Int.reduceToNat, Int.reduceNatCast, reduceCtorEq, eq_self, t0, t1, Bool.toNat_false, Nat.zero_add, hm2]
      exact congrArg (fun z => AV.d (D.v (Value.int .u64 z))) (by omega)
  · rintro s H' ⟨rfl, t0, t1, t7, t8⟩
    rw [Nat.sub_self, List.drop_zero] at t7
    have h3 : (w : Int) - 1 - (w : Int) = -1 := by omega
    rw [h3] at t8
    simp (implicitDefEqProofs := false) only [↓reduceIte, go_sem, oread, owrite, Nat.reduceAdd, Nat.reduceSub, Nat.reduceMul, Nat.reduceLT, Nat.reduceLeDiff, Nat.reduceEqDiff, Nat.reduceBEq, Int.reduceLE, Int.reduceLT, Int.reduceEq, Int.reduceNe, Int.reduceAdd, Int.reduceSub, Int.reduceMul, Int.reduceNeg, Int.reduceToNat, Int.reduceNatCast, reduceCtorEq, eq_self, t8]
    refine awp_draw K.mixed (by kernel_rfl) ?_
    simp (implicitDefEqProofs := false) only [↓reduceIte, go_sem, oread, owrite, Nat.reduceAdd, Nat.reduceSub, Nat.reduceMul, Nat.reduceLT, Nat.reduceLeDiff, Nat.reduceEqDiff, Nat.reduceBEq, Int.reduceLE, Int.reduceLT, Int.reduceEq, Int.reduceNe, Int.reduceAdd, Int.reduceSub, Int.reduceMul, Int.reduceNeg, Int.reduceToNat, Int.reduceNatCast, reduceCtorEq, eq_self, t0, t1, t7, bls_one, bls_len, bls_drop, hr]
    refine AEnd.ret0 ?_
    simp (implicitDefEqProofs := false) only [↓reduceIte, go_sem, oread, owrite, Nat.reduceAdd, Nat.reduceSub, Nat.reduceMul, Nat.reduceLT, Nat.reduceLeDiff, Nat.reduceEqDiff, Nat.reduceBEq, Int.reduceLE, Int.reduceLT, Int.reduceEq, Int.reduceNe, Int.reduceAdd, Int.reduceSub, Int.reduceMul, Int.reduceNeg, Int.reduceToNat, Int.reduceNatCast, reduceCtorEq, eq_self, take_lenD (bls r) r.length (bls_len _), bls_drop]
theorem byteOf_zero2 : ∀ l : List Bool, byteOf l = 0 ↔ ∀ b ∈ l, b = false
  | [] => by simp [byteOf]
  | b :: r => by
    have := byteOf_zero2 r
    simp only [byteOf, List.mem_cons, forall_eq_or_imp, ← this]
    cases b <;> simp
    omega
theorem runpack_mul (k w n : Nat) (hk : k ≤ n) (hn : n ≤ 1048576) (hw : w ≤ 64) : IntKind.i64.wrap ((k : Int) * (w : Int)) = ((k * w : Nat) : Int) := by
  have h1 : k * w ≤ 1048576 * 64 := Nat.mul_le_mul (by omega) hw
  rw [show (k : Int) * (w : Int) = ((k * w : Nat) : Int) by push_cast; rfl]
  exact wrapI _ (by omega)
set_option maxRecDepth 10000 in
set_option maxHeartbeats 1000000 in
theorem runpack_does (b : List Nat) (n w : Nat) (nn : Bool) (hl : b.length ≤ 140737488351232) (hb : ∀ c ∈ b, c < 256) (hn : n ≤ 1048576) (hw : w ≤ 64) (H : AHeap) :
    Does Try.prog 35 [.d (.list nn (bys b)), iA n, iA w] H (.ok (.tup [unpackA b n w, iA (unpackE b n w)])) H := by
  have hnw : n * w ≤ 1048576 * 64 := Nat.mul_le_mul hn hw
  have m1 := runpack_mul n w n (Nat.le_refl _) hn hw
  have m2 : IntKind.i64.wrap (8 * (b.length : Int)) = ((8 * b.length : Nat) : Int) := by rw [wrap64_in _ (by omega) (by omega)]; omega
  have m3 : IntKind.i64.wrap (((8 * b.length : Nat) : Int) - ((n * w : Nat) : Int)) = ((8 * b.length : Nat) : Int) - ((n * w : Nat) : Int) := wrap64_in _ (by omega) (by omega)
  have hBl := bitsB_len b
  have hE : unpackE b n w = if 8 * b.length < n * w then 3 else if n * w + 8 ≤ 8 * b.length then 4 else if byteOf ((bitsB b).drop (n * w)) = 0 then 0 else 4 := rfl
  refine Does.of_awp (hint := (fun _ => false)) Try.func35 (by kernel_rfl) rfl [6, 7] (by kernel_rfl) (by decide) (by simp [Try.ntmps35]) ?_
  rw [Try.ntmps35]
  generalize hN : n * w = N at *
  generalize hT : 8 * b.length = T at *
  by_cases h1 : T < N
  · rw [if_pos h1] at hE
    simp (implicitDefEqProofs := false) only [↓reduceIte, go_sem, oread, owrite, Nat.reduceAdd, Nat.reduceSub, Nat.reduceMul, Nat.reduceLT, Nat.reduceLeDiff, Nat.reduceEqDiff, Nat.reduceBEq, Int.reduceLE, Int.reduceLT, Int.reduceEq, Int.reduceNe, Int.reduceAdd, Int.reduceSub, Int.reduceMul, Int.reduceNeg, Int.reduceToNat, Int.reduceNatCast, reduceCtorEq, eq_self, show ((n : Int) < 0) = False from eq_false (by omega), show ((1048576 : Int) < (n : Int)) = False from eq_false (by omega), show ((w : Int) < 0) = False from eq_false (by omega), show ((64 : Int) < (w : Int)) = False from eq_false (by omega), bys_len, m1, m2, show ((T : Int) < (N : Int)) = True from eq_true (by omega)]
    refine AEnd.ret0 ?_
    simp (implicitDefEqProofs := false) only [↓reduceIte, go_sem, oread, owrite, Nat.reduceAdd, Nat.reduceSub, Nat.reduceMul, Nat.reduceLT, Nat.reduceLeDiff, Nat.reduceEqDiff, Nat.reduceBEq, Int.reduceLE, Int.reduceLT, Int.reduceEq, Int.reduceNe, Int.reduceAdd, Int.reduceSub, Int.reduceMul, Int.reduceNeg, Int.reduceToNat, Int.reduceNatCast, reduceCtorEq, eq_self, hE, unpackA]
  rw [if_neg h1] at hE
  by_cases h2 : N + 8 ≤ T
  · rw [if_pos h2] at hE
    simp (implicitDefEqProofs := false) only [↓reduceIte, go_sem, oread, owrite, Nat.reduceAdd, Nat.reduceSub, Nat.reduceMul, Nat.reduceLT, Nat.reduceLeDiff, Nat.reduceEqDiff, Nat.reduceBEq, Int.reduceLE, Int.reduceLT, Int.reduceEq, Int.reduceNe, Int.reduceAdd, Int.reduceSub, Int.reduceMul, Int.reduceNeg, Int.reduceToNat, Int.reduceNatCast, reduceCtorEq, eq_self, show ((n : Int) < 0) = False from eq_false (by omega), show ((1048576 : Int) < (n : Int)) = False from eq_false (by omega), show ((w : Int) < 0) = False from eq_false (by omega), show ((64 : Int) < (w : Int)) = False from eq_false (by omega), bys_len, m1, m2, m3, show ((T : Int) < (N : Int)) = False from eq_false (by omega), show ((8 : Int) ≤ (T : Int) - (N : Int)) = True from eq_true (by omega)]
    refine AEnd.ret0 ?_
    simp (implicitDefEqProofs := false) only [↓reduceIte, go_sem, oread, owrite, Nat.reduceAdd, Nat.reduceSub, Nat.reduceMul, Nat.reduceLT, Nat.reduceLeDiff, Nat.reduceEqDiff, Nat.reduceBEq, Int.reduceLE, Int.reduceLT, Int.reduceEq, Int.reduceNe, Int.reduceAdd, Int.reduceSub, Int.reduceMul, Int.reduceNeg, Int.reduceToNat, Int.reduceNatCast, reduceCtorEq, eq_self, hE, unpackA]
  rw [if_neg h2] at hE
  simp (implicitDefEqProofs := false) only [↓reduceIte, go_sem, oread, owrite, Nat.reduceAdd, Nat.reduceSub, Nat.reduceMul, Nat.reduceLT, Nat.reduceLeDiff, Nat.reduceEqDiff, Nat.reduceBEq, Int.reduceLE, Int.reduceLT, Int.reduceEq, Int.reduceNe, Int.reduceAdd, Int.reduceSub, Int.reduceMul, Int.reduceNeg, Int.reduceToNat, Int.reduceNatCast, reduceCtorEq, eq_self, show ((n : Int) < 0) = False from eq_false (by omega), show ((1048576 : Int) < (n : Int)) = False from eq_false (by omega), show ((w : Int) < 0) = False from eq_false (by omega), show ((64 : Int) < (w : Int)) = False from eq_false (by omega), bys_len, m1, m2, m3, show ((T : Int) < (N : Int)) = False from eq_false (by omega), show ((8 : Int) ≤ (T : Int) - (N : Int)) = False from eq_false (by omega)]
  refine KCall.ok (rbits_does b nn (by omega) hb H) ?_
  simp (implicitDefEqProofs := false) only [↓reduceIte, go_sem, oread, owrite, Nat.reduceAdd, Nat.reduceSub, Nat.reduceMul, Nat.reduceLT, Nat.reduceLeDiff, Nat.reduceEqDiff, Nat.reduceBEq, Int.reduceLE, Int.reduceLT, Int.reduceEq, Int.reduceNe, Int.reduceAdd, Int.reduceSub, Int.reduceMul, Int.reduceNeg, Int.reduceToNat, Int.reduceNatCast, reduceCtorEq, eq_self]
  have hpart : ∀ k, partP b w k = byteOf (((bitsB b).drop (k * w)).take w) := fun k => rfl
  generalize bitsB b = r at *
  refine awp_for3 (fun k s H' => H' = H ++ [.arr 48 1 k (us (unpackL b k w))] ∧ s 1 = iA n ∧ s 2 = iA w ∧ s 8 = .d (.list false (bls r)) ∧ s 9 = .sl H.length k 0 k ∧ s 10 = iA k) n (by omega) (Weak.virt1 _ _ 9 48 1 (by decide) (by simp (implicitDefEqProofs := false) only [↓reduceIte, go_sem, oread, owrite, Nat.reduceAdd, Nat.reduceSub, Nat.reduceMul, Nat.reduceLT, Nat.reduceLeDiff, Nat.reduceEqDiff, Nat.reduceBEq, Int.reduceLE, Int.reduceLT, Int.reduceEq, Int.reduceNe, Int.reduceAdd, Int.reduceSub, Int.reduceMul, Int.reduceNeg, Int.reduceToNat, Int.reduceNatCast, reduceCtorEq, eq_self]) _) ?_ ?_ ?_
  · refine ⟨rfl, ?_⟩
    simp (implicitDefEqProofs := false) only [↓reduceIte, go_sem, oread, owrite, Nat.reduceAdd, Nat.reduceSub, Nat.reduceMul, Nat.reduceLT, Nat.reduceLeDiff, Nat.reduceEqDiff, Nat.reduceBEq, Int.reduceLE, Int.reduceLT, Int.reduceEq, Int.reduceNe, Int.reduceAdd, Int.reduceSub, Int.reduceMul, Int.reduceNeg, Int.reduceToNat, Int.reduceNatCast, reduceCtorEq, eq_self]
  · rintro k s H' hk hwk ⟨rfl, t1, t2, t8, t9, t10⟩
    have mk := runpack_mul k w n (by omega) hn hw
    have hkw : (k + 1) * w ≤ n * w := Nat.mul_le_mul_right _ hk
    rw [Nat.add_mul, Nat.one_mul] at hkw
    have e1 := unpackL_succ b k w
    have el := unpackL_len b k w
    rw [hpart] at e1
    rw [e1]
    generalize unpackL b k w = L at *
    have hget := fun H => r1get_does (r.drop (k * w)) w false hw (by rw [List.length_drop]; omega) (by rw [List.length_drop]; omega) H
    generalize byteOf ((r.drop (k * w)).take w) = x at *
    simp (implicitDefEqProofs := false) only [↓reduceIte, go_sem, oread, owrite, Nat.reduceAdd, Nat.reduceSub, Nat.reduceMul, Nat.reduceLT, Nat.reduceLeDiff, Nat.reduceEqDiff, Nat.reduceBEq, Int.reduceLE, Int.reduceLT, Int.reduceEq, Int.reduceNe, Int.reduceAdd, Int.reduceSub, Int.reduceMul, Int.reduceNeg, Int.reduceToNat, Int.reduceNatCast, reduceCtorEq, eq_self, t1, t2, t8, t9, t10, hk, mk, bls_one, bls_len, show k * w ≤ r.length from by omega, take_lenD (bls r) r.length (bls_len _), bls_drop]
    refine KCall.ok (hget _) ?_
    simp (implicitDefEqProofs := false) only [↓reduceIte, go_sem, oread, owrite, Nat.reduceAdd, Nat.reduceSub, Nat.reduceMul, Nat.reduceLT, Nat.reduceLeDiff, Nat.reduceEqDiff, Nat.reduceBEq, Int.reduceLE, Int.reduceLT, Int.reduceEq, Int.reduceNe, Int.reduceAdd, Int.reduceSub, Int.reduceMul, Int.reduceNeg, Int.reduceToNat, Int.reduceNatCast, reduceCtorEq, eq_self, t9, t10, us_len, el, us_snoc]
    refine ⟨by omega, by omega, Rnd.same ⟨rfl, ?_⟩⟩
    simp (implicitDefEqProofs := false) only [↓reduceIte, go_sem, oread, owrite, Nat.reduceAdd, Nat.reduceSub, Nat.reduceMul, Nat.reduceLT, Nat.reduceLeDiff, Nat.reduceEqDiff, Nat.reduceBEq, Int.reduceLE, Int.reduceLT, Int.reduceEq, Int.reduceNe, Int.reduceAdd, Int.reduceSub, Int.reduceMul, Int.reduceNeg, Int.reduceToNat, Int.reduceNatCast, reduceCtorEq, eq_self, t1, t2, t8, hwk]
  · rintro s H' ⟨rfl, t1, t2, t8, t9, t10⟩
    simp (implicitDefEqProofs := false) only [↓reduceIte, go_sem, oread, owrite, Nat.reduceAdd, Nat.reduceSub, Nat.reduceMul, Nat.reduceLT, Nat.reduceLeDiff, Nat.reduceEqDiff, Nat.reduceBEq, Int.reduceLE, Int.reduceLT, Int.reduceEq, Int.reduceNe, Int.reduceAdd, Int.reduceSub, Int.reduceMul, Int.reduceNeg, Int.reduceToNat, Int.reduceNatCast, reduceCtorEq, eq_self, t1, t2, t8, t9, t10, m1]
    refine awp_for3 (fun k s H' => H' = H ++ [.arr 48 1 n (us (unpackL b n w))] ∧ (∀ i, N ≤ i → i < N + k → ∀ (h : i < r.length), r[i] = false) ∧ s 8 = .d (.list false (bls r)) ∧ s 9 = .sl H.length n 0 n ∧ s 14 = iA ((N + k : Nat) : Int)) (T - N) (by omega) (Weak.refl _ _) ?_ ?_ ?_
    · refine ⟨rfl, fun i h1 h2 => by omega, ?_⟩
      simp (implicitDefEqProofs := false) only [↓reduceIte, go_sem, oread, owrite, Nat.reduceAdd, Nat.reduceSub, Nat.reduceMul, Nat.reduceLT, Nat.reduceLeDiff, Nat.reduceEqDiff, Nat.reduceBEq, Int.reduceLE, Int.reduceLT, Int.reduceEq, Int.reduceNe, Int.reduceAdd, Int.reduceSub, Int.reduceMul, Int.reduceNeg, Int.reduceToNat, Int.reduceNatCast, reduceCtorEq, eq_self, t8, t9, Nat.add_zero]
    · rintro k s H' hk hwk ⟨rfl, hf, t8, t9, t14⟩
      have hNk : N + k < r.length := by omega
      have hx := bls_get r (N + k) hNk
      have hbad : r[N + k] = true → byteOf (r.drop N) ≠ 0 := fun h h0 => by
        have := (byteOf_zero2 _).1 h0 r[N + k] (List.mem_iff_getElem.2 ⟨k, by rw [List.length_drop]; omega, by rw [List.getElem_drop]⟩)
        rw [h] at this; cases this
      have hf2 : r[N + k] = false → ∀ i, N ≤ i → i < N + (k + 1) → ∀ (h : i < r.length), r[i] = false := fun h i h1 h2 h3 => by
        by_cases e : i = N + k
        · subst e; exact h
        · exact hf i h1 (by omega) h3
      have hw1 : IntKind.i64.wrap (((N + k : Nat) : Int) + 1) = ((N + (k + 1) : Nat) : Int) := by rw [wrap64_in _ (by omega) (by omega)]; omega
      generalize r[N + k] = x at *
      generalize N + k = i at *
      generalize N + (k + 1) = i2 at *
      cases x with
      | true =>
        rw [if_neg (hbad rfl)] at hE
        simp (implicitDefEqProofs := false) only [↓reduceIte, go_sem, oread, owrite, Nat.reduceAdd, Nat.reduceSub, Nat.reduceMul, Nat.reduceLT, Nat.reduceLeDiff, Nat.reduceEqDiff, Nat.reduceBEq, Int.reduceLE, Int.reduceLT, Int.reduceEq, Int.reduceNe, Int.reduceAdd, Int.reduceSub, Int.reduceMul, Int.reduceNeg, Int.reduceToNat, Int.reduceNatCast, reduceCtorEq, eq_self, t8, t14, bls_len, hNk, hx]
        refine AEnd.ret ?_
        simp (implicitDefEqProofs := false) only [↓reduceIte, go_sem, oread, owrite, Nat.reduceAdd, Nat.reduceSub, Nat.reduceMul, Nat.reduceLT, Nat.reduceLeDiff, Nat.reduceEqDiff, Nat.reduceBEq, Int.reduceLE, Int.reduceLT, Int.reduceEq, Int.reduceNe, Int.reduceAdd, Int.reduceSub, Int.reduceMul, Int.reduceNeg, Int.reduceToNat, Int.reduceNatCast, reduceCtorEq, eq_self, hE, unpackA]
      | false =>
        simp (implicitDefEqProofs := false) only [↓reduceIte, go_sem, oread, owrite, Nat.reduceAdd, Nat.reduceSub, Nat.reduceMul, Nat.reduceLT, Nat.reduceLeDiff, Nat.reduceEqDiff, Nat.reduceBEq, Int.reduceLE, Int.reduceLT, Int.reduceEq, Int.reduceNe, Int.reduceAdd, Int.reduceSub, Int.reduceMul, Int.reduceNeg, Int.reduceToNat, Int.reduceNatCast, reduceCtorEq, eq_self, t8, t14, bls_len, hNk, hx, hw1]
        refine Rnd.same ⟨rfl, hf2 rfl, ?_⟩
        simp (implicitDefEqProofs := false) only [↓reduceIte, go_sem, oread, owrite, Nat.reduceAdd, Nat.reduceSub, Nat.reduceMul, Nat.reduceLT, Nat.reduceLeDiff, Nat.reduceEqDiff, Nat.reduceBEq, Int.reduceLE, Int.reduceLT, Int.reduceEq, Int.reduceNe, Int.reduceAdd, Int.reduceSub, Int.reduceMul, Int.reduceNeg, Int.reduceToNat, Int.reduceNatCast, reduceCtorEq, eq_self, t8, t9]
    · rintro s H' ⟨rfl, hf, t8, t9, t14⟩
      rw [show N + (T - N) = T by omega] at *
      have h0 : byteOf (r.drop N) = 0 := (byteOf_zero2 _).2 fun x hx => by
        obtain ⟨i, hi, rfl⟩ := List.mem_iff_getElem.1 hx
        rw [List.length_drop] at hi
        rw [List.getElem_drop]
        exact hf (N + i) (by omega) (by omega) (by omega)
      rw [if_pos h0] at hE
      simp (implicitDefEqProofs := false) only [↓reduceIte, go_sem, oread, owrite, Nat.reduceAdd, Nat.reduceSub, Nat.reduceMul, Nat.reduceLT, Nat.reduceLeDiff, Nat.reduceEqDiff, Nat.reduceBEq, Int.reduceLE, Int.reduceLT, Int.reduceEq, Int.reduceNe, Int.reduceAdd, Int.reduceSub, Int.reduceMul, Int.reduceNeg, Int.reduceToNat, Int.reduceNatCast, reduceCtorEq, eq_self, t8, t9, t14, bls_len, hBl]
      refine AEnd.ret ?_
      simp (implicitDefEqProofs := false) only [↓reduceIte, go_sem, oread, owrite, Nat.reduceAdd, Nat.reduceSub, Nat.reduceMul, Nat.reduceLT, Nat.reduceLeDiff, Nat.reduceEqDiff, Nat.reduceBEq, Int.reduceLE, Int.reduceLT, Int.reduceEq, Int.reduceNe, Int.reduceAdd, Int.reduceSub, Int.reduceMul, Int.reduceNeg, Int.reduceToNat, Int.reduceNatCast, reduceCtorEq, eq_self, hE, unpackA, take_lenD (us (unpackL b n w)) n (by rw [us_len, unpackL_len])]
end Go.Proofs.Ytcdnbefcccdaeaa
namespace Go.Proofs.Ytcdnbefcccdaeaa
open Go.Proofs.YtcdnbefcccdaeaaAw Go.RowKit
set_option linter.unusedVariables false
set_option linter.unusedSimpArgs false
theorem u64_of (n : Nat) (h : n < 18446744073709551616) : IntKind.u64.wrap (n : Int) = n := by
  simp [IntKind.wrap, IntKind.signed, IntKind.bits]; omega
theorem tdiv_nat (m n : Nat) : (m : Int).tdiv n = ((m / n : Nat) : Int) := rfl
theorem tmod_nat (m n : Nat) : (m : Int).tmod n = ((m % n : Nat) : Int) := rfl
set_option maxRecDepth 10000 in
theorem parts04_does (b : Nat) (hb : b < 18446744073709551616) (H : AHeap) : Does Try.prog 75 [du b] H (.ok (.tup [bA (decide (9223372036854775808 ≤ b)), du (b / 4503599627370496 % 2048), du (b % 4503599627370496)])) H := by
  have e1 : (b : Int).tdiv 4503599627370496 = ((b / 4503599627370496 : Nat) : Int) := rfl
  have e2 : ((b / 4503599627370496 : Nat) : Int).tmod 2048 = ((b / 4503599627370496 % 2048 : Nat) : Int) := rfl
  have e3 : (b : Int).tmod 4503599627370496 = ((b % 4503599627370496 : Nat) : Int) := rfl
  have e4 : ((9223372036854775808 : Int) ≤ (b : Int)) = (9223372036854775808 ≤ b) := by simp; omega
  refine Does.of_awp (hint := (fun _ => false)) Try.func75 (by kernel_rfl) rfl [2, 3, 4] (by kernel_rfl) (by decide) (by simp [Try.ntmps75]) ?_
  rw [Try.ntmps75]
  simp (implicitDefEqProofs := false) only [↓reduceIte, go_sem, oread, owrite, Nat.reduceAdd, Nat.reduceSub, Nat.reduceMul, Nat.reduceLT, Nat.reduceLeDiff, Nat.reduceEqDiff, Nat.reduceBEq, Int.reduceLE, Int.reduceLT, Int.reduceEq, Int.reduceNe, Int.reduceAdd, Int.reduceSub, Int.reduceMul, Int.reduceNeg, Int.reduceToNat, Int.reduceNatCast, reduceCtorEq, eq_self, e1, e2, e3, u64_of _ (show b / 4503599627370496 < 18446744073709551616 by omega)]
  refine AEnd.ret0 ?_
  simp (implicitDefEqProofs := false) only [↓reduceIte, go_sem, oread, owrite, Nat.reduceAdd, Nat.reduceSub, Nat.reduceMul, Nat.reduceLT, Nat.reduceLeDiff, Nat.reduceEqDiff, Nat.reduceBEq, Int.reduceLE, Int.reduceLT, Int.reduceEq, Int.reduceNe, Int.reduceAdd, Int.reduceSub, Int.reduceMul, Int.reduceNeg, Int.reduceToNat, Int.reduceNatCast, reduceCtorEq, eq_self, e4]
theorem nan04 (b : Nat) : (decide (b / 4503599627370496 % 2048 = 2047) && !decide (b % 4503599627370496 = 0)) = nanN b := by
  unfold nanN
  rw [Bool.eq_iff_iff]
  simp only [Bool.and_eq_true, decide_eq_true_eq, Bool.not_eq_true', decide_eq_false_iff_not]
  omega
set_option maxRecDepth 10000 in
theorem nan04_does (b : Nat) (hb : b < 18446744073709551616) (H : AHeap) : Does Try.prog 74 [du b] H (.ok (bA (nanN b))) H := by
  rw [← nan04]
  have hp := parts04_does b hb H
  generalize b / 4503599627370496 % 2048 = e at hp ⊢
  generalize b % 4503599627370496 = f at hp ⊢
  have e1 : (((e : Nat) : Int) = 2047) = (e = 2047) := by simp; omega
  have e2 : (((f : Nat) : Int) = 0) = (f = 0) := by simp
  refine Does.of_awp (hint := (fun _ => false)) Try.func74 (by kernel_rfl) rfl [2] (by kernel_rfl) (by decide) (by simp [Try.ntmps74]) ?_
  rw [Try.ntmps74]
  simp (implicitDefEqProofs := false) only [↓reduceIte, go_sem, oread, owrite, Nat.reduceAdd, Nat.reduceSub, Nat.reduceMul, Nat.reduceLT, Nat.reduceLeDiff, Nat.reduceEqDiff, Nat.reduceBEq, Int.reduceLE, Int.reduceLT, Int.reduceEq, Int.reduceNe, Int.reduceAdd, Int.reduceSub, Int.reduceMul, Int.reduceNeg, Int.reduceToNat, Int.reduceNatCast, reduceCtorEq, eq_self]
  refine KCall.ok hp ?_
  simp (implicitDefEqProofs := false) only [↓reduceIte, go_sem, oread, owrite, Nat.reduceAdd, Nat.reduceSub, Nat.reduceMul, Nat.reduceLT, Nat.reduceLeDiff, Nat.reduceEqDiff, Nat.reduceBEq, Int.reduceLE, Int.reduceLT, Int.reduceEq, Int.reduceNe, Int.reduceAdd, Int.reduceSub, Int.reduceMul, Int.reduceNeg, Int.reduceToNat, Int.reduceNatCast, reduceCtorEq, eq_self]
  by_cases h : e = 2047
  · simp (implicitDefEqProofs := false) only [↓reduceIte, go_sem, oread, owrite, Nat.reduceAdd, Nat.reduceSub, Nat.reduceMul, Nat.reduceLT, Nat.reduceLeDiff, Nat.reduceEqDiff, Nat.reduceBEq, Int.reduceLE, Int.reduceLT, Int.reduceEq, Int.reduceNe, Int.reduceAdd, Int.reduceSub, Int.reduceMul, Int.reduceNeg, Int.reduceToNat, Int.reduceNatCast, reduceCtorEq, eq_self, e1, e2, h]
    refine AEnd.ret0 ?_
    simp (implicitDefEqProofs := false) only [↓reduceIte, go_sem, oread, owrite, Nat.reduceAdd, Nat.reduceSub, Nat.reduceMul, Nat.reduceLT, Nat.reduceLeDiff, Nat.reduceEqDiff, Nat.reduceBEq, Int.reduceLE, Int.reduceLT, Int.reduceEq, Int.reduceNe, Int.reduceAdd, Int.reduceSub, Int.reduceMul, Int.reduceNeg, Int.reduceToNat, Int.reduceNatCast, reduceCtorEq, eq_self, h]
  · simp (implicitDefEqProofs := false) only [↓reduceIte, go_sem, oread, owrite, Nat.reduceAdd, Nat.reduceSub, Nat.reduceMul, Nat.reduceLT, Nat.reduceLeDiff, Nat.reduceEqDiff, Nat.reduceBEq, Int.reduceLE, Int.reduceLT, Int.reduceEq, Int.reduceNe, Int.reduceAdd, Int.reduceSub, Int.reduceMul, Int.reduceNeg, Int.reduceToNat, Int.reduceNatCast, reduceCtorEq, eq_self, e1, e2, h]
    refine AEnd.ret0 ?_
    simp (implicitDefEqProofs := false) only [↓reduceIte, go_sem, oread, owrite, Nat.reduceAdd, Nat.reduceSub, Nat.reduceMul, Nat.reduceLT, Nat.reduceLeDiff, Nat.reduceEqDiff, Nat.reduceBEq, Int.reduceLE, Int.reduceLT, Int.reduceEq, Int.reduceNe, Int.reduceAdd, Int.reduceSub, Int.reduceMul, Int.reduceNeg, Int.reduceToNat, Int.reduceNatCast, reduceCtorEq, eq_self, h]
set_option maxRecDepth 10000 in
theorem clean04_does (b : Nat) (hb : b < 18446744073709551616) (H : AHeap) : Does Try.prog 70 [du b] H (.ok (du (cleanN b))) H := by
  unfold cleanN
  refine Does.of_awp (hint := (fun _ => false)) Try.func70 (by kernel_rfl) rfl [2] (by kernel_rfl) (by decide) (by simp [Try.ntmps70]) ?_
  rw [Try.ntmps70]
  simp (implicitDefEqProofs := false) only [↓reduceIte, go_sem, oread, owrite, Nat.reduceAdd, Nat.reduceSub, Nat.reduceMul, Nat.reduceLT, Nat.reduceLeDiff, Nat.reduceEqDiff, Nat.reduceBEq, Int.reduceLE, Int.reduceLT, Int.reduceEq, Int.reduceNe, Int.reduceAdd, Int.reduceSub, Int.reduceMul, Int.reduceNeg, Int.reduceToNat, Int.reduceNatCast, reduceCtorEq, eq_self]
  refine KCall.ok (nan04_does b hb _) ?_
  cases h : nanN b with
  | true =>
    simp (implicitDefEqProofs := false) only [↓reduceIte, go_sem, oread, owrite, Nat.reduceAdd, Nat.reduceSub, Nat.reduceMul, Nat.reduceLT, Nat.reduceLeDiff, Nat.reduceEqDiff, Nat.reduceBEq, Int.reduceLE, Int.reduceLT, Int.reduceEq, Int.reduceNe, Int.reduceAdd, Int.reduceSub, Int.reduceMul, Int.reduceNeg, Int.reduceToNat, Int.reduceNatCast, reduceCtorEq, eq_self]
    refine AEnd.ret0 ?_
    simp (implicitDefEqProofs := false) only [↓reduceIte, go_sem, oread, owrite, Nat.reduceAdd, Nat.reduceSub, Nat.reduceMul, Nat.reduceLT, Nat.reduceLeDiff, Nat.reduceEqDiff, Nat.reduceBEq, Int.reduceLE, Int.reduceLT, Int.reduceEq, Int.reduceNe, Int.reduceAdd, Int.reduceSub, Int.reduceMul, Int.reduceNeg, Int.reduceToNat, Int.reduceNatCast, reduceCtorEq, eq_self, h]
    rfl
  | false =>
    simp (implicitDefEqProofs := false) only [↓reduceIte, go_sem, oread, owrite, Nat.reduceAdd, Nat.reduceSub, Nat.reduceMul, Nat.reduceLT, Nat.reduceLeDiff, Nat.reduceEqDiff, Nat.reduceBEq, Int.reduceLE, Int.reduceLT, Int.reduceEq, Int.reduceNe, Int.reduceAdd, Int.reduceSub, Int.reduceMul, Int.reduceNeg, Int.reduceToNat, Int.reduceNatCast, reduceCtorEq, eq_self]
    refine AEnd.ret0 ?_
    simp (implicitDefEqProofs := false) only [↓reduceIte, go_sem, oread, owrite, Nat.reduceAdd, Nat.reduceSub, Nat.reduceMul, Nat.reduceLT, Nat.reduceLeDiff, Nat.reduceEqDiff, Nat.reduceBEq, Int.reduceLE, Int.reduceLT, Int.reduceEq, Int.reduceNe, Int.reduceAdd, Int.reduceSub, Int.reduceMul, Int.reduceNeg, Int.reduceToNat, Int.reduceNatCast, reduceCtorEq, eq_self, h, Bool.false_eq_true]
set_option maxRecDepth 10000 in
theorem key04_does (b : Nat) (hb : b < 18446744073709551616) (H : AHeap) : Does Try.prog 72 [du b] H (.ok (du (keyN b))) H := by
  have hc := clean04_does b hb H
  have hlt := cleanN_lt b hb
  unfold keyN
  generalize cleanN b = c at hc hlt ⊢
  refine Does.of_awp (hint := (fun _ => false)) Try.func72 (by kernel_rfl) rfl [2] (by kernel_rfl) (by decide) (by simp [Try.ntmps72]) ?_
  rw [Try.ntmps72]
  simp (implicitDefEqProofs := false) only [↓reduceIte, go_sem, oread, owrite, Nat.reduceAdd, Nat.reduceSub, Nat.reduceMul, Nat.reduceLT, Nat.reduceLeDiff, Nat.reduceEqDiff, Nat.reduceBEq, Int.reduceLE, Int.reduceLT, Int.reduceEq, Int.reduceNe, Int.reduceAdd, Int.reduceSub, Int.reduceMul, Int.reduceNeg, Int.reduceToNat, Int.reduceNatCast, reduceCtorEq, eq_self]
  refine KCall.ok hc ?_
  simp (implicitDefEqProofs := false) only [↓reduceIte, go_sem, oread, owrite, Nat.reduceAdd, Nat.reduceSub, Nat.reduceMul, Nat.reduceLT, Nat.reduceLeDiff, Nat.reduceEqDiff, Nat.reduceBEq, Int.reduceLE, Int.reduceLT, Int.reduceEq, Int.reduceNe, Int.reduceAdd, Int.reduceSub, Int.reduceMul, Int.reduceNeg, Int.reduceToNat, Int.reduceNatCast, reduceCtorEq, eq_self]
  refine KCall.ok (parts04_does c hlt _) ?_
  simp (implicitDefEqProofs := false) only [↓reduceIte, go_sem, oread, owrite, Nat.reduceAdd, Nat.reduceSub, Nat.reduceMul, Nat.reduceLT, Nat.reduceLeDiff, Nat.reduceEqDiff, Nat.reduceBEq, Int.reduceLE, Int.reduceLT, Int.reduceEq, Int.reduceNe, Int.reduceAdd, Int.reduceSub, Int.reduceMul, Int.reduceNeg, Int.reduceToNat, Int.reduceNatCast, reduceCtorEq, eq_self]
  by_cases h : 9223372036854775808 ≤ c
  · have e1 : IntKind.u64.wrap ((18446744073709551615 : Int) - (c : Int)) = ((18446744073709551615 - c : Nat) : Int) := by rw [show (18446744073709551615 : Int) - (c : Int) = ((18446744073709551615 - c : Nat) : Int) from by omega]; exact u64_of _ (by omega)
    simp (implicitDefEqProofs := false) only [↓reduceIte, go_sem, oread, owrite, Nat.reduceAdd, Nat.reduceSub, Nat.reduceMul, Nat.reduceLT, Nat.reduceLeDiff, Nat.reduceEqDiff, Nat.reduceBEq, Int.reduceLE, Int.reduceLT, Int.reduceEq, Int.reduceNe, Int.reduceAdd, Int.reduceSub, Int.reduceMul, Int.reduceNeg, Int.reduceToNat, Int.reduceNatCast, reduceCtorEq, eq_self, h, e1]
    refine AEnd.ret0 ?_
    simp (implicitDefEqProofs := false) only [↓reduceIte, go_sem, oread, owrite, Nat.reduceAdd, Nat.reduceSub, Nat.reduceMul, Nat.reduceLT, Nat.reduceLeDiff, Nat.reduceEqDiff, Nat.reduceBEq, Int.reduceLE, Int.reduceLT, Int.reduceEq, Int.reduceNe, Int.reduceAdd, Int.reduceSub, Int.reduceMul, Int.reduceNeg, Int.reduceToNat, Int.reduceNatCast, reduceCtorEq, eq_self, h]
  · have e2 : (c : Int) + 9223372036854775808 = ((c + 9223372036854775808 : Nat) : Int) := by omega
    have e1 : IntKind.u64.wrap ((c : Int) + 9223372036854775808) = ((c + 9223372036854775808 : Nat) : Int) := by rw [show (c : Int) + 9223372036854775808 = ((c + 9223372036854775808 : Nat) : Int) from by omega]; exact u64_of _ (by omega)
    simp (implicitDefEqProofs := false) only [↓reduceIte, go_sem, oread, owrite, Nat.reduceAdd, Nat.reduceSub, Nat.reduceMul, Nat.reduceLT, Nat.reduceLeDiff, Nat.reduceEqDiff, Nat.reduceBEq, Int.reduceLE, Int.reduceLT, Int.reduceEq, Int.reduceNe, Int.reduceAdd, Int.reduceSub, Int.reduceMul, Int.reduceNeg, Int.reduceToNat, Int.reduceNatCast, reduceCtorEq, eq_self, h, e1]
    refine AEnd.ret0 ?_
    simp (implicitDefEqProofs := false) only [↓reduceIte, go_sem, oread, owrite, Nat.reduceAdd, Nat.reduceSub, Nat.reduceMul, Nat.reduceLT, Nat.reduceLeDiff, Nat.reduceEqDiff, Nat.reduceBEq, Int.reduceLE, Int.reduceLT, Int.reduceEq, Int.reduceNe, Int.reduceAdd, Int.reduceSub, Int.reduceMul, Int.reduceNeg, Int.reduceToNat, Int.reduceNatCast, reduceCtorEq, eq_self, h, du, Int.natCast_add]
    try rfl
set_option maxRecDepth 10000 in
theorem fcmp04_does (a b : Nat) (ha : a < 18446744073709551616) (hb : b < 18446744073709551616) (H : AHeap) : Does Try.prog 62 [du a, du b] H (.ok (iA (cmpF a b))) H := by
  have k1 := key04_does a ha H
  have k2 := key04_does b hb H
  unfold cmpF
  generalize keyN a = x at k1 ⊢
  generalize keyN b = y at k2 ⊢
  refine Does.of_awp (hint := (fun _ => false)) Try.func62 (by kernel_rfl) rfl [4] (by kernel_rfl) (by decide) (by simp [Try.ntmps62]) ?_
  rw [Try.ntmps62]
  simp (implicitDefEqProofs := false) only [↓reduceIte, go_sem, oread, owrite, Nat.reduceAdd, Nat.reduceSub, Nat.reduceMul, Nat.reduceLT, Nat.reduceLeDiff, Nat.reduceEqDiff, Nat.reduceBEq, Int.reduceLE, Int.reduceLT, Int.reduceEq, Int.reduceNe, Int.reduceAdd, Int.reduceSub, Int.reduceMul, Int.reduceNeg, Int.reduceToNat, Int.reduceNatCast, reduceCtorEq, eq_self]
  refine KCall.ok k1 ?_
  simp (implicitDefEqProofs := false) only [↓reduceIte, go_sem, oread, owrite, Nat.reduceAdd, Nat.reduceSub, Nat.reduceMul, Nat.reduceLT, Nat.reduceLeDiff, Nat.reduceEqDiff, Nat.reduceBEq, Int.reduceLE, Int.reduceLT, Int.reduceEq, Int.reduceNe, Int.reduceAdd, Int.reduceSub, Int.reduceMul, Int.reduceNeg, Int.reduceToNat, Int.reduceNatCast, reduceCtorEq, eq_self]
  refine KCall.ok k2 ?_
  simp (implicitDefEqProofs := false) only [↓reduceIte, go_sem, oread, owrite, Nat.reduceAdd, Nat.reduceSub, Nat.reduceMul, Nat.reduceLT, Nat.reduceLeDiff, Nat.reduceEqDiff, Nat.reduceBEq, Int.reduceLE, Int.reduceLT, Int.reduceEq, Int.reduceNe, Int.reduceAdd, Int.reduceSub, Int.reduceMul, Int.reduceNeg, Int.reduceToNat, Int.reduceNatCast, reduceCtorEq, eq_self]
  by_cases h : x < y
  · refine awp_T (by simp (implicitDefEqProofs := false) only [↓reduceIte, go_sem, oread, owrite, Nat.reduceAdd, Nat.reduceSub, Nat.reduceMul, Nat.reduceLT, Nat.reduceLeDiff, Nat.reduceEqDiff, Nat.reduceBEq, Int.reduceLE, Int.reduceLT, Int.reduceEq, Int.reduceNe, Int.reduceAdd, Int.reduceSub, Int.reduceMul, Int.reduceNeg, Int.reduceToNat, Int.reduceNatCast, reduceCtorEq, eq_self, h]) ?_
    simp (implicitDefEqProofs := false) only [↓reduceIte, go_sem, oread, owrite, Nat.reduceAdd, Nat.reduceSub, Nat.reduceMul, Nat.reduceLT, Nat.reduceLeDiff, Nat.reduceEqDiff, Nat.reduceBEq, Int.reduceLE, Int.reduceLT, Int.reduceEq, Int.reduceNe, Int.reduceAdd, Int.reduceSub, Int.reduceMul, Int.reduceNeg, Int.reduceToNat, Int.reduceNatCast, reduceCtorEq, eq_self]
    refine AEnd.ret0 ?_
    simp (implicitDefEqProofs := false) only [↓reduceIte, go_sem, oread, owrite, Nat.reduceAdd, Nat.reduceSub, Nat.reduceMul, Nat.reduceLT, Nat.reduceLeDiff, Nat.reduceEqDiff, Nat.reduceBEq, Int.reduceLE, Int.reduceLT, Int.reduceEq, Int.reduceNe, Int.reduceAdd, Int.reduceSub, Int.reduceMul, Int.reduceNeg, Int.reduceToNat, Int.reduceNatCast, reduceCtorEq, eq_self, ordI, h]
  · refine awp_F (by simp (implicitDefEqProofs := false) only [↓reduceIte, go_sem, oread, owrite, Nat.reduceAdd, Nat.reduceSub, Nat.reduceMul, Nat.reduceLT, Nat.reduceLeDiff, Nat.reduceEqDiff, Nat.reduceBEq, Int.reduceLE, Int.reduceLT, Int.reduceEq, Int.reduceNe, Int.reduceAdd, Int.reduceSub, Int.reduceMul, Int.reduceNeg, Int.reduceToNat, Int.reduceNatCast, reduceCtorEq, eq_self, h]) ?_
    simp (implicitDefEqProofs := false) only [↓reduceIte, go_sem, oread, owrite, Nat.reduceAdd, Nat.reduceSub, Nat.reduceMul, Nat.reduceLT, Nat.reduceLeDiff, Nat.reduceEqDiff, Nat.reduceBEq, Int.reduceLE, Int.reduceLT, Int.reduceEq, Int.reduceNe, Int.reduceAdd, Int.reduceSub, Int.reduceMul, Int.reduceNeg, Int.reduceToNat, Int.reduceNatCast, reduceCtorEq, eq_self]
    refine KCall.ok k1 ?_
    simp (implicitDefEqProofs := false) only [↓reduceIte, go_sem, oread, owrite, Nat.reduceAdd, Nat.reduceSub, Nat.reduceMul, Nat.reduceLT, Nat.reduceLeDiff, Nat.reduceEqDiff, Nat.reduceBEq, Int.reduceLE, Int.reduceLT, Int.reduceEq, Int.reduceNe, Int.reduceAdd, Int.reduceSub, Int.reduceMul, Int.reduceNeg, Int.reduceToNat, Int.reduceNatCast, reduceCtorEq, eq_self]
    refine KCall.ok k2 ?_
    simp (implicitDefEqProofs := false) only [↓reduceIte, go_sem, oread, owrite, Nat.reduceAdd, Nat.reduceSub, Nat.reduceMul, Nat.reduceLT, Nat.reduceLeDiff, Nat.reduceEqDiff, Nat.reduceBEq, Int.reduceLE, Int.reduceLT, Int.reduceEq, Int.reduceNe, Int.reduceAdd, Int.reduceSub, Int.reduceMul, Int.reduceNeg, Int.reduceToNat, Int.reduceNatCast, reduceCtorEq, eq_self]
    by_cases h2 : y < x
    · refine awp_T (by simp (implicitDefEqProofs := false) only [↓reduceIte, go_sem, oread, owrite, Nat.reduceAdd, Nat.reduceSub, Nat.reduceMul, Nat.reduceLT, Nat.reduceLeDiff, Nat.reduceEqDiff, Nat.reduceBEq, Int.reduceLE, Int.reduceLT, Int.reduceEq, Int.reduceNe, Int.reduceAdd, Int.reduceSub, Int.reduceMul, Int.reduceNeg, Int.reduceToNat, Int.reduceNatCast, reduceCtorEq, eq_self, h2]) ?_
      simp (implicitDefEqProofs := false) only [↓reduceIte, go_sem, oread, owrite, Nat.reduceAdd, Nat.reduceSub, Nat.reduceMul, Nat.reduceLT, Nat.reduceLeDiff, Nat.reduceEqDiff, Nat.reduceBEq, Int.reduceLE, Int.reduceLT, Int.reduceEq, Int.reduceNe, Int.reduceAdd, Int.reduceSub, Int.reduceMul, Int.reduceNeg, Int.reduceToNat, Int.reduceNatCast, reduceCtorEq, eq_self]
      refine AEnd.ret0 ?_
      simp (implicitDefEqProofs := false) only [↓reduceIte, go_sem, oread, owrite, Nat.reduceAdd, Nat.reduceSub, Nat.reduceMul, Nat.reduceLT, Nat.reduceLeDiff, Nat.reduceEqDiff, Nat.reduceBEq, Int.reduceLE, Int.reduceLT, Int.reduceEq, Int.reduceNe, Int.reduceAdd, Int.reduceSub, Int.reduceMul, Int.reduceNeg, Int.reduceToNat, Int.reduceNatCast, reduceCtorEq, eq_self, ordI, h, h2]
    · refine awp_F (by simp (implicitDefEqProofs := false) only [↓reduceIte, go_sem, oread, owrite, Nat.reduceAdd, Nat.reduceSub, Nat.reduceMul, Nat.reduceLT, Nat.reduceLeDiff, Nat.reduceEqDiff, Nat.reduceBEq, Int.reduceLE, Int.reduceLT, Int.reduceEq, Int.reduceNe, Int.reduceAdd, Int.reduceSub, Int.reduceMul, Int.reduceNeg, Int.reduceToNat, Int.reduceNatCast, reduceCtorEq, eq_self, h2]) ?_
      simp (implicitDefEqProofs := false) only [↓reduceIte, go_sem, oread, owrite, Nat.reduceAdd, Nat.reduceSub, Nat.reduceMul, Nat.reduceLT, Nat.reduceLeDiff, Nat.reduceEqDiff, Nat.reduceBEq, Int.reduceLE, Int.reduceLT, Int.reduceEq, Int.reduceNe, Int.reduceAdd, Int.reduceSub, Int.reduceMul, Int.reduceNeg, Int.reduceToNat, Int.reduceNatCast, reduceCtorEq, eq_self]
      refine AEnd.ret0 ?_
      simp (implicitDefEqProofs := false) only [↓reduceIte, go_sem, oread, owrite, Nat.reduceAdd, Nat.reduceSub, Nat.reduceMul, Nat.reduceLT, Nat.reduceLeDiff, Nat.reduceEqDiff, Nat.reduceBEq, Int.reduceLE, Int.reduceLT, Int.reduceEq, Int.reduceNe, Int.reduceAdd, Int.reduceSub, Int.reduceMul, Int.reduceNeg, Int.reduceToNat, Int.reduceNatCast, reduceCtorEq, eq_self, ordI, h, h2]
set_option maxRecDepth 10000 in
theorem order05_does (less more : Bool) (H : AHeap) : Does Try.prog 61 [bA less, bA more] H (.ok (iA (ordI less more))) H := by
  unfold ordI
  refine Does.of_awp (hint := (fun _ => false)) Try.func61 (by kernel_rfl) rfl [4] (by kernel_rfl) (by decide) (by simp [Try.ntmps61]) ?_
  rw [Try.ntmps61]
  cases less with
  | true =>
    simp (implicitDefEqProofs := false) only [↓reduceIte, go_sem, oread, owrite, Nat.reduceAdd, Nat.reduceSub, Nat.reduceMul, Nat.reduceLT, Nat.reduceLeDiff, Nat.reduceEqDiff, Nat.reduceBEq, Int.reduceLE, Int.reduceLT, Int.reduceEq, Int.reduceNe, Int.reduceAdd, Int.reduceSub, Int.reduceMul, Int.reduceNeg, Int.reduceToNat, Int.reduceNatCast, reduceCtorEq, eq_self]
    refine AEnd.ret0 ?_
    simp (implicitDefEqProofs := false) only [↓reduceIte, go_sem, oread, owrite, Nat.reduceAdd, Nat.reduceSub, Nat.reduceMul, Nat.reduceLT, Nat.reduceLeDiff, Nat.reduceEqDiff, Nat.reduceBEq, Int.reduceLE, Int.reduceLT, Int.reduceEq, Int.reduceNe, Int.reduceAdd, Int.reduceSub, Int.reduceMul, Int.reduceNeg, Int.reduceToNat, Int.reduceNatCast, reduceCtorEq, eq_self]
  | false =>
    cases more with
    | true =>
      simp (implicitDefEqProofs := false) only [↓reduceIte, go_sem, oread, owrite, Nat.reduceAdd, Nat.reduceSub, Nat.reduceMul, Nat.reduceLT, Nat.reduceLeDiff, Nat.reduceEqDiff, Nat.reduceBEq, Int.reduceLE, Int.reduceLT, Int.reduceEq, Int.reduceNe, Int.reduceAdd, Int.reduceSub, Int.reduceMul, Int.reduceNeg, Int.reduceToNat, Int.reduceNatCast, reduceCtorEq, eq_self]
      refine AEnd.ret0 ?_
      simp (implicitDefEqProofs := false) only [↓reduceIte, go_sem, oread, owrite, Nat.reduceAdd, Nat.reduceSub, Nat.reduceMul, Nat.reduceLT, Nat.reduceLeDiff, Nat.reduceEqDiff, Nat.reduceBEq, Int.reduceLE, Int.reduceLT, Int.reduceEq, Int.reduceNe, Int.reduceAdd, Int.reduceSub, Int.reduceMul, Int.reduceNeg, Int.reduceToNat, Int.reduceNatCast, reduceCtorEq, eq_self, Bool.false_eq_true]
    | false =>
      simp (implicitDefEqProofs := false) only [↓reduceIte, go_sem, oread, owrite, Nat.reduceAdd, Nat.reduceSub, Nat.reduceMul, Nat.reduceLT, Nat.reduceLeDiff, Nat.reduceEqDiff, Nat.reduceBEq, Int.reduceLE, Int.reduceLT, Int.reduceEq, Int.reduceNe, Int.reduceAdd, Int.reduceSub, Int.reduceMul, Int.reduceNeg, Int.reduceToNat, Int.reduceNatCast, reduceCtorEq, eq_self]
      refine AEnd.ret0 ?_
      simp (implicitDefEqProofs := false) only [↓reduceIte, go_sem, oread, owrite, Nat.reduceAdd, Nat.reduceSub, Nat.reduceMul, Nat.reduceLT, Nat.reduceLeDiff, Nat.reduceEqDiff, Nat.reduceBEq, Int.reduceLE, Int.reduceLT, Int.reduceEq, Int.reduceNe, Int.reduceAdd, Int.reduceSub, Int.reduceMul, Int.reduceNeg, Int.reduceToNat, Int.reduceNatCast, reduceCtorEq, eq_self, Bool.false_eq_true]
/-! ### Texts -/
def cmpL (a b : List UInt8) : Int := ordI (Op.bytesLess a b) (!(Op.bytesLess a b || a == b))
theorem cmpL_cons (x y : UInt8) (a b : List UInt8) : cmpL (x :: a) (y :: b) = if x.toNat < y.toNat then -1 else if y.toNat < x.toNat then 1 else cmpL a b := by
  unfold cmpL
  by_cases h : x < y
  · have h' : x.toNat < y.toNat := h
    simp [Op.bytesLess, h, h', ordI]
  · have h' : ¬ x.toNat < y.toNat := h
    by_cases h2 : y.toNat < x.toNat
    · have hne : (x == y) = false := by
        rw [beq_eq_false_iff_ne]; intro e; subst e; omega
      have hne' : ¬ x = y := by simpa using hne
      simp [Op.bytesLess, h, h', h2, ordI, hne']
    · have e : x = y := UInt8.toNat_inj.1 (by omega)
      subst e
      simp [Op.bytesLess, ordI]
theorem cmpL_nil_left (b : List UInt8) : cmpL [] b = ordI (decide (0 < b.length)) false := by
  cases b <;> simp [cmpL, Op.bytesLess, ordI]
theorem cmpL_nil_right (a : List UInt8) : cmpL a [] = ordI false (decide (0 < a.length)) := by
  cases a <;> simp [cmpL, Op.bytesLess, ordI]
theorem size_toList (a : ByteArray) : a.toList.length = a.size := by rw [ByteArray.toList_eq]; simp
theorem get_toList (a : ByteArray) (k : Nat) : a[k]? = a.toList[k]? := by
  rw [ByteArray.toList_eq]
  by_cases h : k < a.size
  · simp [h]
    rfl
  · simp [h]
theorem cmpL_drop (a b : List UInt8) : ∀ (k : Nat), k ≤ a.length → k ≤ b.length → (∀ i, i < k → a[i]? = b[i]?) → cmpL a b = cmpL (a.drop k) (b.drop k) := by
  intro k
  induction k with
  | zero => intros; rfl
  | succ k ih =>
    intro h1 h2 h
    rw [ih (by omega) (by omega) fun i hi => h i (by omega)]
    have e := h k (by omega)
    rw [List.getElem?_eq_getElem (by omega), List.getElem?_eq_getElem (by omega)] at e
    rw [List.drop_eq_getElem_cons (show k < a.length by omega), List.drop_eq_getElem_cons (show k < b.length by omega), cmpL_cons]
    have e : a[k] = b[k] := by simpa using e
    rw [e]
    simp
set_option maxRecDepth 10000 in
set_option maxHeartbeats 1000000 in
theorem texts05_does (a b : ByteArray) (ha : a.size ≤ 9223372036854775807) (H : AHeap) : Does Try.prog 63 [sA a, sA b] H (.ok (iA (cmpS a b))) H := by
  have hcmp : cmpS a b = cmpL a.toList b.toList := rfl
  have g1 : ∀ k, a[k]? = a.toList[k]? := get_toList a
  have g2 : ∀ k, b[k]? = b.toList[k]? := get_toList b
  have s1 := size_toList a
  have s2 := size_toList b
  have c1 : ∀ (x y : UInt8), (((x.toNat : Nat) : Int) < ((y.toNat : Nat) : Int)) = (x.toNat < y.toNat) := fun x y => by simp
  rw [hcmp]
  refine Does.of_awp (hint := (fun _ => false)) Try.func63 (by kernel_rfl) rfl [4] (by kernel_rfl) (by decide) (by simp [Try.ntmps63]) ?_
  rw [Try.ntmps63]
  simp (implicitDefEqProofs := false) only [↓reduceIte, go_sem, oread, owrite, Nat.reduceAdd, Nat.reduceSub, Nat.reduceMul, Nat.reduceLT, Nat.reduceLeDiff, Nat.reduceEqDiff, Nat.reduceBEq, Int.reduceLE, Int.reduceLT, Int.reduceEq, Int.reduceNe, Int.reduceAdd, Int.reduceSub, Int.reduceMul, Int.reduceNeg, Int.reduceToNat, Int.reduceNatCast, reduceCtorEq, eq_self]
  refine awp_for3 (fun k s H' => H' = H ∧ (∀ i, i < k → a.toList[i]? = b.toList[i]?) ∧ s 0 = sA a ∧ s 1 = sA b ∧ s 5 = iA k) (min a.size b.size) (by omega) (Weak.refl _ _) ?_ ?_ ?_
  · refine ⟨rfl, fun i hi => by omega, ?_⟩
    simp (implicitDefEqProofs := false) only [↓reduceIte, go_sem, oread, owrite, Nat.reduceAdd, Nat.reduceSub, Nat.reduceMul, Nat.reduceLT, Nat.reduceLeDiff, Nat.reduceEqDiff, Nat.reduceBEq, Int.reduceLE, Int.reduceLT, Int.reduceEq, Int.reduceNe, Int.reduceAdd, Int.reduceSub, Int.reduceMul, Int.reduceNeg, Int.reduceToNat, Int.reduceNatCast, reduceCtorEq, eq_self]
  · rintro k s H' hk hw ⟨rfl, hp, h0, h1, h5⟩
    have k1 : k < a.size := by omega
    have k2 : k < b.size := by omega
    have e1 : (k < a.size) = True := eq_true (by omega)
    have e2 : (k < b.size) = True := eq_true (by omega)
    simp (implicitDefEqProofs := false) only [↓reduceIte, go_sem, oread, owrite, Nat.reduceAdd, Nat.reduceSub, Nat.reduceMul, Nat.reduceLT, Nat.reduceLeDiff, Nat.reduceEqDiff, Nat.reduceBEq, Int.reduceLE, Int.reduceLT, Int.reduceEq, Int.reduceNe, Int.reduceAdd, Int.reduceSub, Int.reduceMul, Int.reduceNeg, Int.reduceToNat, Int.reduceNatCast, reduceCtorEq, eq_self, h0, h1, h5, e1, e2]
    have x1 : a[k]? = some a.toList[k] := by rw [g1]; exact List.getElem?_eq_getElem (by omega)
    have x2 : b[k]? = some b.toList[k] := by rw [g2]; exact List.getElem?_eq_getElem (by omega)
    have hd := cmpL_drop a.toList b.toList k (by omega) (by omega) hp
    rw [List.drop_eq_getElem_cons (show k < a.toList.length by omega), List.drop_eq_getElem_cons (show k < b.toList.length by omega), cmpL_cons] at hd
    have hp' : a.toList[k] = b.toList[k] → ∀ i, i < k + 1 → a.toList[i]? = b.toList[i]? := fun e i hi => by
      rcases Nat.lt_or_ge i k with h | h
      · exact hp i h
      · obtain rfl : i = k := by omega
        rw [List.getElem?_eq_getElem (by omega), List.getElem?_eq_getElem (by omega), e]
    generalize a.toList[k] = x at x1 hd hp'
    generalize b.toList[k] = y at x2 hd hp'
    refine awp_draw K.mixed (by kernel_rfl) ?_
    simp (implicitDefEqProofs := false) only [↓reduceIte, go_sem, oread, owrite, Nat.reduceAdd, Nat.reduceSub, Nat.reduceMul, Nat.reduceLT, Nat.reduceLeDiff, Nat.reduceEqDiff, Nat.reduceBEq, Int.reduceLE, Int.reduceLT, Int.reduceEq, Int.reduceNe, Int.reduceAdd, Int.reduceSub, Int.reduceMul, Int.reduceNeg, Int.reduceToNat, Int.reduceNatCast, reduceCtorEq, eq_self, h0, h1, h5, x1, x2, c1]
    by_cases hxy : x.toNat < y.toNat
    · refine awp_T (by simp (implicitDefEqProofs := false) only [↓reduceIte, go_sem, oread, owrite, Nat.reduceAdd, Nat.reduceSub, Nat.reduceMul, Nat.reduceLT, Nat.reduceLeDiff, Nat.reduceEqDiff, Nat.reduceBEq, Int.reduceLE, Int.reduceLT, Int.reduceEq, Int.reduceNe, Int.reduceAdd, Int.reduceSub, Int.reduceMul, Int.reduceNeg, Int.reduceToNat, Int.reduceNatCast, reduceCtorEq, eq_self, hxy]) ?_
      simp (implicitDefEqProofs := false) only [↓reduceIte, go_sem, oread, owrite, Nat.reduceAdd, Nat.reduceSub, Nat.reduceMul, Nat.reduceLT, Nat.reduceLeDiff, Nat.reduceEqDiff, Nat.reduceBEq, Int.reduceLE, Int.reduceLT, Int.reduceEq, Int.reduceNe, Int.reduceAdd, Int.reduceSub, Int.reduceMul, Int.reduceNeg, Int.reduceToNat, Int.reduceNatCast, reduceCtorEq, eq_self]
      refine AEnd.ret0 ?_
      rw [hd, if_pos hxy]
      simp (implicitDefEqProofs := false) only [↓reduceIte, go_sem, oread, owrite, Nat.reduceAdd, Nat.reduceSub, Nat.reduceMul, Nat.reduceLT, Nat.reduceLeDiff, Nat.reduceEqDiff, Nat.reduceBEq, Int.reduceLE, Int.reduceLT, Int.reduceEq, Int.reduceNe, Int.reduceAdd, Int.reduceSub, Int.reduceMul, Int.reduceNeg, Int.reduceToNat, Int.reduceNatCast, reduceCtorEq, eq_self]
    · refine awp_F (by simp (implicitDefEqProofs := false) only [↓reduceIte, go_sem, oread, owrite, Nat.reduceAdd, Nat.reduceSub, Nat.reduceMul, Nat.reduceLT, Nat.reduceLeDiff, Nat.reduceEqDiff, Nat.reduceBEq, Int.reduceLE, Int.reduceLT, Int.reduceEq, Int.reduceNe, Int.reduceAdd, Int.reduceSub, Int.reduceMul, Int.reduceNeg, Int.reduceToNat, Int.reduceNatCast, reduceCtorEq, eq_self, hxy]) ?_
      simp (implicitDefEqProofs := false) only [↓reduceIte, go_sem, oread, owrite, Nat.reduceAdd, Nat.reduceSub, Nat.reduceMul, Nat.reduceLT, Nat.reduceLeDiff, Nat.reduceEqDiff, Nat.reduceBEq, Int.reduceLE, Int.reduceLT, Int.reduceEq, Int.reduceNe, Int.reduceAdd, Int.reduceSub, Int.reduceMul, Int.reduceNeg, Int.reduceToNat, Int.reduceNatCast, reduceCtorEq, eq_self]
      refine awp_draw K.mixed (by kernel_rfl) ?_
      simp (implicitDefEqProofs := false) only [↓reduceIte, go_sem, oread, owrite, Nat.reduceAdd, Nat.reduceSub, Nat.reduceMul, Nat.reduceLT, Nat.reduceLeDiff, Nat.reduceEqDiff, Nat.reduceBEq, Int.reduceLE, Int.reduceLT, Int.reduceEq, Int.reduceNe, Int.reduceAdd, Int.reduceSub, Int.reduceMul, Int.reduceNeg, Int.reduceToNat, Int.reduceNatCast, reduceCtorEq, eq_self, h0, h1, h5, x1, x2, c1]
      by_cases hyx : y.toNat < x.toNat
      · refine awp_T (by simp (implicitDefEqProofs := false) only [↓reduceIte, go_sem, oread, owrite, Nat.reduceAdd, Nat.reduceSub, Nat.reduceMul, Nat.reduceLT, Nat.reduceLeDiff, Nat.reduceEqDiff, Nat.reduceBEq, Int.reduceLE, Int.reduceLT, Int.reduceEq, Int.reduceNe, Int.reduceAdd, Int.reduceSub, Int.reduceMul, Int.reduceNeg, Int.reduceToNat, Int.reduceNatCast, reduceCtorEq, eq_self, hyx]) ?_
        simp (implicitDefEqProofs := false) only [↓reduceIte, go_sem, oread, owrite, Nat.reduceAdd, Nat.reduceSub, Nat.reduceMul, Nat.reduceLT, Nat.reduceLeDiff, Nat.reduceEqDiff, Nat.reduceBEq, Int.reduceLE, Int.reduceLT, Int.reduceEq, Int.reduceNe, Int.reduceAdd, Int.reduceSub, Int.reduceMul, Int.reduceNeg, Int.reduceToNat, Int.reduceNatCast, reduceCtorEq, eq_self]
        refine AEnd.ret0 ?_
        rw [hd, if_neg hxy, if_pos hyx]
        simp (implicitDefEqProofs := false) only [↓reduceIte, go_sem, oread, owrite, Nat.reduceAdd, Nat.reduceSub, Nat.reduceMul, Nat.reduceLT, Nat.reduceLeDiff, Nat.reduceEqDiff, Nat.reduceBEq, Int.reduceLE, Int.reduceLT, Int.reduceEq, Int.reduceNe, Int.reduceAdd, Int.reduceSub, Int.reduceMul, Int.reduceNeg, Int.reduceToNat, Int.reduceNatCast, reduceCtorEq, eq_self]
      · refine awp_F (by simp (implicitDefEqProofs := false) only [↓reduceIte, go_sem, oread, owrite, Nat.reduceAdd, Nat.reduceSub, Nat.reduceMul, Nat.reduceLT, Nat.reduceLeDiff, Nat.reduceEqDiff, Nat.reduceBEq, Int.reduceLE, Int.reduceLT, Int.reduceEq, Int.reduceNe, Int.reduceAdd, Int.reduceSub, Int.reduceMul, Int.reduceNeg, Int.reduceToNat, Int.reduceNatCast, reduceCtorEq, eq_self, hyx]) ?_
        simp (implicitDefEqProofs := false) only [↓reduceIte, go_sem, oread, owrite, Nat.reduceAdd, Nat.reduceSub, Nat.reduceMul, Nat.reduceLT, Nat.reduceLeDiff, Nat.reduceEqDiff, Nat.reduceBEq, Int.reduceLE, Int.reduceLT, Int.reduceEq, Int.reduceNe, Int.reduceAdd, Int.reduceSub, Int.reduceMul, Int.reduceNeg, Int.reduceToNat, Int.reduceNatCast, reduceCtorEq, eq_self, h5]
        have e : x = y := UInt8.toNat_inj.1 (by omega)
        refine Rnd.same ⟨rfl, hp' e, ?_⟩
        simp (implicitDefEqProofs := false) only [↓reduceIte, go_sem, oread, owrite, Nat.reduceAdd, Nat.reduceSub, Nat.reduceMul, Nat.reduceLT, Nat.reduceLeDiff, Nat.reduceEqDiff, Nat.reduceBEq, Int.reduceLE, Int.reduceLT, Int.reduceEq, Int.reduceNe, Int.reduceAdd, Int.reduceSub, Int.reduceMul, Int.reduceNeg, Int.reduceToNat, Int.reduceNatCast, reduceCtorEq, eq_self, h0, h1, hw]
  · rintro s H' ⟨rfl, hp, h0, h1, h5⟩
    have hd := cmpL_drop a.toList b.toList (min a.size b.size) (by omega) (by omega) hp
    rcases Nat.lt_or_ge a.size b.size with hlt | hge
    · have e0 : min a.size b.size = a.size := by omega
      rw [e0] at h5 hd
      have e1 : (a.size < a.size) = False := eq_false (by omega)
      have e2 : (a.size < b.size) = True := eq_true (by omega)
      have e3 : (b.size < a.size) = False := eq_false (by omega)
      simp (implicitDefEqProofs := false) only [↓reduceIte, go_sem, oread, owrite, Nat.reduceAdd, Nat.reduceSub, Nat.reduceMul, Nat.reduceLT, Nat.reduceLeDiff, Nat.reduceEqDiff, Nat.reduceBEq, Int.reduceLE, Int.reduceLT, Int.reduceEq, Int.reduceNe, Int.reduceAdd, Int.reduceSub, Int.reduceMul, Int.reduceNeg, Int.reduceToNat, Int.reduceNatCast, reduceCtorEq, eq_self, h0, h1, h5, e1]
      refine KCall.ok (order05_does _ _ _) ?_
      simp (implicitDefEqProofs := false) only [↓reduceIte, go_sem, oread, owrite, Nat.reduceAdd, Nat.reduceSub, Nat.reduceMul, Nat.reduceLT, Nat.reduceLeDiff, Nat.reduceEqDiff, Nat.reduceBEq, Int.reduceLE, Int.reduceLT, Int.reduceEq, Int.reduceNe, Int.reduceAdd, Int.reduceSub, Int.reduceMul, Int.reduceNeg, Int.reduceToNat, Int.reduceNatCast, reduceCtorEq, eq_self]
      refine AEnd.ret0 ?_
      rw [hd, List.drop_of_length_le (Nat.le_of_eq s1), cmpL_nil_left, List.length_drop]
      simp (implicitDefEqProofs := false) only [↓reduceIte, go_sem, oread, owrite, Nat.reduceAdd, Nat.reduceSub, Nat.reduceMul, Nat.reduceLT, Nat.reduceLeDiff, Nat.reduceEqDiff, Nat.reduceBEq, Int.reduceLE, Int.reduceLT, Int.reduceEq, Int.reduceNe, Int.reduceAdd, Int.reduceSub, Int.reduceMul, Int.reduceNeg, Int.reduceToNat, Int.reduceNatCast, reduceCtorEq, eq_self, e2, e3, show (0 < b.toList.length - a.size) = True from eq_true (by omega)]
    · have e0 : min a.size b.size = b.size := by omega
      rw [e0] at h5 hd
      have e1 : (b.size < b.size) = False := eq_false (by omega)
      have e2 : (a.size < b.size) = False := eq_false (by omega)
      by_cases hlt : b.size < a.size
      · have e3 : (b.size < a.size) = True := eq_true (by omega)
        simp (implicitDefEqProofs := false) only [↓reduceIte, go_sem, oread, owrite, Nat.reduceAdd, Nat.reduceSub, Nat.reduceMul, Nat.reduceLT, Nat.reduceLeDiff, Nat.reduceEqDiff, Nat.reduceBEq, Int.reduceLE, Int.reduceLT, Int.reduceEq, Int.reduceNe, Int.reduceAdd, Int.reduceSub, Int.reduceMul, Int.reduceNeg, Int.reduceToNat, Int.reduceNatCast, reduceCtorEq, eq_self, h0, h1, h5, e1, e3]
        refine KCall.ok (order05_does _ _ _) ?_
        simp (implicitDefEqProofs := false) only [↓reduceIte, go_sem, oread, owrite, Nat.reduceAdd, Nat.reduceSub, Nat.reduceMul, Nat.reduceLT, Nat.reduceLeDiff, Nat.reduceEqDiff, Nat.reduceBEq, Int.reduceLE, Int.reduceLT, Int.reduceEq, Int.reduceNe, Int.reduceAdd, Int.reduceSub, Int.reduceMul, Int.reduceNeg, Int.reduceToNat, Int.reduceNatCast, reduceCtorEq, eq_self]
        refine AEnd.ret0 ?_
        rw [hd, List.drop_of_length_le (Nat.le_of_eq s2), cmpL_nil_right, List.length_drop]
        simp (implicitDefEqProofs := false) only [↓reduceIte, go_sem, oread, owrite, Nat.reduceAdd, Nat.reduceSub, Nat.reduceMul, Nat.reduceLT, Nat.reduceLeDiff, Nat.reduceEqDiff, Nat.reduceBEq, Int.reduceLE, Int.reduceLT, Int.reduceEq, Int.reduceNe, Int.reduceAdd, Int.reduceSub, Int.reduceMul, Int.reduceNeg, Int.reduceToNat, Int.reduceNatCast, reduceCtorEq, eq_self, e2, e3, show (0 < a.toList.length - b.size) = True from eq_true (by omega)]
      · have e3 : (b.size < a.size) = False := eq_false (by omega)
        simp (implicitDefEqProofs := false) only [↓reduceIte, go_sem, oread, owrite, Nat.reduceAdd, Nat.reduceSub, Nat.reduceMul, Nat.reduceLT, Nat.reduceLeDiff, Nat.reduceEqDiff, Nat.reduceBEq, Int.reduceLE, Int.reduceLT, Int.reduceEq, Int.reduceNe, Int.reduceAdd, Int.reduceSub, Int.reduceMul, Int.reduceNeg, Int.reduceToNat, Int.reduceNatCast, reduceCtorEq, eq_self, h0, h1, h5, e1, e3]
        refine KCall.ok (order05_does _ _ _) ?_
        simp (implicitDefEqProofs := false) only [↓reduceIte, go_sem, oread, owrite, Nat.reduceAdd, Nat.reduceSub, Nat.reduceMul, Nat.reduceLT, Nat.reduceLeDiff, Nat.reduceEqDiff, Nat.reduceBEq, Int.reduceLE, Int.reduceLT, Int.reduceEq, Int.reduceNe, Int.reduceAdd, Int.reduceSub, Int.reduceMul, Int.reduceNeg, Int.reduceToNat, Int.reduceNatCast, reduceCtorEq, eq_self]
        refine AEnd.ret0 ?_
        rw [hd, List.drop_of_length_le (Nat.le_of_eq s2), cmpL_nil_right, List.length_drop]
        simp (implicitDefEqProofs := false) only [↓reduceIte, go_sem, oread, owrite, Nat.reduceAdd, Nat.reduceSub, Nat.reduceMul, Nat.reduceLT, Nat.reduceLeDiff, Nat.reduceEqDiff, Nat.reduceBEq, Int.reduceLE, Int.reduceLT, Int.reduceEq, Int.reduceNe, Int.reduceAdd, Int.reduceSub, Int.reduceMul, Int.reduceNeg, Int.reduceToNat, Int.reduceNatCast, reduceCtorEq, eq_self, e2, e3, show (0 < a.toList.length - b.size) = False from eq_false (by omega)]
set_option maxRecDepth 10000 in
set_option maxHeartbeats 1000000 in
theorem vcmp05_does (a b : Val) (ha : a.s.size ≤ 9223372036854775807) (H : AHeap) : Does Try.prog 37 [a.av, b.av] H (.ok (iA (cmpV a b))) H := by
  unfold cmpV
  refine Does.of_awp (hint := (fun _ => false)) Try.func37 (by kernel_rfl) rfl [4] (by kernel_rfl) (by decide) (by simp [Try.ntmps37]) ?_
  rw [Try.ntmps37]
  simp (implicitDefEqProofs := false) only [↓reduceIte, go_sem, oread, owrite, Nat.reduceAdd, Nat.reduceSub, Nat.reduceMul, Nat.reduceLT, Nat.reduceLeDiff, Nat.reduceEqDiff, Nat.reduceBEq, Int.reduceLE, Int.reduceLT, Int.reduceEq, Int.reduceNe, Int.reduceAdd, Int.reduceSub, Int.reduceMul, Int.reduceNeg, Int.reduceToNat, Int.reduceNatCast, reduceCtorEq, eq_self]
  by_cases h : a.kind = b.kind
  · refine awp_F (by simp (implicitDefEqProofs := false) only [↓reduceIte, go_sem, oread, owrite, Nat.reduceAdd, Nat.reduceSub, Nat.reduceMul, Nat.reduceLT, Nat.reduceLeDiff, Nat.reduceEqDiff, Nat.reduceBEq, Int.reduceLE, Int.reduceLT, Int.reduceEq, Int.reduceNe, Int.reduceAdd, Int.reduceSub, Int.reduceMul, Int.reduceNeg, Int.reduceToNat, Int.reduceNatCast, reduceCtorEq, eq_self, h]) ?_
    simp (implicitDefEqProofs := false) only [↓reduceIte, go_sem, oread, owrite, Nat.reduceAdd, Nat.reduceSub, Nat.reduceMul, Nat.reduceLT, Nat.reduceLeDiff, Nat.reduceEqDiff, Nat.reduceBEq, Int.reduceLE, Int.reduceLT, Int.reduceEq, Int.reduceNe, Int.reduceAdd, Int.reduceSub, Int.reduceMul, Int.reduceNeg, Int.reduceToNat, Int.reduceNatCast, reduceCtorEq, eq_self]
    by_cases h1 : a.kind = 1
    · refine awp_T (by simp (implicitDefEqProofs := false) only [↓reduceIte, go_sem, oread, owrite, Nat.reduceAdd, Nat.reduceSub, Nat.reduceMul, Nat.reduceLT, Nat.reduceLeDiff, Nat.reduceEqDiff, Nat.reduceBEq, Int.reduceLE, Int.reduceLT, Int.reduceEq, Int.reduceNe, Int.reduceAdd, Int.reduceSub, Int.reduceMul, Int.reduceNeg, Int.reduceToNat, Int.reduceNatCast, reduceCtorEq, eq_self, h1]) ?_
      simp (implicitDefEqProofs := false) only [↓reduceIte, go_sem, oread, owrite, Nat.reduceAdd, Nat.reduceSub, Nat.reduceMul, Nat.reduceLT, Nat.reduceLeDiff, Nat.reduceEqDiff, Nat.reduceBEq, Int.reduceLE, Int.reduceLT, Int.reduceEq, Int.reduceNe, Int.reduceAdd, Int.reduceSub, Int.reduceMul, Int.reduceNeg, Int.reduceToNat, Int.reduceNatCast, reduceCtorEq, eq_self]
      refine KCall.ok (order05_does _ _ _) ?_
      simp (implicitDefEqProofs := false) only [↓reduceIte, go_sem, oread, owrite, Nat.reduceAdd, Nat.reduceSub, Nat.reduceMul, Nat.reduceLT, Nat.reduceLeDiff, Nat.reduceEqDiff, Nat.reduceBEq, Int.reduceLE, Int.reduceLT, Int.reduceEq, Int.reduceNe, Int.reduceAdd, Int.reduceSub, Int.reduceMul, Int.reduceNeg, Int.reduceToNat, Int.reduceNatCast, reduceCtorEq, eq_self]
      refine AEnd.ret ?_
      simp (implicitDefEqProofs := false) only [↓reduceIte, go_sem, oread, owrite, Nat.reduceAdd, Nat.reduceSub, Nat.reduceMul, Nat.reduceLT, Nat.reduceLeDiff, Nat.reduceEqDiff, Nat.reduceBEq, Int.reduceLE, Int.reduceLT, Int.reduceEq, Int.reduceNe, Int.reduceAdd, Int.reduceSub, Int.reduceMul, Int.reduceNeg, Int.reduceToNat, Int.reduceNatCast, reduceCtorEq, eq_self, h1, ← h, cmpI]
    · refine awp_F (by simp (implicitDefEqProofs := false) only [↓reduceIte, go_sem, oread, owrite, Nat.reduceAdd, Nat.reduceSub, Nat.reduceMul, Nat.reduceLT, Nat.reduceLeDiff, Nat.reduceEqDiff, Nat.reduceBEq, Int.reduceLE, Int.reduceLT, Int.reduceEq, Int.reduceNe, Int.reduceAdd, Int.reduceSub, Int.reduceMul, Int.reduceNeg, Int.reduceToNat, Int.reduceNatCast, reduceCtorEq, eq_self, h1]) ?_
      simp (implicitDefEqProofs := false) only [↓reduceIte, go_sem, oread, owrite, Nat.reduceAdd, Nat.reduceSub, Nat.reduceMul, Nat.reduceLT, Nat.reduceLeDiff, Nat.reduceEqDiff, Nat.reduceBEq, Int.reduceLE, Int.reduceLT, Int.reduceEq, Int.reduceNe, Int.reduceAdd, Int.reduceSub, Int.reduceMul, Int.reduceNeg, Int.reduceToNat, Int.reduceNatCast, reduceCtorEq, eq_self]
      by_cases h2 : a.kind = 2
      · refine awp_T (by simp (implicitDefEqProofs := false) only [↓reduceIte, go_sem, oread, owrite, Nat.reduceAdd, Nat.reduceSub, Nat.reduceMul, Nat.reduceLT, Nat.reduceLeDiff, Nat.reduceEqDiff, Nat.reduceBEq, Int.reduceLE, Int.reduceLT, Int.reduceEq, Int.reduceNe, Int.reduceAdd, Int.reduceSub, Int.reduceMul, Int.reduceNeg, Int.reduceToNat, Int.reduceNatCast, reduceCtorEq, eq_self, h2]) ?_
        simp (implicitDefEqProofs := false) only [↓reduceIte, go_sem, oread, owrite, Nat.reduceAdd, Nat.reduceSub, Nat.reduceMul, Nat.reduceLT, Nat.reduceLeDiff, Nat.reduceEqDiff, Nat.reduceBEq, Int.reduceLE, Int.reduceLT, Int.reduceEq, Int.reduceNe, Int.reduceAdd, Int.reduceSub, Int.reduceMul, Int.reduceNeg, Int.reduceToNat, Int.reduceNatCast, reduceCtorEq, eq_self, wrap_toU]
        refine KCall.ok (fcmp04_does _ _ (toU_lt _) (toU_lt _) _) ?_
        simp (implicitDefEqProofs := false) only [↓reduceIte, go_sem, oread, owrite, Nat.reduceAdd, Nat.reduceSub, Nat.reduceMul, Nat.reduceLT, Nat.reduceLeDiff, Nat.reduceEqDiff, Nat.reduceBEq, Int.reduceLE, Int.reduceLT, Int.reduceEq, Int.reduceNe, Int.reduceAdd, Int.reduceSub, Int.reduceMul, Int.reduceNeg, Int.reduceToNat, Int.reduceNatCast, reduceCtorEq, eq_self]
        refine AEnd.ret ?_
        simp (implicitDefEqProofs := false) only [↓reduceIte, go_sem, oread, owrite, Nat.reduceAdd, Nat.reduceSub, Nat.reduceMul, Nat.reduceLT, Nat.reduceLeDiff, Nat.reduceEqDiff, Nat.reduceBEq, Int.reduceLE, Int.reduceLT, Int.reduceEq, Int.reduceNe, Int.reduceAdd, Int.reduceSub, Int.reduceMul, Int.reduceNeg, Int.reduceToNat, Int.reduceNatCast, reduceCtorEq, eq_self, h2, ← h]
      · refine awp_F (by simp (implicitDefEqProofs := false) only [↓reduceIte, go_sem, oread, owrite, Nat.reduceAdd, Nat.reduceSub, Nat.reduceMul, Nat.reduceLT, Nat.reduceLeDiff, Nat.reduceEqDiff, Nat.reduceBEq, Int.reduceLE, Int.reduceLT, Int.reduceEq, Int.reduceNe, Int.reduceAdd, Int.reduceSub, Int.reduceMul, Int.reduceNeg, Int.reduceToNat, Int.reduceNatCast, reduceCtorEq, eq_self, h2]) ?_
        simp (implicitDefEqProofs := false) only [↓reduceIte, go_sem, oread, owrite, Nat.reduceAdd, Nat.reduceSub, Nat.reduceMul, Nat.reduceLT, Nat.reduceLeDiff, Nat.reduceEqDiff, Nat.reduceBEq, Int.reduceLE, Int.reduceLT, Int.reduceEq, Int.reduceNe, Int.reduceAdd, Int.reduceSub, Int.reduceMul, Int.reduceNeg, Int.reduceToNat, Int.reduceNatCast, reduceCtorEq, eq_self]
        by_cases h3 : a.kind = 3
        · refine awp_T (by simp (implicitDefEqProofs := false) only [↓reduceIte, go_sem, oread, owrite, Nat.reduceAdd, Nat.reduceSub, Nat.reduceMul, Nat.reduceLT, Nat.reduceLeDiff, Nat.reduceEqDiff, Nat.reduceBEq, Int.reduceLE, Int.reduceLT, Int.reduceEq, Int.reduceNe, Int.reduceAdd, Int.reduceSub, Int.reduceMul, Int.reduceNeg, Int.reduceToNat, Int.reduceNatCast, reduceCtorEq, eq_self, h3]) ?_
          simp (implicitDefEqProofs := false) only [↓reduceIte, go_sem, oread, owrite, Nat.reduceAdd, Nat.reduceSub, Nat.reduceMul, Nat.reduceLT, Nat.reduceLeDiff, Nat.reduceEqDiff, Nat.reduceBEq, Int.reduceLE, Int.reduceLT, Int.reduceEq, Int.reduceNe, Int.reduceAdd, Int.reduceSub, Int.reduceMul, Int.reduceNeg, Int.reduceToNat, Int.reduceNatCast, reduceCtorEq, eq_self]
          refine KCall.ok (texts05_does _ _ ha _) ?_
          simp (implicitDefEqProofs := false) only [↓reduceIte, go_sem, oread, owrite, Nat.reduceAdd, Nat.reduceSub, Nat.reduceMul, Nat.reduceLT, Nat.reduceLeDiff, Nat.reduceEqDiff, Nat.reduceBEq, Int.reduceLE, Int.reduceLT, Int.reduceEq, Int.reduceNe, Int.reduceAdd, Int.reduceSub, Int.reduceMul, Int.reduceNeg, Int.reduceToNat, Int.reduceNatCast, reduceCtorEq, eq_self]
          refine AEnd.ret ?_
          simp (implicitDefEqProofs := false) only [↓reduceIte, go_sem, oread, owrite, Nat.reduceAdd, Nat.reduceSub, Nat.reduceMul, Nat.reduceLT, Nat.reduceLeDiff, Nat.reduceEqDiff, Nat.reduceBEq, Int.reduceLE, Int.reduceLT, Int.reduceEq, Int.reduceNe, Int.reduceAdd, Int.reduceSub, Int.reduceMul, Int.reduceNeg, Int.reduceToNat, Int.reduceNatCast, reduceCtorEq, eq_self, h3, ← h]
        · refine awp_F (by simp (implicitDefEqProofs := false) only [↓reduceIte, go_sem, oread, owrite, Nat.reduceAdd, Nat.reduceSub, Nat.reduceMul, Nat.reduceLT, Nat.reduceLeDiff, Nat.reduceEqDiff, Nat.reduceBEq, Int.reduceLE, Int.reduceLT, Int.reduceEq, Int.reduceNe, Int.reduceAdd, Int.reduceSub, Int.reduceMul, Int.reduceNeg, Int.reduceToNat, Int.reduceNatCast, reduceCtorEq, eq_self, h3]) ?_
          simp (implicitDefEqProofs := false) only [↓reduceIte, go_sem, oread, owrite, Nat.reduceAdd, Nat.reduceSub, Nat.reduceMul, Nat.reduceLT, Nat.reduceLeDiff, Nat.reduceEqDiff, Nat.reduceBEq, Int.reduceLE, Int.reduceLT, Int.reduceEq, Int.reduceNe, Int.reduceAdd, Int.reduceSub, Int.reduceMul, Int.reduceNeg, Int.reduceToNat, Int.reduceNatCast, reduceCtorEq, eq_self]
          refine AEnd.ret ?_
          simp (implicitDefEqProofs := false) only [↓reduceIte, go_sem, oread, owrite, Nat.reduceAdd, Nat.reduceSub, Nat.reduceMul, Nat.reduceLT, Nat.reduceLeDiff, Nat.reduceEqDiff, Nat.reduceBEq, Int.reduceLE, Int.reduceLT, Int.reduceEq, Int.reduceNe, Int.reduceAdd, Int.reduceSub, Int.reduceMul, Int.reduceNeg, Int.reduceToNat, Int.reduceNatCast, reduceCtorEq, eq_self, h1, h2, h3, ← h]
  · refine awp_T (by simp (implicitDefEqProofs := false) only [↓reduceIte, go_sem, oread, owrite, Nat.reduceAdd, Nat.reduceSub, Nat.reduceMul, Nat.reduceLT, Nat.reduceLeDiff, Nat.reduceEqDiff, Nat.reduceBEq, Int.reduceLE, Int.reduceLT, Int.reduceEq, Int.reduceNe, Int.reduceAdd, Int.reduceSub, Int.reduceMul, Int.reduceNeg, Int.reduceToNat, Int.reduceNatCast, reduceCtorEq, eq_self, h]) ?_
    simp (implicitDefEqProofs := false) only [↓reduceIte, go_sem, oread, owrite, Nat.reduceAdd, Nat.reduceSub, Nat.reduceMul, Nat.reduceLT, Nat.reduceLeDiff, Nat.reduceEqDiff, Nat.reduceBEq, Int.reduceLE, Int.reduceLT, Int.reduceEq, Int.reduceNe, Int.reduceAdd, Int.reduceSub, Int.reduceMul, Int.reduceNeg, Int.reduceToNat, Int.reduceNatCast, reduceCtorEq, eq_self]
    refine KCall.ok (order05_does _ _ _) ?_
    simp (implicitDefEqProofs := false) only [↓reduceIte, go_sem, oread, owrite, Nat.reduceAdd, Nat.reduceSub, Nat.reduceMul, Nat.reduceLT, Nat.reduceLeDiff, Nat.reduceEqDiff, Nat.reduceBEq, Int.reduceLE, Int.reduceLT, Int.reduceEq, Int.reduceNe, Int.reduceAdd, Int.reduceSub, Int.reduceMul, Int.reduceNeg, Int.reduceToNat, Int.reduceNatCast, reduceCtorEq, eq_self]
    refine AEnd.ret ?_
    simp (implicitDefEqProofs := false) only [↓reduceIte, go_sem, oread, owrite, Nat.reduceAdd, Nat.reduceSub, Nat.reduceMul, Nat.reduceLT, Nat.reduceLeDiff, Nat.reduceEqDiff, Nat.reduceBEq, Int.reduceLE, Int.reduceLT, Int.reduceEq, Int.reduceNe, Int.reduceAdd, Int.reduceSub, Int.reduceMul, Int.reduceNeg, Int.reduceToNat, Int.reduceNatCast, reduceCtorEq, eq_self, h, cmpI]
end Go.Proofs.Ytcdnbefcccdaeaa
namespace Go.Proofs.Ytcdnbefcccdaeaa
open Go.Proofs.YtcdnbefcccdaeaaAw Go.RowKit
set_option linter.unusedVariables false
set_option linter.unusedSimpArgs false
/-- What the first bytes come to, from byte i on. -/
def valFrom (b : List Nat) : Nat → Nat → Nat
  | _, 0 => 0
  | i, m + 1 => b.getD i 0 % 128 + 128 * valFrom b (i + 1) m
theorem valFrom_zero (b : List Nat) (i : Nat) : valFrom b i 0 = 0 := rfl
theorem valFrom_snoc (b : List Nat) : ∀ (m i : Nat), valFrom b i (m + 1) = valFrom b i m + b.getD (i + m) 0 % 128 * 128 ^ m
  | 0, i => by simp [valFrom]
  | m + 1, i => by
    rw [valFrom, valFrom_snoc b m (i + 1), valFrom, Nat.pow_succ, Nat.mul_add, show i + 1 + m = i + (m + 1) by omega]
    rw [show 128 * (b.getD (i + (m + 1)) 0 % 128 * 128 ^ m) = b.getD (i + (m + 1)) 0 % 128 * (128 ^ m * 128) by rw [Nat.mul_comm 128, Nat.mul_assoc]]
    omega
/-- While bytes go on. -/
theorem numP_go (b : List Nat) : ∀ k, k ≤ 9 → k ≤ b.length → (∀ i (h : i < b.length), i < k → 128 ≤ b[i]) → numP 10 0 b = numP (10 - k) (valFrom b 0 k) (b.drop k)
  | 0, _, _, _ => rfl
  | k + 1, hk, hl, h => by
    rw [numP_go b k (by omega) (by omega) fun i hi hik => h i hi (by omega)]
    have hb := h k (by omega) (by omega)
    rw [List.drop_eq_getElem_cons (show k < b.length by omega), show 10 - k = (9 - k) + 1 by omega, numP]
    rw [if_neg (by omega), if_neg (by omega), show 9 - (9 - k) = k by omega, show 10 - (k + 1) = 9 - k by omega, valFrom_snoc]
    congr 2
    simp [List.getD, show k < b.length by omega]
theorem getP_short (b : List Nat) (k : Nat) (hk : k ≤ 9) (hl : k = b.length) (h : ∀ i (h : i < b.length), i < k → 128 ≤ b[i]) : getP b = (0, 0, 3) := by
  unfold getP
  rw [numP_go b k hk (by omega) h, List.drop_of_length_le (by omega), show 10 - k = (9 - k) + 1 by omega]
  rfl
theorem getP_stop (b : List Nat) (k : Nat) (hk : k ≤ 9) (hl : k < b.length) (h : ∀ i (h : i < b.length), i < k → 128 ≤ b[i]) (hs : k = 9 ∨ b[k] < 128) :
    getP b = if (k = 9 ∧ 1 < b[k]) ∨ (0 < k ∧ b[k] = 0) then (0, 0, 4) else (valFrom b 0 (k + 1), k + 1, 0) := by
  unfold getP
  rw [numP_go b k hk (by omega) h, List.drop_eq_getElem_cons hl, show 10 - k = (9 - k) + 1 by omega, numP, show 9 - (9 - k) = k by omega]
  by_cases hc : (k = 9 ∧ 1 < b[k]) ∨ (0 < k ∧ b[k] = 0)
  · rw [if_pos (by omega), if_pos hc]
  · rw [if_neg (by omega), if_neg hc, if_pos (by omega)]
    simp only [valFrom_snoc, Nat.zero_add, List.length_drop]
    simp [List.getD, hl]
    omega
theorem valFrom_le (b : List Nat) : ∀ (m i : Nat), valFrom b i m < 128 ^ m
  | 0, i => by simp [valFrom]
  | m + 1, i => by
    have := valFrom_le b m (i + 1)
    rw [valFrom, Nat.pow_succ]
    have := Nat.mod_lt (b.getD i 0) (show 0 < 128 by decide)
    omega
theorem valFrom_part (b : List Nat) (t : Nat) : ∀ (j i : Nat), valFrom b (i + j) t ≤ valFrom b i (j + t)
  | 0, i => by simp
  | j + 1, i => by
    have := valFrom_part b t j (i + 1)
    rw [show j + 1 + t = (j + t) + 1 by omega, valFrom, show i + (j + 1) = i + 1 + j by omega]
    omega
theorem valFrom_step (b : List Nat) (k i : Nat) (hi : i ≤ k) : valFrom b i (k + 1 - i) = b.getD i 0 % 128 + 128 * valFrom b (i + 1) (k + 1 - (i + 1)) := by
  rw [show k + 1 - i = (k + 1 - (i + 1)) + 1 by omega, valFrom]
set_option maxRecDepth 10000 in
set_option maxHeartbeats 2000000 in
theorem rgetB_does (b : List Nat) (nn : Bool) (hl : b.length ≤ 140737488351232) (hb : ∀ c ∈ b, c < 256) (H : AHeap) :
    Does Try.prog 34 [.d (.list nn (bys b))] H (.ok (.tup [du (getP b).1, iA (getP b).2.1, iA (getP b).2.2])) H := by
  have hlt64 := getP_lt b
  refine Does.of_awp (hint := (fun _ => false)) Try.func34 (by kernel_rfl) rfl [2, 3, 4] (by kernel_rfl) (by decide) (by simp [Try.ntmps34]) ?_
  rw [Try.ntmps34]
  simp (implicitDefEqProofs := false) only [↓reduceIte, go_sem, oread, owrite, Nat.reduceAdd, Nat.reduceSub, Nat.reduceMul, Nat.reduceLT, Nat.reduceLeDiff, Nat.reduceEqDiff, Nat.reduceBEq, Int.reduceLE, Int.reduceLT, Int.reduceEq, Int.reduceNe, Int.reduceAdd, Int.reduceSub, Int.reduceMul, Int.reduceNeg, Int.reduceToNat, Int.reduceNatCast, reduceCtorEq, eq_self]
  refine awp_cutB (fun s H' => H' = H ∧ ∃ k : Nat, k ≤ 9 ∧ k ≤ b.length ∧ (∀ i (h : i < b.length), i < k → 128 ≤ b[i]) ∧ (∀ h : k < b.length, k = 9 ∨ b[k] < 128) ∧ s 0 = .d (.list nn (bys b)) ∧ s 5 = iA k) rfl ?_ ?_
  · refine awp_loop _ _ _ _ (fun (k : Nat) s H' => H' = H ∧ k ≤ 9 ∧ k ≤ b.length ∧ (∀ i (h : i < b.length), i < k → 128 ≤ b[i]) ∧ s 0 = .d (.list nn (bys b)) ∧ s 5 = iA k) (fun k => 9 - k) 0 (Weak.refl _ _) ?_ ?_
    · refine ⟨rfl, by omega, by omega, fun i h h2 => by omega, ?_⟩
      simp (implicitDefEqProofs := false) only [↓reduceIte, go_sem, oread, owrite, Nat.reduceAdd, Nat.reduceSub, Nat.reduceMul, Nat.reduceLT, Nat.reduceLeDiff, Nat.reduceEqDiff, Nat.reduceBEq, Int.reduceLE, Int.reduceLT, Int.reduceEq, Int.reduceNe, Int.reduceAdd, Int.reduceSub, Int.reduceMul, Int.reduceNeg, Int.reduceToNat, Int.reduceNatCast, reduceCtorEq, eq_self]
    · rintro k s H' ⟨rfl, hk9, hkl, hge, t0, t5⟩
      have hwk := wrapI (k + 1) (by omega)
      rw [show ((k + 1 : Nat) : Int) = (k : Int) + 1 by omega] at hwk
      by_cases h1 : k < b.length
      · have hx := bys_get b k h1
        have hstop : (k = 9 ∨ b[k] < 128) → ∀ h : k < b.length, k = 9 ∨ b[k] < 128 := fun h _ => h
        have hge2 : 128 ≤ b[k] → ∀ i (h : i < b.length), i < k + 1 → 128 ≤ b[i] := fun h i h2 h3 => by
          by_cases e : i = k
          · subst e; exact h
          · exact hge i h2 (by omega)
        generalize b[k] = c at hx hstop hge2
        by_cases h2 : k = 9
        · simp (implicitDefEqProofs := false) only [↓reduceIte, go_sem, oread, owrite, Nat.reduceAdd, Nat.reduceSub, Nat.reduceMul, Nat.reduceLT, Nat.reduceLeDiff, Nat.reduceEqDiff, Nat.reduceBEq, Int.reduceLE, Int.reduceLT, Int.reduceEq, Int.reduceNe, Int.reduceAdd, Int.reduceSub, Int.reduceMul, Int.reduceNeg, Int.reduceToNat, Int.reduceNatCast, reduceCtorEq, eq_self, t0, t5, bys_len, h1, show ((k : Int) < 9) = False from eq_false (by omega)]
          exact ⟨k, hk9, hkl, hge, hstop (.inl h2), rfl⟩
        by_cases h3 : c < 128
        · simp (implicitDefEqProofs := false) only [↓reduceIte, go_sem, oread, owrite, Nat.reduceAdd, Nat.reduceSub, Nat.reduceMul, Nat.reduceLT, Nat.reduceLeDiff, Nat.reduceEqDiff, Nat.reduceBEq, Int.reduceLE, Int.reduceLT, Int.reduceEq, Int.reduceNe, Int.reduceAdd, Int.reduceSub, Int.reduceMul, Int.reduceNeg, Int.reduceToNat, Int.reduceNatCast, reduceCtorEq, eq_self, t0, t5, bys_len, h1, show ((k : Int) < 9) = True from eq_true (by omega), hx, show (128 ≤ (c : Int)) = False from eq_false (by omega)]
          exact ⟨k, hk9, hkl, hge, hstop (.inr h3), rfl⟩
        by_cases h4 : k = 0
        · simp (implicitDefEqProofs := false) only [↓reduceIte, go_sem, oread, owrite, Nat.reduceAdd, Nat.reduceSub, Nat.reduceMul, Nat.reduceLT, Nat.reduceLeDiff, Nat.reduceEqDiff, Nat.reduceBEq, Int.reduceLE, Int.reduceLT, Int.reduceEq, Int.reduceNe, Int.reduceAdd, Int.reduceSub, Int.reduceMul, Int.reduceNeg, Int.reduceToNat, Int.reduceNatCast, reduceCtorEq, eq_self, t0, t5, bys_len, h1, show ((k : Int) < 9) = True from eq_true (by omega), hx, show (128 ≤ (c : Int)) = True from eq_true (by omega), show (0 < (k : Int)) = False from eq_false (by omega)]
          refine ⟨_, _, k + 1, .refl _ _, ⟨rfl, by omega, by omega, hge2 (by omega), ?_⟩, by omega⟩
          simp (implicitDefEqProofs := false) only [↓reduceIte, go_sem, oread, owrite, Nat.reduceAdd, Nat.reduceSub, Nat.reduceMul, Nat.reduceLT, Nat.reduceLeDiff, Nat.reduceEqDiff, Nat.reduceBEq, Int.reduceLE, Int.reduceLT, Int.reduceEq, Int.reduceNe, Int.reduceAdd, Int.reduceSub, Int.reduceMul, Int.reduceNeg, Int.reduceToNat, Int.reduceNatCast, reduceCtorEq, eq_self, t0, hwk]
        · simp (implicitDefEqProofs := false) only [↓reduceIte, go_sem, oread, owrite, Nat.reduceAdd, Nat.reduceSub, Nat.reduceMul, Nat.reduceLT, Nat.reduceLeDiff, Nat.reduceEqDiff, Nat.reduceBEq, Int.reduceLE, Int.reduceLT, Int.reduceEq, Int.reduceNe, Int.reduceAdd, Int.reduceSub, Int.reduceMul, Int.reduceNeg, Int.reduceToNat, Int.reduceNatCast, reduceCtorEq, eq_self, t0, t5, bys_len, h1, show ((k : Int) < 9) = True from eq_true (by omega), hx, show (128 ≤ (c : Int)) = True from eq_true (by omega), show (0 < (k : Int)) = True from eq_true (by omega), show ((c : Int) = 0) = False from eq_false (by omega)]
          refine ⟨_, _, k + 1, .refl _ _, ⟨rfl, by omega, by omega, hge2 (by omega), ?_⟩, by omega⟩
          simp (implicitDefEqProofs := false) only [↓reduceIte, go_sem, oread, owrite, Nat.reduceAdd, Nat.reduceSub, Nat.reduceMul, Nat.reduceLT, Nat.reduceLeDiff, Nat.reduceEqDiff, Nat.reduceBEq, Int.reduceLE, Int.reduceLT, Int.reduceEq, Int.reduceNe, Int.reduceAdd, Int.reduceSub, Int.reduceMul, Int.reduceNeg, Int.reduceToNat, Int.reduceNatCast, reduceCtorEq, eq_self, t0, hwk]
      · simp (implicitDefEqProofs := false) only [↓reduceIte, go_sem, oread, owrite, Nat.reduceAdd, Nat.reduceSub, Nat.reduceMul, Nat.reduceLT, Nat.reduceLeDiff, Nat.reduceEqDiff, Nat.reduceBEq, Int.reduceLE, Int.reduceLT, Int.reduceEq, Int.reduceNe, Int.reduceAdd, Int.reduceSub, Int.reduceMul, Int.reduceNeg, Int.reduceToNat, Int.reduceNatCast, reduceCtorEq, eq_self, t0, t5, bys_len, show ((k : Int) < (b.length : Int)) = False from eq_false (by omega)]
        exact ⟨k, hk9, hkl, hge, fun h => absurd h h1, rfl⟩
  · rintro s H' ⟨rfl, k, hk9, hkl, hge, hstop, t0, t5⟩
    by_cases h1 : k = b.length
    · rw [getP_short b k hk9 h1 hge]
      simp (implicitDefEqProofs := false) only [↓reduceIte, go_sem, oread, owrite, Nat.reduceAdd, Nat.reduceSub, Nat.reduceMul, Nat.reduceLT, Nat.reduceLeDiff, Nat.reduceEqDiff, Nat.reduceBEq, Int.reduceLE, Int.reduceLT, Int.reduceEq, Int.reduceNe, Int.reduceAdd, Int.reduceSub, Int.reduceMul, Int.reduceNeg, Int.reduceToNat, Int.reduceNatCast, reduceCtorEq, eq_self, t0, t5, bys_len, show ((k : Int) = (b.length : Int)) = True from eq_true (by omega)]
      refine AEnd.ret0 ?_
      simp (implicitDefEqProofs := false) only [↓reduceIte, go_sem, oread, owrite, Nat.reduceAdd, Nat.reduceSub, Nat.reduceMul, Nat.reduceLT, Nat.reduceLeDiff, Nat.reduceEqDiff, Nat.reduceBEq, Int.reduceLE, Int.reduceLT, Int.reduceEq, Int.reduceNe, Int.reduceAdd, Int.reduceSub, Int.reduceMul, Int.reduceNeg, Int.reduceToNat, Int.reduceNatCast, reduceCtorEq, eq_self]
      rfl
    have hlt : k < b.length := by omega
    have hgp := getP_stop b k hk9 hlt hge (hstop hlt)
    have hx := bys_get b k hlt
    have hxb := hb _ (List.getElem_mem hlt)
    have hs := hstop hlt
    have hx9 : k = 9 → (bys b)[9]? = some [.v (.int .u8 (b[k] : Int))] := fun h => by subst h; exact hx
    have h9l : k = 9 → 9 < b.length := fun h => by omega
    generalize hc : b[k] = c at *
    have ne : ((k : Int) = (b.length : Int)) = False := eq_false (by omega)
    by_cases herr : (k = 9 ∧ 1 < c) ∨ (0 < k ∧ c = 0)
    · rw [hgp, if_pos herr]
      by_cases hk : k = 9
      · have hx9 := hx9 hk
        have h9l := h9l hk
        have e9 : ((k : Int) = 9) = True := eq_true (by omega)
        by_cases hc1 : 1 < c
        · simp (implicitDefEqProofs := false) only [↓reduceIte, go_sem, oread, owrite, Nat.reduceAdd, Nat.reduceSub, Nat.reduceMul, Nat.reduceLT, Nat.reduceLeDiff, Nat.reduceEqDiff, Nat.reduceBEq, Int.reduceLE, Int.reduceLT, Int.reduceEq, Int.reduceNe, Int.reduceAdd, Int.reduceSub, Int.reduceMul, Int.reduceNeg, Int.reduceToNat, Int.reduceNatCast, reduceCtorEq, eq_self, t0, t5, bys_len, ne, e9, hx9, h9l, show (1 < (c : Int)) = True from eq_true (by omega), show (9 < (b.length : Int)) = True from eq_true (by omega)]
          refine AEnd.ret0 ?_
          simp (implicitDefEqProofs := false) only [↓reduceIte, go_sem, oread, owrite, Nat.reduceAdd, Nat.reduceSub, Nat.reduceMul, Nat.reduceLT, Nat.reduceLeDiff, Nat.reduceEqDiff, Nat.reduceBEq, Int.reduceLE, Int.reduceLT, Int.reduceEq, Int.reduceNe, Int.reduceAdd, Int.reduceSub, Int.reduceMul, Int.reduceNeg, Int.reduceToNat, Int.reduceNatCast, reduceCtorEq, eq_self]
          rfl
        · simp (implicitDefEqProofs := false) only [↓reduceIte, go_sem, oread, owrite, Nat.reduceAdd, Nat.reduceSub, Nat.reduceMul, Nat.reduceLT, Nat.reduceLeDiff, Nat.reduceEqDiff, Nat.reduceBEq, Int.reduceLE, Int.reduceLT, Int.reduceEq, Int.reduceNe, Int.reduceAdd, Int.reduceSub, Int.reduceMul, Int.reduceNeg, Int.reduceToNat, Int.reduceNatCast, reduceCtorEq, eq_self, t0, t5, bys_len, ne, e9, hx9, h9l, show (1 < (c : Int)) = False from eq_false (by omega), show (0 < (k : Int)) = True from eq_true (by omega), hx, hlt, show ((c : Int) = 0) = True from eq_true (by omega), show (9 < (b.length : Int)) = True from eq_true (by omega)]
          refine AEnd.ret0 ?_
          simp (implicitDefEqProofs := false) only [↓reduceIte, go_sem, oread, owrite, Nat.reduceAdd, Nat.reduceSub, Nat.reduceMul, Nat.reduceLT, Nat.reduceLeDiff, Nat.reduceEqDiff, Nat.reduceBEq, Int.reduceLE, Int.reduceLT, Int.reduceEq, Int.reduceNe, Int.reduceAdd, Int.reduceSub, Int.reduceMul, Int.reduceNeg, Int.reduceToNat, Int.reduceNatCast, reduceCtorEq, eq_self]
          rfl
      · simp (implicitDefEqProofs := false) only [↓reduceIte, go_sem, oread, owrite, Nat.reduceAdd, Nat.reduceSub, Nat.reduceMul, Nat.reduceLT, Nat.reduceLeDiff, Nat.reduceEqDiff, Nat.reduceBEq, Int.reduceLE, Int.reduceLT, Int.reduceEq, Int.reduceNe, Int.reduceAdd, Int.reduceSub, Int.reduceMul, Int.reduceNeg, Int.reduceToNat, Int.reduceNatCast, reduceCtorEq, eq_self, t0, t5, bys_len, ne, show ((k : Int) = 9) = False from eq_false (by omega), show (0 < (k : Int)) = True from eq_true (by omega), hx, hlt, show ((c : Int) = 0) = True from eq_true (by omega)]
        refine AEnd.ret0 ?_
        simp (implicitDefEqProofs := false) only [↓reduceIte, go_sem, oread, owrite, Nat.reduceAdd, Nat.reduceSub, Nat.reduceMul, Nat.reduceLT, Nat.reduceLeDiff, Nat.reduceEqDiff, Nat.reduceBEq, Int.reduceLE, Int.reduceLT, Int.reduceEq, Int.reduceNe, Int.reduceAdd, Int.reduceSub, Int.reduceMul, Int.reduceNeg, Int.reduceToNat, Int.reduceNatCast, reduceCtorEq, eq_self]
        rfl
    · rw [if_neg herr] at hgp
      rw [hgp] at hlt64 ⊢
      simp only at hlt64 ⊢
      have hf : ((((k : Int) = 9) = True ∧ (1 < (c : Int)) = False ∧ (0 < (k : Int)) = True ∧ ((c : Int) = 0) = False ∧ (9 < (b.length : Int)) = True ∧ (9 < b.length) = True ∧ (bys b)[9]? = some [.v (.int .u8 (c : Int))])) ∨ ((((k : Int) = 9) = False ∧ (0 < (k : Int)) = False)) ∨ ((((k : Int) = 9) = False ∧ (0 < (k : Int)) = True ∧ ((c : Int) = 0) = False)) := by
        by_cases hk : k = 9
        · exact .inl ⟨eq_true (by omega), eq_false (by omega), eq_true (by omega), eq_false (by omega), eq_true (by omega), eq_true (by omega), hx9 hk⟩
        · by_cases h0 : k = 0
          · exact .inr (.inl ⟨eq_false (by omega), eq_false (by omega)⟩)
          · exact .inr (.inr ⟨eq_false (by omega), eq_true (by omega), eq_false (by omega)⟩)
      rcases hf with hf | hf | hf
      all_goals
        simp (implicitDefEqProofs := false) only [↓reduceIte, go_sem, oread, owrite, Nat.reduceAdd, Nat.reduceSub, Nat.reduceMul, Nat.reduceLT, Nat.reduceLeDiff, Nat.reduceEqDiff, Nat.reduceBEq, Int.reduceLE, Int.reduceLT, Int.reduceEq, Int.reduceNe, Int.reduceAdd, Int.reduceSub, Int.reduceMul, Int.reduceNeg, Int.reduceToNat, Int.reduceNatCast, reduceCtorEq, eq_self, t0, t5, bys_len, ne, hf, hx, hlt]
        refine awp_for3 (fun j s H2 => H2 = H' ∧ s 0 = .d (.list nn (bys b)) ∧ s 5 = iA k ∧ s 6 = du (valFrom b (k + 1 - j) j) ∧ s 7 = iA ((k : Int) - j)) (k + 1) (by omega) (Weak.refl _ _) ?_ ?_ ?_
        · rw [valFrom_zero, show (k : Int) - ((0 : Nat) : Int) = (k : Int) by omega]
          refine ⟨rfl, ?_⟩
          simp (implicitDefEqProofs := false) only [↓reduceIte, go_sem, oread, owrite, Nat.reduceAdd, Nat.reduceSub, Nat.reduceMul, Nat.reduceLT, Nat.reduceLeDiff, Nat.reduceEqDiff, Nat.reduceBEq, Int.reduceLE, Int.reduceLT, Int.reduceEq, Int.reduceNe, Int.reduceAdd, Int.reduceSub, Int.reduceMul, Int.reduceNeg, Int.reduceToNat, Int.reduceNatCast, reduceCtorEq, eq_self, t0, t5]
          rfl
        · rintro j s H' hj hw ⟨rfl, t0, t5, t6, t7⟩
          obtain ⟨i, hi⟩ : ∃ i, i = k - j := ⟨_, rfl⟩
          have q1 : (k : Int) - (j : Int) = (i : Int) := by omega
          have q2 : (k : Int) - ((j + 1 : Nat) : Int) = (i : Int) - 1 := by omega
          have q3 : IntKind.i64.wrap ((i : Int) - 1) = (i : Int) - 1 := wrap64_in _ (by omega) (by omega)
          have q4 : valFrom b (k + 1 - (j + 1)) (j + 1) = b.getD i 0 % 128 + 128 * valFrom b (k + 1 - j) j := by
            rw [show k + 1 - (j + 1) = i by omega, valFrom, show i + 1 = k + 1 - j by omega]
          have q5 := valFrom_part b (j + 1) i 0
          rw [Nat.zero_add, show i + (j + 1) = k + 1 by omega] at q5
          rw [show k + 1 - (j + 1) = i by omega] at q4
          have hil : i < b.length := by omega
          have hy := bys_get b i hil
          have hyb := hb _ (List.getElem_mem hil)
          have q6 : b.getD i 0 = b[i] := by simp [List.getD, hil]
          rw [q6] at q4
          rw [q1] at t7
          rw [q2, show k + 1 - (j + 1) = i by omega, q4]
          rw [q4] at q5
          generalize b[i] = y at *
          generalize valFrom b (k + 1 - j) j = m at *
          have w1 : IntKind.u64.wrap ((m : Int) * 128) = (m : Int) * 128 := wrapu64_in _ (by omega) (by omega)
          have w2 : IntKind.u8.wrap ((y % 128 : Nat) : Int) = ((y % 128 : Nat) : Int) := wrap8N _ (by omega)
          have w3 : IntKind.u64.wrap ((y % 128 : Nat) : Int) = ((y % 128 : Nat) : Int) := wrapU64N _ (by omega)
          have w4 : IntKind.u64.wrap ((m : Int) * 128 + ((y % 128 : Nat) : Int)) = ((y % 128 + 128 * m : Nat) : Int) := by rw [wrapu64_in _ (by omega) (by omega)]; omega
          generalize y % 128 + 128 * m = z at *
          simp (implicitDefEqProofs := false) only [↓reduceIte, go_sem, oread, owrite, Nat.reduceAdd, Nat.reduceSub, Nat.reduceMul, Nat.reduceLT, Nat.reduceLeDiff, Nat.reduceEqDiff, Nat.reduceBEq, Int.reduceLE, Int.reduceLT, Int.reduceEq, Int.reduceNe, Int.reduceAdd, Int.reduceSub, Int.reduceMul, Int.reduceNeg, Int.reduceToNat, Int.reduceNatCast, reduceCtorEq, eq_self, t0, t6, t7, bys_len, hil, hy, tmod128, w1, w2, w3, w4, q3, show (0 ≤ (i : Int)) = True from eq_true (by omega)]
          refine Rnd.same ⟨rfl, ?_⟩
          simp (implicitDefEqProofs := false) only [↓reduceIte, go_sem, oread, owrite, Nat.reduceAdd, Nat.reduceSub, Nat.reduceMul, Nat.reduceLT, Nat.reduceLeDiff, Nat.reduceEqDiff, Nat.reduceBEq, Int.reduceLE, Int.reduceLT, Int.reduceEq, Int.reduceNe, Int.reduceAdd, Int.reduceSub, Int.reduceMul, Int.reduceNeg, Int.reduceToNat, Int.reduceNatCast, reduceCtorEq, eq_self, t0, t5]
        · rintro s H' ⟨rfl, t0, t5, t6, t7⟩
          rw [Nat.sub_self] at t6
          have hw : IntKind.i64.wrap ((k : Int) + 1) = ((k + 1 : Nat) : Int) := by rw [wrap64_in _ (by omega) (by omega)]; omega
          have q : (k : Int) - ((k + 1 : Nat) : Int) = -1 := by omega
          rw [q] at t7
          simp (implicitDefEqProofs := false) only [↓reduceIte, go_sem, oread, owrite, Nat.reduceAdd, Nat.reduceSub, Nat.reduceMul, Nat.reduceLT, Nat.reduceLeDiff, Nat.reduceEqDiff, Nat.reduceBEq, Int.reduceLE, Int.reduceLT, Int.reduceEq, Int.reduceNe, Int.reduceAdd, Int.reduceSub, Int.reduceMul, Int.reduceNeg, Int.reduceToNat, Int.reduceNatCast, reduceCtorEq, eq_self, t5, t6, t7, hw]
          refine AEnd.ret0 ?_
          simp (implicitDefEqProofs := false) only [↓reduceIte, go_sem, oread, owrite, Nat.reduceAdd, Nat.reduceSub, Nat.reduceMul, Nat.reduceLT, Nat.reduceLeDiff, Nat.reduceEqDiff, Nat.reduceBEq, Int.reduceLE, Int.reduceLT, Int.reduceEq, Int.reduceNe, Int.reduceAdd, Int.reduceSub, Int.reduceMul, Int.reduceNeg, Int.reduceToNat, Int.reduceNatCast, reduceCtorEq, eq_self]
set_option maxRecDepth 10000 in
set_option maxHeartbeats 1000000 in
theorem rmay_does (v : Val) (H : AHeap) : Does Try.prog 51 [v.av] H (.ok (bA (mayV v))) H := by
  have e0 : ∀ x : ByteArray, (x.toList == (⟨#[]⟩ : ByteArray).toList) = decide (x.toList = []) := fun x => by
    rw [show (⟨#[]⟩ : ByteArray).toList = [] from noS_toList]; rw [Bool.eq_iff_iff]; simp
  refine Does.of_awp (hint := (fun _ => false)) Try.func51 (by kernel_rfl) rfl [2] (by kernel_rfl) (by decide) (by simp [Try.ntmps51]) ?_
  rw [Try.ntmps51]
  by_cases h2 : v.kind = 2
  · cases hs : decide (v.s.toList = []) with
    | true =>
      simp (implicitDefEqProofs := false) only [↓reduceIte, go_sem, oread, owrite, Nat.reduceAdd, Nat.reduceSub, Nat.reduceMul, Nat.reduceLT, Nat.reduceLeDiff, Nat.reduceEqDiff, Nat.reduceBEq, Int.reduceLE, Int.reduceLT, Int.reduceEq, Int.reduceNe, Int.reduceAdd, Int.reduceSub, Int.reduceMul, Int.reduceNeg, Int.reduceToNat, Int.reduceNatCast, reduceCtorEq, eq_self, h2]
      refine awp_draw K.mixed (by kernel_rfl) ?_
      simp (implicitDefEqProofs := false) only [↓reduceIte, go_sem, oread, owrite, Nat.reduceAdd, Nat.reduceSub, Nat.reduceMul, Nat.reduceLT, Nat.reduceLeDiff, Nat.reduceEqDiff, Nat.reduceBEq, Int.reduceLE, Int.reduceLT, Int.reduceEq, Int.reduceNe, Int.reduceAdd, Int.reduceSub, Int.reduceMul, Int.reduceNeg, Int.reduceToNat, Int.reduceNatCast, reduceCtorEq, eq_self, wrap_toU, e0, hs]
      refine KCall.ok (clean04_does _ (toU_lt _) _) ?_
      simp (implicitDefEqProofs := false) only [↓reduceIte, go_sem, oread, owrite, Nat.reduceAdd, Nat.reduceSub, Nat.reduceMul, Nat.reduceLT, Nat.reduceLeDiff, Nat.reduceEqDiff, Nat.reduceBEq, Int.reduceLE, Int.reduceLT, Int.reduceEq, Int.reduceNe, Int.reduceAdd, Int.reduceSub, Int.reduceMul, Int.reduceNeg, Int.reduceToNat, Int.reduceNatCast, reduceCtorEq, eq_self, Int.natCast_inj, wrap_toU]
      refine AEnd.ret ?_
      simp (implicitDefEqProofs := false) only [↓reduceIte, go_sem, oread, owrite, Nat.reduceAdd, Nat.reduceSub, Nat.reduceMul, Nat.reduceLT, Nat.reduceLeDiff, Nat.reduceEqDiff, Nat.reduceBEq, Int.reduceLE, Int.reduceLT, Int.reduceEq, Int.reduceNe, Int.reduceAdd, Int.reduceSub, Int.reduceMul, Int.reduceNeg, Int.reduceToNat, Int.reduceNatCast, reduceCtorEq, eq_self, mayV, h2, hs, Bool.and_true]
      exact congrArg (fun b => AV.d (D.v (Value.bool b))) (decide_eq_decide.2 eq_comm)
    | false =>
      simp (implicitDefEqProofs := false) only [↓reduceIte, go_sem, oread, owrite, Nat.reduceAdd, Nat.reduceSub, Nat.reduceMul, Nat.reduceLT, Nat.reduceLeDiff, Nat.reduceEqDiff, Nat.reduceBEq, Int.reduceLE, Int.reduceLT, Int.reduceEq, Int.reduceNe, Int.reduceAdd, Int.reduceSub, Int.reduceMul, Int.reduceNeg, Int.reduceToNat, Int.reduceNatCast, reduceCtorEq, eq_self, h2]
      refine awp_draw K.mixed (by kernel_rfl) ?_
      simp (implicitDefEqProofs := false) only [↓reduceIte, go_sem, oread, owrite, Nat.reduceAdd, Nat.reduceSub, Nat.reduceMul, Nat.reduceLT, Nat.reduceLeDiff, Nat.reduceEqDiff, Nat.reduceBEq, Int.reduceLE, Int.reduceLT, Int.reduceEq, Int.reduceNe, Int.reduceAdd, Int.reduceSub, Int.reduceMul, Int.reduceNeg, Int.reduceToNat, Int.reduceNatCast, reduceCtorEq, eq_self, wrap_toU, e0, hs]
      refine AEnd.ret ?_
      simp (implicitDefEqProofs := false) only [↓reduceIte, go_sem, oread, owrite, Nat.reduceAdd, Nat.reduceSub, Nat.reduceMul, Nat.reduceLT, Nat.reduceLeDiff, Nat.reduceEqDiff, Nat.reduceBEq, Int.reduceLE, Int.reduceLT, Int.reduceEq, Int.reduceNe, Int.reduceAdd, Int.reduceSub, Int.reduceMul, Int.reduceNeg, Int.reduceToNat, Int.reduceNatCast, reduceCtorEq, eq_self, mayV, h2, hs, Bool.and_false]
  by_cases h1 : v.kind = 1
  · simp (implicitDefEqProofs := false) only [↓reduceIte, go_sem, oread, owrite, Nat.reduceAdd, Nat.reduceSub, Nat.reduceMul, Nat.reduceLT, Nat.reduceLeDiff, Nat.reduceEqDiff, Nat.reduceBEq, Int.reduceLE, Int.reduceLT, Int.reduceEq, Int.reduceNe, Int.reduceAdd, Int.reduceSub, Int.reduceMul, Int.reduceNeg, Int.reduceToNat, Int.reduceNatCast, reduceCtorEq, eq_self, h1, e0]
    refine AEnd.ret ?_
    simp (implicitDefEqProofs := false) only [↓reduceIte, go_sem, oread, owrite, Nat.reduceAdd, Nat.reduceSub, Nat.reduceMul, Nat.reduceLT, Nat.reduceLeDiff, Nat.reduceEqDiff, Nat.reduceBEq, Int.reduceLE, Int.reduceLT, Int.reduceEq, Int.reduceNe, Int.reduceAdd, Int.reduceSub, Int.reduceMul, Int.reduceNeg, Int.reduceToNat, Int.reduceNatCast, reduceCtorEq, eq_self, mayV, h1]
  by_cases h3 : v.kind = 3
  · by_cases hi : v.i = 0
    · simp (implicitDefEqProofs := false) only [↓reduceIte, go_sem, oread, owrite, Nat.reduceAdd, Nat.reduceSub, Nat.reduceMul, Nat.reduceLT, Nat.reduceLeDiff, Nat.reduceEqDiff, Nat.reduceBEq, Int.reduceLE, Int.reduceLT, Int.reduceEq, Int.reduceNe, Int.reduceAdd, Int.reduceSub, Int.reduceMul, Int.reduceNeg, Int.reduceToNat, Int.reduceNatCast, reduceCtorEq, eq_self, h3, hi]
      refine AEnd.ret ?_
      simp (implicitDefEqProofs := false) only [↓reduceIte, go_sem, oread, owrite, Nat.reduceAdd, Nat.reduceSub, Nat.reduceMul, Nat.reduceLT, Nat.reduceLeDiff, Nat.reduceEqDiff, Nat.reduceBEq, Int.reduceLE, Int.reduceLT, Int.reduceEq, Int.reduceNe, Int.reduceAdd, Int.reduceSub, Int.reduceMul, Int.reduceNeg, Int.reduceToNat, Int.reduceNatCast, reduceCtorEq, eq_self, mayV, h3, hi, show ((v.s.size : Int) ≤ 1024) = (v.s.size ≤ 1024) from by simp; omega]
    · simp (implicitDefEqProofs := false) only [↓reduceIte, go_sem, oread, owrite, Nat.reduceAdd, Nat.reduceSub, Nat.reduceMul, Nat.reduceLT, Nat.reduceLeDiff, Nat.reduceEqDiff, Nat.reduceBEq, Int.reduceLE, Int.reduceLT, Int.reduceEq, Int.reduceNe, Int.reduceAdd, Int.reduceSub, Int.reduceMul, Int.reduceNeg, Int.reduceToNat, Int.reduceNatCast, reduceCtorEq, eq_self, h3, hi]
      refine AEnd.ret ?_
      simp (implicitDefEqProofs := false) only [↓reduceIte, go_sem, oread, owrite, Nat.reduceAdd, Nat.reduceSub, Nat.reduceMul, Nat.reduceLT, Nat.reduceLeDiff, Nat.reduceEqDiff, Nat.reduceBEq, Int.reduceLE, Int.reduceLT, Int.reduceEq, Int.reduceNe, Int.reduceAdd, Int.reduceSub, Int.reduceMul, Int.reduceNeg, Int.reduceToNat, Int.reduceNatCast, reduceCtorEq, eq_self, mayV, h3, hi]
  by_cases h0 : v.kind = 0
  · by_cases hi : v.i = 0
    · simp (implicitDefEqProofs := false) only [↓reduceIte, go_sem, oread, owrite, Nat.reduceAdd, Nat.reduceSub, Nat.reduceMul, Nat.reduceLT, Nat.reduceLeDiff, Nat.reduceEqDiff, Nat.reduceBEq, Int.reduceLE, Int.reduceLT, Int.reduceEq, Int.reduceNe, Int.reduceAdd, Int.reduceSub, Int.reduceMul, Int.reduceNeg, Int.reduceToNat, Int.reduceNatCast, reduceCtorEq, eq_self, h1, h2, h3, eq_true h0, e0, hi]
      refine AEnd.ret ?_
      simp (implicitDefEqProofs := false) only [↓reduceIte, go_sem, oread, owrite, Nat.reduceAdd, Nat.reduceSub, Nat.reduceMul, Nat.reduceLT, Nat.reduceLeDiff, Nat.reduceEqDiff, Nat.reduceBEq, Int.reduceLE, Int.reduceLT, Int.reduceEq, Int.reduceNe, Int.reduceAdd, Int.reduceSub, Int.reduceMul, Int.reduceNeg, Int.reduceToNat, Int.reduceNatCast, reduceCtorEq, eq_self, mayV, h1, h2, h3, eq_true h0, hi]
    · simp (implicitDefEqProofs := false) only [↓reduceIte, go_sem, oread, owrite, Nat.reduceAdd, Nat.reduceSub, Nat.reduceMul, Nat.reduceLT, Nat.reduceLeDiff, Nat.reduceEqDiff, Nat.reduceBEq, Int.reduceLE, Int.reduceLT, Int.reduceEq, Int.reduceNe, Int.reduceAdd, Int.reduceSub, Int.reduceMul, Int.reduceNeg, Int.reduceToNat, Int.reduceNatCast, reduceCtorEq, eq_self, h1, h2, h3, eq_true h0, e0, hi]
      refine AEnd.ret ?_
      simp (implicitDefEqProofs := false) only [↓reduceIte, go_sem, oread, owrite, Nat.reduceAdd, Nat.reduceSub, Nat.reduceMul, Nat.reduceLT, Nat.reduceLeDiff, Nat.reduceEqDiff, Nat.reduceBEq, Int.reduceLE, Int.reduceLT, Int.reduceEq, Int.reduceNe, Int.reduceAdd, Int.reduceSub, Int.reduceMul, Int.reduceNeg, Int.reduceToNat, Int.reduceNatCast, reduceCtorEq, eq_self, mayV, h1, h2, h3, eq_true h0, hi]
  simp (implicitDefEqProofs := false) only [↓reduceIte, go_sem, oread, owrite, Nat.reduceAdd, Nat.reduceSub, Nat.reduceMul, Nat.reduceLT, Nat.reduceLeDiff, Nat.reduceEqDiff, Nat.reduceBEq, Int.reduceLE, Int.reduceLT, Int.reduceEq, Int.reduceNe, Int.reduceAdd, Int.reduceSub, Int.reduceMul, Int.reduceNeg, Int.reduceToNat, Int.reduceNatCast, reduceCtorEq, eq_self, h0, h1, h2, h3]
  refine AEnd.ret ?_
  simp (implicitDefEqProofs := false) only [↓reduceIte, go_sem, oread, owrite, Nat.reduceAdd, Nat.reduceSub, Nat.reduceMul, Nat.reduceLT, Nat.reduceLeDiff, Nat.reduceEqDiff, Nat.reduceBEq, Int.reduceLE, Int.reduceLT, Int.reduceEq, Int.reduceNe, Int.reduceAdd, Int.reduceSub, Int.reduceMul, Int.reduceNeg, Int.reduceToNat, Int.reduceNatCast, reduceCtorEq, eq_self, mayV, h0, h1, h2, h3]
set_option maxRecDepth 10000 in
theorem rkinds_does (k : Int) (H : AHeap) : Does Try.prog 50 [iA k] H (.ok (bA (kindsP k))) H := by
  have e : kindsP k = if k = 1 then true else if k = 2 then true else decide (k = 3) := by
    unfold kindsP
    rw [Bool.eq_iff_iff]
    simp only [Bool.and_eq_true, decide_eq_true_eq]
    split
    · simp; omega
    · split
      · simp; omega
      · simp; omega
  refine Does.of_awp (hint := (fun _ => false)) Try.func50 (by kernel_rfl) rfl [2] (by kernel_rfl) (by decide) (by simp [Try.ntmps50]) ?_
  rw [Try.ntmps50]
  by_cases h1 : k = 1
  · rw [if_pos h1] at e
    simp (implicitDefEqProofs := false) only [↓reduceIte, go_sem, oread, owrite, Nat.reduceAdd, Nat.reduceSub, Nat.reduceMul, Nat.reduceLT, Nat.reduceLeDiff, Nat.reduceEqDiff, Nat.reduceBEq, Int.reduceLE, Int.reduceLT, Int.reduceEq, Int.reduceNe, Int.reduceAdd, Int.reduceSub, Int.reduceMul, Int.reduceNeg, Int.reduceToNat, Int.reduceNatCast, reduceCtorEq, eq_self, eq_true h1]
    refine AEnd.ret0 ?_
    simp (implicitDefEqProofs := false) only [↓reduceIte, go_sem, oread, owrite, Nat.reduceAdd, Nat.reduceSub, Nat.reduceMul, Nat.reduceLT, Nat.reduceLeDiff, Nat.reduceEqDiff, Nat.reduceBEq, Int.reduceLE, Int.reduceLT, Int.reduceEq, Int.reduceNe, Int.reduceAdd, Int.reduceSub, Int.reduceMul, Int.reduceNeg, Int.reduceToNat, Int.reduceNatCast, reduceCtorEq, eq_self, e]
  rw [if_neg h1] at e
  by_cases h2 : k = 2
  · rw [if_pos h2] at e
    simp (implicitDefEqProofs := false) only [↓reduceIte, go_sem, oread, owrite, Nat.reduceAdd, Nat.reduceSub, Nat.reduceMul, Nat.reduceLT, Nat.reduceLeDiff, Nat.reduceEqDiff, Nat.reduceBEq, Int.reduceLE, Int.reduceLT, Int.reduceEq, Int.reduceNe, Int.reduceAdd, Int.reduceSub, Int.reduceMul, Int.reduceNeg, Int.reduceToNat, Int.reduceNatCast, reduceCtorEq, eq_self, h1, eq_true h2]
    refine AEnd.ret0 ?_
    simp (implicitDefEqProofs := false) only [↓reduceIte, go_sem, oread, owrite, Nat.reduceAdd, Nat.reduceSub, Nat.reduceMul, Nat.reduceLT, Nat.reduceLeDiff, Nat.reduceEqDiff, Nat.reduceBEq, Int.reduceLE, Int.reduceLT, Int.reduceEq, Int.reduceNe, Int.reduceAdd, Int.reduceSub, Int.reduceMul, Int.reduceNeg, Int.reduceToNat, Int.reduceNatCast, reduceCtorEq, eq_self, e]
  rw [if_neg h2] at e
  simp (implicitDefEqProofs := false) only [↓reduceIte, go_sem, oread, owrite, Nat.reduceAdd, Nat.reduceSub, Nat.reduceMul, Nat.reduceLT, Nat.reduceLeDiff, Nat.reduceEqDiff, Nat.reduceBEq, Int.reduceLE, Int.reduceLT, Int.reduceEq, Int.reduceNe, Int.reduceAdd, Int.reduceSub, Int.reduceMul, Int.reduceNeg, Int.reduceToNat, Int.reduceNatCast, reduceCtorEq, eq_self, h1, h2]
  refine AEnd.ret0 ?_
  simp (implicitDefEqProofs := false) only [↓reduceIte, go_sem, oread, owrite, Nat.reduceAdd, Nat.reduceSub, Nat.reduceMul, Nat.reduceLT, Nat.reduceLeDiff, Nat.reduceEqDiff, Nat.reduceBEq, Int.reduceLE, Int.reduceLT, Int.reduceEq, Int.reduceNe, Int.reduceAdd, Int.reduceSub, Int.reduceMul, Int.reduceNeg, Int.reduceToNat, Int.reduceNatCast, reduceCtorEq, eq_self, e]
set_option maxRecDepth 10000 in
set_option maxHeartbeats 1000000 in
theorem rplain_does (l : List Val) (k : Int) (nn : Bool) (H : AHeap) (hl : l.length ≤ 9223372036854775807) : Does Try.prog 26 [.d (.list nn (l.map Val.enc)), iA k] H (.ok (iA (plainP l k))) H := by
  have hP : plainP l k = if !kindsP k then 1 else if 4096 < l.length then 2 else if l.any (fun v => !decide (v.kind = k)) then 7 else if l.any (fun v => !mayV v) then 1 else 0 := rfl
  refine Does.of_awp (hint := (fun _ => false)) Try.func26 (by kernel_rfl) rfl [4] (by kernel_rfl) (by decide) (by simp [Try.ntmps26]) ?_
  rw [Try.ntmps26]
  simp (implicitDefEqProofs := false) only [↓reduceIte, go_sem, oread, owrite, Nat.reduceAdd, Nat.reduceSub, Nat.reduceMul, Nat.reduceLT, Nat.reduceLeDiff, Nat.reduceEqDiff, Nat.reduceBEq, Int.reduceLE, Int.reduceLT, Int.reduceEq, Int.reduceNe, Int.reduceAdd, Int.reduceSub, Int.reduceMul, Int.reduceNeg, Int.reduceToNat, Int.reduceNatCast, reduceCtorEq, eq_self]
  refine KCall.ok (rkinds_does k _) ?_
  cases hk : kindsP k with
  | false =>
    rw [hk] at hP
    simp (implicitDefEqProofs := false) only [↓reduceIte, go_sem, oread, owrite, Nat.reduceAdd, Nat.reduceSub, Nat.reduceMul, Nat.reduceLT, Nat.reduceLeDiff, Nat.reduceEqDiff, Nat.reduceBEq, Int.reduceLE, Int.reduceLT, Int.reduceEq, Int.reduceNe, Int.reduceAdd, Int.reduceSub, Int.reduceMul, Int.reduceNeg, Int.reduceToNat, Int.reduceNatCast, reduceCtorEq, eq_self]
    refine AEnd.ret0 ?_
    simp (implicitDefEqProofs := false) only [↓reduceIte, go_sem, oread, owrite, Nat.reduceAdd, Nat.reduceSub, Nat.reduceMul, Nat.reduceLT, Nat.reduceLeDiff, Nat.reduceEqDiff, Nat.reduceBEq, Int.reduceLE, Int.reduceLT, Int.reduceEq, Int.reduceNe, Int.reduceAdd, Int.reduceSub, Int.reduceMul, Int.reduceNeg, Int.reduceToNat, Int.reduceNatCast, reduceCtorEq, eq_self, hP, Bool.not_false]
  | true =>
  rw [hk] at hP
  simp only [Bool.not_true, Bool.false_eq_true, if_false] at hP
  by_cases h1 : 4096 < l.length
  · rw [if_pos h1] at hP
    simp (implicitDefEqProofs := false) only [↓reduceIte, go_sem, oread, owrite, Nat.reduceAdd, Nat.reduceSub, Nat.reduceMul, Nat.reduceLT, Nat.reduceLeDiff, Nat.reduceEqDiff, Nat.reduceBEq, Int.reduceLE, Int.reduceLT, Int.reduceEq, Int.reduceNe, Int.reduceAdd, Int.reduceSub, Int.reduceMul, Int.reduceNeg, Int.reduceToNat, Int.reduceNatCast, reduceCtorEq, eq_self, List.length_map, show (4096 < (l.length : Int)) = True from eq_true (by omega)]
    refine AEnd.ret0 ?_
    simp (implicitDefEqProofs := false) only [↓reduceIte, go_sem, oread, owrite, Nat.reduceAdd, Nat.reduceSub, Nat.reduceMul, Nat.reduceLT, Nat.reduceLeDiff, Nat.reduceEqDiff, Nat.reduceBEq, Int.reduceLE, Int.reduceLT, Int.reduceEq, Int.reduceNe, Int.reduceAdd, Int.reduceSub, Int.reduceMul, Int.reduceNeg, Int.reduceToNat, Int.reduceNatCast, reduceCtorEq, eq_self, hP]
  rw [if_neg h1] at hP
  simp (implicitDefEqProofs := false) only [↓reduceIte, go_sem, oread, owrite, Nat.reduceAdd, Nat.reduceSub, Nat.reduceMul, Nat.reduceLT, Nat.reduceLeDiff, Nat.reduceEqDiff, Nat.reduceBEq, Int.reduceLE, Int.reduceLT, Int.reduceEq, Int.reduceNe, Int.reduceAdd, Int.reduceSub, Int.reduceMul, Int.reduceNeg, Int.reduceToNat, Int.reduceNatCast, reduceCtorEq, eq_self, List.length_map, show (4096 < (l.length : Int)) = False from eq_false (by omega)]
  refine awp_for3 (fun i s H' => H' = H ∧ (∀ j (hj : j < i) (hl : j < l.length), (!decide (l[j].kind = k)) = false) ∧ s 0 = .d (.list nn (l.map Val.enc)) ∧ s 1 = iA k ∧ s 5 = iA i) l.length hl (Weak.refl _ _) ?_ ?_ ?_
  · refine ⟨rfl, fun j hj => by omega, ?_⟩
    simp (implicitDefEqProofs := false) only [↓reduceIte, go_sem, oread, owrite, Nat.reduceAdd, Nat.reduceSub, Nat.reduceMul, Nat.reduceLT, Nat.reduceLeDiff, Nat.reduceEqDiff, Nat.reduceBEq, Int.reduceLE, Int.reduceLT, Int.reduceEq, Int.reduceNe, Int.reduceAdd, Int.reduceSub, Int.reduceMul, Int.reduceNeg, Int.reduceToNat, Int.reduceNatCast, reduceCtorEq, eq_self]
  · rintro i s H' hi hw ⟨rfl, hp, t0, t1, t5⟩
    have hx := List.getElem?_eq_getElem hi
    have hit : (!decide (l[i].kind = k)) = true → l.any (fun v => !decide (v.kind = k)) = true := fun h => any_hit (p := fun v : Val => !decide (v.kind = k)) hi h
    have hpp : (!decide (l[i].kind = k)) = false → ∀ j (hj : j < i + 1) (hl : j < l.length), (!decide (l[j].kind = k)) = false := fun h0 j hj hl' => by
      rcases Nat.lt_or_ge j i with h | h
      · exact hp j h hl'
      · obtain rfl : j = i := by omega
        exact h0
    generalize l[i] = x at hx hit hpp
    by_cases hc : x.kind = k
    · simp (implicitDefEqProofs := false) only [↓reduceIte, go_sem, oread, owrite, Nat.reduceAdd, Nat.reduceSub, Nat.reduceMul, Nat.reduceLT, Nat.reduceLeDiff, Nat.reduceEqDiff, Nat.reduceBEq, Int.reduceLE, Int.reduceLT, Int.reduceEq, Int.reduceNe, Int.reduceAdd, Int.reduceSub, Int.reduceMul, Int.reduceNeg, Int.reduceToNat, Int.reduceNatCast, reduceCtorEq, eq_self, t0, t1, t5, List.length_map, hi, hx, Val.enc, eq_true hc]
      refine Rnd.same ⟨rfl, hpp (by simp [hc]), ?_⟩
      simp (implicitDefEqProofs := false) only [↓reduceIte, go_sem, oread, owrite, Nat.reduceAdd, Nat.reduceSub, Nat.reduceMul, Nat.reduceLT, Nat.reduceLeDiff, Nat.reduceEqDiff, Nat.reduceBEq, Int.reduceLE, Int.reduceLT, Int.reduceEq, Int.reduceNe, Int.reduceAdd, Int.reduceSub, Int.reduceMul, Int.reduceNeg, Int.reduceToNat, Int.reduceNatCast, reduceCtorEq, eq_self, t0, t1, hw]
    · rw [hit (by simp [hc]), if_pos rfl] at hP
      simp (implicitDefEqProofs := false) only [↓reduceIte, go_sem, oread, owrite, Nat.reduceAdd, Nat.reduceSub, Nat.reduceMul, Nat.reduceLT, Nat.reduceLeDiff, Nat.reduceEqDiff, Nat.reduceBEq, Int.reduceLE, Int.reduceLT, Int.reduceEq, Int.reduceNe, Int.reduceAdd, Int.reduceSub, Int.reduceMul, Int.reduceNeg, Int.reduceToNat, Int.reduceNatCast, reduceCtorEq, eq_self, t0, t1, t5, List.length_map, hi, hx, Val.enc, hc]
      refine AEnd.ret0 ?_
      simp (implicitDefEqProofs := false) only [↓reduceIte, go_sem, oread, owrite, Nat.reduceAdd, Nat.reduceSub, Nat.reduceMul, Nat.reduceLT, Nat.reduceLeDiff, Nat.reduceEqDiff, Nat.reduceBEq, Int.reduceLE, Int.reduceLT, Int.reduceEq, Int.reduceNe, Int.reduceAdd, Int.reduceSub, Int.reduceMul, Int.reduceNeg, Int.reduceToNat, Int.reduceNatCast, reduceCtorEq, eq_self, hP]
  · rintro s H' ⟨rfl, hp, t0, t1, t5⟩
    rw [any_none (p := fun v : Val => !decide (v.kind = k)) (l := l) fun i hi => hp i hi hi] at hP
    simp only [Bool.false_eq_true, if_false] at hP
    simp (implicitDefEqProofs := false) only [↓reduceIte, go_sem, oread, owrite, Nat.reduceAdd, Nat.reduceSub, Nat.reduceMul, Nat.reduceLT, Nat.reduceLeDiff, Nat.reduceEqDiff, Nat.reduceBEq, Int.reduceLE, Int.reduceLT, Int.reduceEq, Int.reduceNe, Int.reduceAdd, Int.reduceSub, Int.reduceMul, Int.reduceNeg, Int.reduceToNat, Int.reduceNatCast, reduceCtorEq, eq_self, t0, t5, List.length_map]
    refine awp_for3 (fun i s H2 => H2 = H' ∧ (∀ j (hj : j < i) (hl : j < l.length), (!mayV l[j]) = false) ∧ s 0 = .d (.list nn (l.map Val.enc)) ∧ s 6 = iA i) l.length hl (Weak.refl _ _) ?_ ?_ ?_
    · refine ⟨rfl, fun j hj => by omega, ?_⟩
      simp (implicitDefEqProofs := false) only [↓reduceIte, go_sem, oread, owrite, Nat.reduceAdd, Nat.reduceSub, Nat.reduceMul, Nat.reduceLT, Nat.reduceLeDiff, Nat.reduceEqDiff, Nat.reduceBEq, Int.reduceLE, Int.reduceLT, Int.reduceEq, Int.reduceNe, Int.reduceAdd, Int.reduceSub, Int.reduceMul, Int.reduceNeg, Int.reduceToNat, Int.reduceNatCast, reduceCtorEq, eq_self, t0]
    · rintro i s H' hi hw ⟨rfl, hp, t0, t6⟩
      have hx := List.getElem?_eq_getElem hi
      have hit : (!mayV l[i]) = true → l.any (fun v => !mayV v) = true := fun h => any_hit (p := fun v : Val => !mayV v) hi h
      have hpp : (!mayV l[i]) = false → ∀ j (hj : j < i + 1) (hl : j < l.length), (!mayV l[j]) = false := fun h0 j hj hl' => by
        rcases Nat.lt_or_ge j i with h | h
        · exact hp j h hl'
        · obtain rfl : j = i := by omega
          exact h0
      generalize l[i] = x at hx hit hpp
      simp (implicitDefEqProofs := false) only [↓reduceIte, go_sem, oread, owrite, Nat.reduceAdd, Nat.reduceSub, Nat.reduceMul, Nat.reduceLT, Nat.reduceLeDiff, Nat.reduceEqDiff, Nat.reduceBEq, Int.reduceLE, Int.reduceLT, Int.reduceEq, Int.reduceNe, Int.reduceAdd, Int.reduceSub, Int.reduceMul, Int.reduceNeg, Int.reduceToNat, Int.reduceNatCast, reduceCtorEq, eq_self, t0, t6, List.length_map, hi, hx, Val.enc]
      refine KCall.ok (rmay_does x _) ?_
      cases hm : mayV x with
      | true =>
        simp (implicitDefEqProofs := false) only [↓reduceIte, go_sem, oread, owrite, Nat.reduceAdd, Nat.reduceSub, Nat.reduceMul, Nat.reduceLT, Nat.reduceLeDiff, Nat.reduceEqDiff, Nat.reduceBEq, Int.reduceLE, Int.reduceLT, Int.reduceEq, Int.reduceNe, Int.reduceAdd, Int.reduceSub, Int.reduceMul, Int.reduceNeg, Int.reduceToNat, Int.reduceNatCast, reduceCtorEq, eq_self, t6]
        refine Rnd.same ⟨rfl, hpp (by rw [hm]; rfl), ?_⟩
        simp (implicitDefEqProofs := false) only [↓reduceIte, go_sem, oread, owrite, Nat.reduceAdd, Nat.reduceSub, Nat.reduceMul, Nat.reduceLT, Nat.reduceLeDiff, Nat.reduceEqDiff, Nat.reduceBEq, Int.reduceLE, Int.reduceLT, Int.reduceEq, Int.reduceNe, Int.reduceAdd, Int.reduceSub, Int.reduceMul, Int.reduceNeg, Int.reduceToNat, Int.reduceNatCast, reduceCtorEq, eq_self, t0, hw]
      | false =>
        rw [hit (by rw [hm]; rfl), if_pos rfl] at hP
        simp (implicitDefEqProofs := false) only [↓reduceIte, go_sem, oread, owrite, Nat.reduceAdd, Nat.reduceSub, Nat.reduceMul, Nat.reduceLT, Nat.reduceLeDiff, Nat.reduceEqDiff, Nat.reduceBEq, Int.reduceLE, Int.reduceLT, Int.reduceEq, Int.reduceNe, Int.reduceAdd, Int.reduceSub, Int.reduceMul, Int.reduceNeg, Int.reduceToNat, Int.reduceNatCast, reduceCtorEq, eq_self]
        refine AEnd.ret0 ?_
        simp (implicitDefEqProofs := false) only [↓reduceIte, go_sem, oread, owrite, Nat.reduceAdd, Nat.reduceSub, Nat.reduceMul, Nat.reduceLT, Nat.reduceLeDiff, Nat.reduceEqDiff, Nat.reduceBEq, Int.reduceLE, Int.reduceLT, Int.reduceEq, Int.reduceNe, Int.reduceAdd, Int.reduceSub, Int.reduceMul, Int.reduceNeg, Int.reduceToNat, Int.reduceNatCast, reduceCtorEq, eq_self, hP]
    · rintro s H' ⟨rfl, hp, t0, t6⟩
      rw [any_none (p := fun v : Val => !mayV v) (l := l) fun i hi => hp i hi hi] at hP
      simp only [Bool.false_eq_true, if_false] at hP
      simp (implicitDefEqProofs := false) only [↓reduceIte, go_sem, oread, owrite, Nat.reduceAdd, Nat.reduceSub, Nat.reduceMul, Nat.reduceLT, Nat.reduceLeDiff, Nat.reduceEqDiff, Nat.reduceBEq, Int.reduceLE, Int.reduceLT, Int.reduceEq, Int.reduceNe, Int.reduceAdd, Int.reduceSub, Int.reduceMul, Int.reduceNeg, Int.reduceToNat, Int.reduceNatCast, reduceCtorEq, eq_self, t0, t6, List.length_map]
      refine AEnd.ret0 ?_
      simp (implicitDefEqProofs := false) only [↓reduceIte, go_sem, oread, owrite, Nat.reduceAdd, Nat.reduceSub, Nat.reduceMul, Nat.reduceLT, Nat.reduceLeDiff, Nat.reduceEqDiff, Nat.reduceBEq, Int.reduceLE, Int.reduceLT, Int.reduceEq, Int.reduceNe, Int.reduceAdd, Int.reduceSub, Int.reduceMul, Int.reduceNeg, Int.reduceToNat, Int.reduceNatCast, reduceCtorEq, eq_self, hP]
end Go.Proofs.Ytcdnbefcccdaeaa
namespace Go.Proofs.Ytcdnbefcccdaeaa
set_option linter.unusedVariables false
namespace St
variable {α : Type}
/-- Which of two is ahead: a strict order in which what is not ahead of one another is alike. -/
structure Ord (lt : α → α → Bool) : Prop where
  asym : ∀ x y, lt x y = true → lt y x = false
  ntrans : ∀ x y z, lt x z = true → lt x y = true ∨ lt y z = true
variable {lt : α → α → Bool} {l : List α}
theorem Ord.irr (h : Ord lt) (x : α) : lt x x = false := by
  cases e : lt x x with
  | false => rfl
  | true => rw [h.asym x x e] at e; cases e
theorem Ord.trans (h : Ord lt) {x y z : α} (h1 : lt x y = true) (h2 : lt y z = true) : lt x z = true := by
  rcases h.ntrans x z y h1 with h3 | h3
  · exact h3
  · rw [h.asym y z h2] at h3; cases h3
theorem Ord.le_trans (h : Ord lt) {x y z : α} (h1 : lt y x = false) (h2 : lt z y = false) : lt z x = false := by
  cases e : lt z x with
  | false => rfl
  | true =>
    rcases h.ntrans z y x e with h3 | h3
    · rw [h2] at h3; cases h3
    · rw [h1] at h3; cases h3
theorem Ord.lt_le (h : Ord lt) {x y z : α} (h1 : lt x y = true) (h2 : lt z y = false) : lt x z = true := by
  rcases h.ntrans x z y h1 with h3 | h3
  · exact h3
  · rw [h2] at h3; cases h3
theorem Ord.le_lt (h : Ord lt) {x y z : α} (h1 : lt y x = false) (h2 : lt y z = true) : lt x z = true := by
  rcases h.ntrans y x z h2 with h3 | h3
  · rw [h1] at h3; cases h3
  · exact h3
def Sorted (lt : α → α → Bool) (l : List α) : Prop := l.Pairwise fun x y => lt y x = false
def eqv (lt : α → α → Bool) (x y : α) : Bool := !lt x y && !lt y x
theorem eqv_iff {x y : α} : eqv lt x y = true ↔ lt x y = false ∧ lt y x = false := by simp [eqv]
def StEq (lt : α → α → Bool) (l m : List α) : Prop := ∀ x, l.filter (eqv lt x) = m.filter (eqv lt x)
theorem StEq.refl (l : List α) : StEq lt l l := fun _ => rfl
theorem StEq.symm {l m : List α} (h : StEq lt l m) : StEq lt m l := fun x => (h x).symm
theorem StEq.trans {l m n : List α} (h : StEq lt l m) (g : StEq lt m n) : StEq lt l n := fun x => (h x).trans (g x)
theorem StEq.app {l l' m m' : List α} (h : StEq lt l l') (g : StEq lt m m') : StEq lt (l ++ m) (l' ++ m') := fun x => by rw [List.filter_append, List.filter_append, h x, g x]
theorem eqv_self (ho : Ord lt) (x : α) : eqv lt x x = true := eqv_iff.2 ⟨ho.irr x, ho.irr x⟩
theorem StEq.mem (ho : Ord lt) {l m : List α} (h : StEq lt l m) {x : α} (hx : x ∈ l) : x ∈ m := by
  have : x ∈ l.filter (eqv lt x) := List.mem_filter.2 ⟨hx, eqv_self ho x⟩
  rw [h x] at this
  exact (List.mem_filter.1 this).1
theorem StEq.mem_iff (ho : Ord lt) {l m : List α} (h : StEq lt l m) {x : α} : x ∈ l ↔ x ∈ m := ⟨h.mem ho, h.symm.mem ho⟩
/-- Neighbours of which all of the one are ahead of all of the other change places. -/
theorem StEq.swap (ho : Ord lt) {u v : List α} (h : ∀ x ∈ u, ∀ y ∈ v, lt y x = true) : StEq lt (u ++ v) (v ++ u) := by
  intro c
  rw [List.filter_append, List.filter_append]
  by_cases hu : ∃ x ∈ u, eqv lt c x = true
  · obtain ⟨x, hx, hc⟩ := hu
    have : v.filter (eqv lt c) = [] := by
      rw [List.filter_eq_nil_iff]
      intro y hy hcy
      have h1 := eqv_iff.1 hc
      have h2 := eqv_iff.1 hcy
      have h3 := h x hx y hy
      rcases ho.ntrans y c x h3 with h4 | h4
      · rw [h2.2] at h4; cases h4
      · rw [h1.1] at h4; cases h4
    rw [this]; simp
  · have : u.filter (eqv lt c) = [] := by
      rw [List.filter_eq_nil_iff]
      intro x hx hc
      exact hu ⟨x, hx, hc⟩
    rw [this]; simp
theorem uniq (ho : Ord lt) : ∀ {l m : List α}, Sorted lt l → Sorted lt m → StEq lt l m → l = m
  | [], [], _, _, _ => rfl
  | [], b :: t, _, _, h => by have := h.symm.mem ho (List.mem_cons_self (a := b) (l := t)); simp at this
  | a :: t, [], _, _, h => by have := h.mem ho (List.mem_cons_self (a := a) (l := t)); simp at this
  | a :: t, b :: t', hl, hm, h => by
    have ha : a ∈ b :: t' := h.mem ho (List.mem_cons_self ..)
    have hb : b ∈ a :: t := h.symm.mem ho (List.mem_cons_self ..)
    have h1 : lt a b = false := by
      rcases List.mem_cons.1 ha with rfl | ha
      · exact ho.irr _
      · exact (List.pairwise_cons.1 hm).1 a ha
    have h2 : lt b a = false := by
      rcases List.mem_cons.1 hb with rfl | hb
      · exact ho.irr _
      · exact (List.pairwise_cons.1 hl).1 b hb
    have e1 : eqv lt a a = true := eqv_self ho a
    have e2 : eqv lt a b = true := eqv_iff.2 ⟨h1, h2⟩
    have h3 := h a
    rw [List.filter_cons_of_pos e1, List.filter_cons_of_pos e2] at h3
    obtain rfl : a = b := (List.cons.inj h3).1
    have : t = t' := uniq ho (List.pairwise_cons.1 hl).2 (List.pairwise_cons.1 hm).2 fun x => by
      have h4 := h x
      by_cases hx : eqv lt x a = true
      · rw [List.filter_cons_of_pos hx, List.filter_cons_of_pos hx] at h4
        exact (List.cons.inj h4).2
      · rw [List.filter_cons_of_neg hx, List.filter_cons_of_neg hx] at h4
        exact h4
    rw [this]
/-! ### The sorted list -/
def ins (lt : α → α → Bool) (x : α) : List α → List α
  | [] => [x]
  | y :: t => if lt y x then y :: ins lt x t else x :: y :: t
def sortS (lt : α → α → Bool) (l : List α) : List α := l.foldr (ins lt) []
theorem ins_mem {x z : α} : ∀ {l : List α}, z ∈ ins lt x l ↔ z = x ∨ z ∈ l
  | [] => by simp [ins]
  | y :: t => by
    unfold ins
    split
    · rw [List.mem_cons, ins_mem, List.mem_cons]
      constructor
      · rintro (h | h | h)
        · exact .inr (.inl h)
        · exact .inl h
        · exact .inr (.inr h)
      · rintro (h | h | h)
        · exact .inr (.inl h)
        · exact .inl h
        · exact .inr (.inr h)
    · simp
theorem ins_sorted (ho : Ord lt) (x : α) : ∀ {l : List α}, Sorted lt l → Sorted lt (ins lt x l)
  | [], _ => by simp [ins, Sorted]
  | y :: t, h => by
    have h' := List.pairwise_cons.1 h
    unfold ins
    split
    · rename_i hy
      refine List.pairwise_cons.2 ⟨fun z hz => ?_, ins_sorted ho x h'.2⟩
      rcases ins_mem.1 hz with rfl | hz
      · exact ho.asym _ _ hy
      · exact h'.1 z hz
    · rename_i hy
      have hy : lt y x = false := by simpa using hy
      refine List.pairwise_cons.2 ⟨fun z hz => ?_, h⟩
      rcases List.mem_cons.1 hz with rfl | hz
      · exact hy
      · exact ho.le_trans hy (h'.1 z hz)
theorem ins_steq (ho : Ord lt) (x : α) : ∀ l : List α, StEq lt (ins lt x l) (x :: l)
  | [] => .refl _
  | y :: t => by
    unfold ins
    split
    · rename_i hy
      have h1 : StEq lt ([y] ++ ins lt x t) ([y] ++ (x :: t)) := StEq.app (.refl _) (ins_steq ho x t)
      refine h1.trans ?_
      have h2 : StEq lt ([y] ++ [x]) ([x] ++ [y]) := (StEq.swap ho (u := [x]) (v := [y]) (by simpa using hy)).symm
      have := StEq.app h2 (.refl t)
      simpa using this
    · exact .refl _
theorem sortS_sorted (ho : Ord lt) : ∀ l : List α, Sorted lt (sortS lt l)
  | [] => List.Pairwise.nil
  | x :: l => ins_sorted ho x (sortS_sorted ho l)
theorem sortS_steq (ho : Ord lt) : ∀ l : List α, StEq lt (sortS lt l) l
  | [] => .refl _
  | x :: l => (ins_steq ho x _).trans (StEq.app (l := [x]) (.refl _) (sortS_steq ho l))
theorem ins_len (x : α) : ∀ l : List α, (ins lt x l).length = l.length + 1
  | [] => rfl
  | y :: t => by unfold ins; split <;> simp [ins_len x t]
theorem sortS_len : ∀ l : List α, (sortS lt l).length = l.length
  | [] => rfl
  | x :: l => by
    show (ins lt x (sortS lt l)).length = _
    rw [ins_len, sortS_len l]; rfl
theorem sortS_mem (ho : Ord lt) {l : List α} {x : α} : x ∈ sortS lt l ↔ x ∈ l := (sortS_steq ho l).mem_iff ho
theorem sortS_eq (ho : Ord lt) {l m : List α} (h1 : Sorted lt m) (h2 : StEq lt m l) : sortS lt l = m := uniq ho (sortS_sorted ho l) h1 ((sortS_steq ho l).trans h2.symm)
theorem sortS_self (ho : Ord lt) {l : List α} (h : Sorted lt l) : sortS lt l = l := sortS_eq ho h (.refl _)
theorem Sorted.app {l m : List α} (hl : Sorted lt l) (hm : Sorted lt m) (h : ∀ x ∈ l, ∀ y ∈ m, lt y x = false) : Sorted lt (l ++ m) := List.pairwise_append.2 ⟨hl, hm, h⟩
theorem Sorted.left {l m : List α} (h : Sorted lt (l ++ m)) : Sorted lt l := (List.pairwise_append.1 h).1
theorem Sorted.right {l m : List α} (h : Sorted lt (l ++ m)) : Sorted lt m := (List.pairwise_append.1 h).2.1
theorem Sorted.cross {l m : List α} (h : Sorted lt (l ++ m)) : ∀ x ∈ l, ∀ y ∈ m, lt y x = false := (List.pairwise_append.1 h).2.2
/-- Insertion: what stands behind is all greater, what stands ahead is not. -/
theorem insert_eq (ho : Ord lt) {A B l : List α} {x : α} (hS : A ++ B = sortS lt l) (hB : ∀ y ∈ B, lt x y = true) (hA : ∀ y ∈ A, lt x y = false) : A ++ x :: B = sortS lt (l ++ [x]) := by
  refine (sortS_eq ho ?_ ?_).symm
  · have hs := sortS_sorted ho l
    rw [← hS] at hs
    refine Sorted.app hs.left (List.pairwise_cons.2 ⟨fun y hy => ho.asym _ _ (hB y hy), hs.right⟩) ?_
    intro y hy z hz
    rcases List.mem_cons.1 hz with rfl | hz
    · exact hA y hy
    · exact hs.cross y hy z hz
  · have h1 : StEq lt (x :: B) (B ++ [x]) := (StEq.swap ho (u := B) (v := [x]) (by simpa using hB)).symm
    have h2 : StEq lt (A ++ x :: B) ((A ++ B) ++ [x]) := by rw [List.append_assoc]; exact StEq.app (.refl A) h1
    refine h2.trans (StEq.app ?_ (.refl _))
    rw [hS]
    exact sortS_steq ho l
/-! ### Merging -/
theorem sym_ok (ho : Ord lt) {A U V B : List α} (h1 : Sorted lt (A ++ U)) (h2 : Sorted lt (V ++ B)) (h3 : ∀ u ∈ U, ∀ v ∈ V, lt v u = true) (h4 : ∀ x ∈ A, ∀ y ∈ B, lt y x = false) :
    sortS lt (A ++ V) ++ sortS lt (U ++ B) = sortS lt ((A ++ U) ++ (V ++ B)) := by
  refine (sortS_eq ho ?_ ?_).symm
  · refine Sorted.app (sortS_sorted ho _) (sortS_sorted ho _) fun x hx y hy => ?_
    rw [sortS_mem ho, List.mem_append] at hx hy
    rcases hx with hx | hx <;> rcases hy with hy | hy
    · exact h1.cross x hx y hy
    · exact h4 x hx y hy
    · exact ho.asym _ _ (h3 y hy x hx)
    · exact h2.cross x hx y hy
  · refine (StEq.app (sortS_steq ho _) (sortS_steq ho _)).trans ?_
    have := StEq.app (StEq.app (.refl A) (StEq.swap ho h3).symm) (.refl B)
    simpa [List.append_assoc] using this
theorem Sorted.get (h : Sorted lt l) {i j : Nat} (hi : i < j) {x y : α} (hx : l[i]? = some x) (hy : l[j]? = some y) : lt y x = false := by
  obtain ⟨h1, rfl⟩ := List.getElem?_eq_some_iff.1 hx
  obtain ⟨h2, rfl⟩ := List.getElem?_eq_some_iff.1 hy
  exact List.pairwise_iff_getElem.1 h i j h1 h2 hi
theorem Sorted.get_le (ho : Ord lt) (h : Sorted lt l) {i j : Nat} (hi : i ≤ j) {x y : α} (hx : l[i]? = some x) (hy : l[j]? = some y) : lt y x = false := by
  rcases Nat.lt_or_ge i j with h1 | h1
  · exact h.get h1 hx hy
  · obtain rfl : i = j := by omega
    rw [hx] at hy; cases hy
    exact ho.irr _
/-- Two sorted lists, cut where the search ended. -/
theorem merge_cut (ho : Ord lt) {X Y : List α} (hX : Sorted lt X) (hY : Sorted lt Y) {s e : Nat} (hs : s ≤ X.length) (he : e ≤ Y.length)
    (hu : s = X.length ∨ e = 0 ∨ ∃ x y, X[s]? = some x ∧ Y[e - 1]? = some y ∧ lt y x = true) (hl : s = 0 ∨ e = Y.length ∨ ∃ x y, X[s - 1]? = some x ∧ Y[e]? = some y ∧ lt y x = false) :
    sortS lt (X.take s ++ Y.take e) ++ sortS lt (X.drop s ++ Y.drop e) = sortS lt (X ++ Y) := by
  have key := sym_ok ho (A := X.take s) (U := X.drop s) (V := Y.take e) (B := Y.drop e) (by rw [List.take_append_drop]; exact hX) (by rw [List.take_append_drop]; exact hY) ?_ ?_
  · rwa [List.take_append_drop, List.take_append_drop] at key
  · intro u hu' v hv'
    obtain ⟨i, hi⟩ := List.getElem?_of_mem hu'
    obtain ⟨j, hj⟩ := List.getElem?_of_mem hv'
    rw [List.getElem?_drop] at hi
    have hj' := (List.getElem?_eq_some_iff.1 hj).1
    simp only [List.length_take] at hj'
    rw [List.getElem?_take, if_pos (by omega)] at hj
    have hi' := (List.getElem?_eq_some_iff.1 hi).1
    rcases hu with h | h | ⟨x, y, hx, hy, h⟩
    · omega
    · omega
    · have h5 := hX.get_le ho (show s ≤ s + i by omega) hx hi
      have h6 := hY.get_le ho (show j ≤ e - 1 by omega) hj hy
      exact ho.lt_le (ho.le_lt h6 h) h5
  · intro x hx' y hy'
    obtain ⟨i, hi⟩ := List.getElem?_of_mem hx'
    obtain ⟨j, hj⟩ := List.getElem?_of_mem hy'
    rw [List.getElem?_drop] at hj
    have hi' := (List.getElem?_eq_some_iff.1 hi).1
    simp only [List.length_take] at hi'
    rw [List.getElem?_take, if_pos (by omega)] at hi
    have hj' := (List.getElem?_eq_some_iff.1 hj).1
    rcases hl with h | h | ⟨x0, y0, hx, hy, h⟩
    · omega
    · omega
    · have h5 := hX.get_le ho (show i ≤ s - 1 by omega) hi hx
      have h6 := hY.get_le ho (show e ≤ e + j by omega) hy hj
      exact ho.le_trans h5 (ho.le_trans h h6)
/-- One element into a sorted list, at the first place that is not ahead of it. -/
theorem merge_one (ho : Ord lt) {x : α} {Y : List α} (hY : Sorted lt Y) {e : Nat} (he : e ≤ Y.length) (hu : e = 0 ∨ ∃ y, Y[e - 1]? = some y ∧ lt y x = true) (hl : e = Y.length ∨ ∃ y, Y[e]? = some y ∧ lt y x = false) :
    Y.take e ++ x :: Y.drop e = sortS lt (x :: Y) := by
  have key := merge_cut ho (X := [x]) (s := 0) (by simp [Sorted]) hY (by simp) he (by rcases hu with h | ⟨y, h1, h2⟩; exact .inr (.inl h); exact .inr (.inr ⟨x, y, rfl, h1, h2⟩)) (.inl rfl)
  have h1 : Sorted lt (Y.take e) := by have := hY; rw [← List.take_append_drop e Y] at this; exact this.left
  have h2 : Sorted lt (x :: Y.drop e) := by
    have h3 : Sorted lt (Y.drop e) := by have := hY; rw [← List.take_append_drop e Y] at this; exact this.right
    refine List.pairwise_cons.2 ⟨fun y hy => ?_, h3⟩
    obtain ⟨j, hj⟩ := List.getElem?_of_mem hy
    rw [List.getElem?_drop] at hj
    rcases hl with h | ⟨y0, hy0, h⟩
    · have := (List.getElem?_eq_some_iff.1 hj).1; omega
    · exact ho.le_trans h (hY.get_le ho (Nat.le_add_right _ _) hy0 hj)
  simp only [List.take_zero, List.nil_append, List.drop_zero, List.singleton_append] at key
  rw [sortS_self ho h1, sortS_self ho h2] at key
  exact key
/-- The last element into a sorted list, at the first place that it is ahead of. -/
theorem merge_last (ho : Ord lt) {x : α} {X : List α} (hX : Sorted lt X) {s : Nat} (hs : s ≤ X.length) (hu : s = X.length ∨ ∃ y, X[s]? = some y ∧ lt x y = true) (hl : s = 0 ∨ ∃ y, X[s - 1]? = some y ∧ lt x y = false) :
    X.take s ++ x :: X.drop s = sortS lt (X ++ [x]) := by
  refine insert_eq ho (by rw [List.take_append_drop, sortS_self ho hX]) (fun y hy => ?_) fun y hy => ?_
  · obtain ⟨j, hj⟩ := List.getElem?_of_mem hy
    rw [List.getElem?_drop] at hj
    rcases hu with h | ⟨y0, h1, h2⟩
    · have := (List.getElem?_eq_some_iff.1 hj).1; omega
    · exact ho.lt_le h2 (hX.get_le ho (Nat.le_add_right _ _) h1 hj)
  · obtain ⟨j, hj⟩ := List.getElem?_of_mem hy
    have hj' := (List.getElem?_eq_some_iff.1 hj).1
    simp only [List.length_take] at hj'
    rw [List.getElem?_take, if_pos (by omega)] at hj
    rcases hl with h | ⟨y0, h1, h2⟩
    · omega
    · exact ho.le_trans (hX.get_le ho (show j ≤ s - 1 by omega) hj h1) h2
/-! ### All blocks sorted -/
def Blocks (lt : α → α → Bool) (s : Nat) (l : List α) : Prop := ∀ k, Sorted lt ((l.drop (k * s)).take s)
theorem Blocks.all {s : Nat} {l : List α} (h : Blocks lt s l) (hs : l.length ≤ s) : Sorted lt l := by
  have := h 0
  rwa [Nat.zero_mul, List.drop_zero, List.take_of_length_le hs] at this
end St
end Go.Proofs.Ytcdnbefcccdaeaa
namespace Go.Proofs.Ytcdnbefcccdaeaa
open Go.Proofs.YtcdnbefcccdaeaaAw Go.RowKit
set_option linter.unusedVariables false
set_option linter.unusedSimpArgs false
structure Tri {α : Type} (c : α → α → Int) : Prop where
  anti : ∀ x y, c x y < 0 ↔ 0 < c y x
  ntrans : ∀ x y z, c x z < 0 → c x y < 0 ∨ c y z < 0
def ltT {α : Type} (c : α → α → Int) (x y : α) : Bool := decide (c x y < 0)
theorem Tri.ord {α : Type} {c : α → α → Int} (h : Tri c) : St.Ord (ltT c) where
  asym x y hx := by
    simp only [ltT, decide_eq_true_eq, decide_eq_false_iff_not] at hx ⊢
    have := (h.anti x y).1 hx
    omega
  ntrans x y z hx := by
    simp only [ltT, decide_eq_true_eq] at hx ⊢
    exact h.ntrans x y z hx
theorem Tri.zero {α : Type} {c : α → α → Int} (h : Tri c) (x y : α) : c x y = 0 ↔ c y x = 0 := by
  have h1 := h.anti x y
  have h2 := h.anti y x
  omega
theorem Tri.self {α : Type} {c : α → α → Int} (h : Tri c) (x : α) : c x x = 0 := by
  have h1 := h.anti x x
  omega
theorem Tri.le_trans {α : Type} {c : α → α → Int} (h : Tri c) {x y z : α} (h1 : c x y ≤ 0) (h2 : c y z ≤ 0) : c x z ≤ 0 := by
  have a1 := h.anti y x
  have a2 := h.anti z y
  have a3 := h.anti z x
  have := h.ntrans z y x
  omega
theorem Tri.zero_trans {α : Type} {c : α → α → Int} (h : Tri c) {x y z : α} (h1 : c x y = 0) (h2 : c y z = 0) : c x z = 0 := by
  have a1 := h.le_trans (x := x) (y := y) (z := z) (by omega) (by omega)
  have a2 := h.le_trans (x := z) (y := y) (z := x) (by have := (h.zero y z).1 h2; omega) (by have := (h.zero x y).1 h1; omega)
  have a3 := h.anti x z
  have a4 := h.anti z x
  omega
/-- First by the one, then, where it tells nothing, by the other. -/
theorem Tri.lex {α : Type} {c d e : α → α → Int} (h : Tri c) (h1 : ∀ x y, c x y ≠ 0 → e x y = c x y) (h2 : ∀ x y, c x y = 0 → e x y = d x y) (da : ∀ x y, c x y = 0 → (d x y < 0 ↔ 0 < d y x)) (dn : ∀ x y z, c x y = 0 → c y z = 0 → d x z < 0 → d x y < 0 ∨ d y z < 0) : Tri e where
  anti x y := by
    by_cases hc : c x y = 0
    · rw [h2 x y hc, h2 y x ((h.zero x y).1 hc)]
      exact da x y hc
    · rw [h1 x y hc, h1 y x fun h0 => hc ((h.zero x y).2 h0)]
      exact h.anti x y
  ntrans x y z hx := by
    by_cases hxy : c x y = 0
    · by_cases hyz : c y z = 0
      · have hxz := h.zero_trans hxy hyz
        rw [h2 x z hxz] at hx
        rw [h2 x y hxy, h2 y z hyz]
        exact dn x y z hxy hyz hx
      · have hxz : c x z ≠ 0 := fun h0 => hyz (h.zero_trans ((h.zero x y).1 hxy) h0)
        rw [h1 x z hxz] at hx
        rw [h1 y z hyz]
        rcases h.ntrans x y z hx with h3 | h3
        · omega
        · exact .inr h3
    · by_cases hyz : c y z = 0
      · have hxz : c x z ≠ 0 := fun h0 => hxy (h.zero_trans h0 ((h.zero y z).1 hyz))
        rw [h1 x z hxz] at hx
        rw [h1 x y hxy]
        rcases h.ntrans x y z hx with h3 | h3
        · exact .inl h3
        · omega
      · rw [h1 x y hxy, h1 y z hyz]
        by_cases hxz : c x z = 0
        · have a1 := h.anti x y
          have a2 := h.anti y x
          have a3 := h.anti y z
          have a4 := h.anti z y
          have n1 := h.ntrans y x z
          have n2 := h.ntrans y z x
          have n3 := h.ntrans z x y
          have z1 := (h.zero x z).1 hxz
          omega
        · rw [h1 x z hxz] at hx
          exact h.ntrans x y z hx
theorem ordI_tri {α : Type} {lt : α → α → Bool} {c : α → α → Int} (ho : St.Ord lt) (h1 : ∀ x y, lt x y = true → c x y < 0) (h2 : ∀ x y, lt x y = false → lt y x = true → 0 < c x y) (h3 : ∀ x y, lt x y = false → lt y x = false → c x y = 0) : Tri c where
  anti x y := by
    cases hx : lt x y with
    | true => have := h1 x y hx; have := h2 y x (ho.asym x y hx) hx; omega
    | false =>
      cases hy : lt y x with
      | true => have := h1 y x hy; have := h2 x y hx hy; omega
      | false => have := h3 x y hx hy; have := h3 y x hy hx; omega
  ntrans x y z hx := by
    have hl : lt x z = true := by
      cases e : lt x z with
      | true => rfl
      | false =>
        cases e2 : lt z x with
        | true => have := h2 x z e e2; omega
        | false => have := h3 x z e e2; omega
    rcases ho.ntrans x y z hl with h | h
    · exact .inl (h1 x y h)
    · exact .inr (h1 y z h)
theorem cmpI_tri : Tri cmpI where
  anti x y := by
    unfold cmpI ordI
    by_cases h1 : x < y <;> by_cases h2 : y < x <;> simp [h1, h2] <;> omega
  ntrans x y z := by
    unfold cmpI ordI
    by_cases h1 : x < y <;> by_cases h2 : y < x <;> by_cases h3 : y < z <;> by_cases h4 : z < y <;> by_cases h5 : x < z <;> by_cases h6 : z < x <;> simp [h1, h2, h3, h4, h5, h6] <;> omega
theorem cmpI_zero {a b : Int} : cmpI a b = 0 ↔ a = b := by
  unfold cmpI ordI
  by_cases h1 : a < b <;> by_cases h2 : b < a <;> simp [h1, h2] <;> omega
theorem cmpI_neg {a b : Int} : cmpI a b < 0 ↔ a < b := by
  unfold cmpI ordI
  by_cases h1 : a < b <;> by_cases h2 : b < a <;> simp [h1, h2] <;> omega
theorem cmpF_eq (a b : Nat) : cmpF a b = cmpI (keyN a) (keyN b) := by
  unfold cmpF cmpI ordI
  simp [Int.ofNat_lt]
theorem bytesLess_irr : ∀ l : List UInt8, Op.bytesLess l l = false
  | [] => rfl
  | a :: l => by simp [Op.bytesLess, bytesLess_irr l]
theorem bytesLess_asym : ∀ l m : List UInt8, Op.bytesLess l m = true → Op.bytesLess m l = false
  | _, [], h => by simp [Op.bytesLess] at h
  | [], _ :: _, _ => rfl
  | a :: l, b :: m, h => by
    simp only [Op.bytesLess, Bool.or_eq_true, decide_eq_true_eq, Bool.and_eq_true, beq_iff_eq] at h
    simp only [Op.bytesLess, Bool.or_eq_false_iff, decide_eq_false_iff_not, Bool.and_eq_false_iff, beq_eq_false_iff_ne]
    rcases h with h | ⟨rfl, h⟩
    · exact ⟨fun h2 => UInt8.lt_asymm h h2, .inl fun e => by subst e; exact UInt8.lt_irrefl _ h⟩
    · exact ⟨UInt8.lt_irrefl _, .inr (bytesLess_asym l m h)⟩
theorem bytesLess_tri : ∀ l m : List UInt8, Op.bytesLess l m = false → Op.bytesLess m l = false → l = m
  | [], [], _, _ => rfl
  | [], _ :: _, h, _ => by simp [Op.bytesLess] at h
  | _ :: _, [], _, h => by simp [Op.bytesLess] at h
  | a :: l, b :: m, h1, h2 => by
    simp only [Op.bytesLess, Bool.or_eq_false_iff, decide_eq_false_iff_not, Bool.and_eq_false_iff, beq_eq_false_iff_ne] at h1 h2
    have e : a = b := UInt8.le_antisymm (UInt8.not_lt.1 h2.1) (UInt8.not_lt.1 h1.1)
    subst e
    rcases h1.2 with h | h
    · exact absurd rfl h
    · rcases h2.2 with g | g
      · exact absurd rfl g
      · rw [bytesLess_tri l m h g]
theorem bytesLess_trans : ∀ l m n : List UInt8, Op.bytesLess l m = true → Op.bytesLess m n = true → Op.bytesLess l n = true
  | _, _, [], _, h => by simp [Op.bytesLess] at h
  | [], _, _ :: _, _, _ => rfl
  | _ :: _, [], _ :: _, h, _ => by simp [Op.bytesLess] at h
  | a :: l, b :: m, c :: n, h1, h2 => by
    simp only [Op.bytesLess, Bool.or_eq_true, decide_eq_true_eq, Bool.and_eq_true, beq_iff_eq] at h1 h2 ⊢
    rcases h1 with h1 | ⟨rfl, h1⟩
    · rcases h2 with h2 | ⟨rfl, h2⟩
      · exact .inl (UInt8.lt_trans h1 h2)
      · exact .inl h1
    · rcases h2 with h2 | ⟨rfl, h2⟩
      · exact .inl h2
      · exact .inr ⟨rfl, bytesLess_trans l m n h1 h2⟩
theorem lessS_ord : St.Ord lessS where
  asym x y h := bytesLess_asym _ _ h
  ntrans x y z h := by
    unfold lessS at *
    cases h1 : Op.bytesLess x.toList y.toList with
    | true => exact .inl rfl
    | false =>
      right
      cases h2 : Op.bytesLess y.toList x.toList with
      | true => exact bytesLess_trans _ _ _ h2 h
      | false => rw [← bytesLess_tri _ _ h1 h2]; exact h
theorem cmpS_tri : Tri cmpS := by
  refine ordI_tri lessS_ord (fun x y h => ?_) (fun x y h g => ?_) fun x y h g => ?_
  · unfold cmpS ordI; simp [h]
  · unfold cmpS ordI
    have : (x.toList == y.toList) = false := by
      rw [beq_eq_false_iff_ne]
      intro e
      unfold lessS at g
      rw [e, bytesLess_irr] at g; cases g
    simp [h, this]
  · unfold cmpS ordI
    have e := bytesLess_tri _ _ h g
    simp [h, e]
theorem cmpS_zero {a b : ByteArray} : cmpS a b = 0 ↔ a = b := by
  unfold cmpS ordI
  constructor
  · intro h
    cases h1 : lessS a b with
    | true => simp [h1] at h
    | false =>
      simp only [h1, Bool.false_eq_true, if_false, Bool.false_or] at h
      cases h2 : a.toList == b.toList with
      | false => simp [h2] at h
      | true => exact toList_inj (by simpa using h2)
  · rintro rfl
    have : lessS a a = false := bytesLess_irr _
    simp [this]
def keyV (v : Val) : Int := keyN (toU v.i)
theorem Tri.comap {α β : Type} {c : α → α → Int} (h : Tri c) (f : β → α) : Tri (fun x y => c (f x) (f y)) := ⟨fun x y => h.anti _ _, fun x y z => h.ntrans _ _ _⟩
/-- What is asked of two values of one kind. -/
def cmpK (k : Int) (a b : Val) : Int := if k = 1 then cmpI a.i b.i else if k = 2 then cmpI (keyV a) (keyV b) else if k = 3 then cmpS a.s b.s else 0
theorem cmpV_eq (a b : Val) : cmpV a b = if cmpI a.kind b.kind ≠ 0 then cmpI a.kind b.kind else cmpK a.kind a b := by
  unfold cmpV cmpK
  simp only [cmpF_eq, ← show ∀ v : Val, keyV v = keyN (toU v.i) from fun _ => rfl]
  by_cases h : a.kind = b.kind
  · simp [h, cmpI_zero]
  · simp [h, cmpI_zero]
theorem zero_tri {α : Type} : Tri (fun _ _ : α => (0 : Int)) := ⟨fun _ _ => by simp, fun _ _ _ h => by simp at h⟩
theorem cmpK_tri (k : Int) : Tri (cmpK k) := by
  by_cases k1 : k = 1
  · have : cmpK k = fun a b => cmpI a.i b.i := by funext a b; unfold cmpK; rw [if_pos k1]
    rw [this]; exact cmpI_tri.comap Val.i
  · by_cases k2 : k = 2
    · have : cmpK k = fun a b => cmpI (keyV a) (keyV b) := by funext a b; unfold cmpK; rw [if_neg k1, if_pos k2]
      rw [this]; exact cmpI_tri.comap keyV
    · by_cases k3 : k = 3
      · have : cmpK k = fun a b => cmpS a.s b.s := by funext a b; unfold cmpK; rw [if_neg k1, if_neg k2, if_pos k3]
        rw [this]; exact cmpS_tri.comap Val.s
      · have : cmpK k = fun a b => 0 := by funext a b; unfold cmpK; rw [if_neg k1, if_neg k2, if_neg k3]
        rw [this]; exact zero_tri
theorem cmpV_tri : Tri cmpV := by
  refine Tri.lex (c := fun a b => cmpI a.kind b.kind) (d := fun a b => cmpK a.kind a b) (cmpI_tri.comap Val.kind) (fun x y h => by rw [cmpV_eq, if_pos h]) (fun x y h => by rw [cmpV_eq, if_neg (by simpa using h)]) (fun x y h => ?_) fun x y z h1 h2 => ?_
  · have h := cmpI_zero.1 h
    rw [h]
    exact (cmpK_tri _).anti x y
  · have h1 := cmpI_zero.1 h1
    rw [h1]
    exact (cmpK_tri _).ntrans x y z
end Go.Proofs.Ytcdnbefcccdaeaa

/- bits.Unpack: what it does. -/
import Derived.Test.YtcdnbefcccdaeaaRead
namespace Go.Proofs.Ytcdnbefcccdaeaa
open Go.Proofs.YtcdnbefcccdaeaaAw Go.RowKit
set_option linter.unusedVariables false
set_option linter.unusedSimpArgs false
def partP (b : List Nat) (w k : Nat) : Nat := byteOf (((bitsB b).drop (k * w)).take w)
def unpackL (b : List Nat) (n w : Nat) : List Nat := (List.range n).map (partP b w)
theorem unpackL_len (b : List Nat) (n w : Nat) : (unpackL b n w).length = n := by simp [unpackL]
theorem unpackL_succ (b : List Nat) (n w : Nat) : unpackL b (n + 1) w = unpackL b n w ++ [partP b w n] := by simp [unpackL, List.range_succ]
def unpackE (b : List Nat) (n w : Nat) : Int := if 8 * b.length < n * w then 3 else if n * w + 8 ≤ 8 * b.length then 4 else if byteOf ((bitsB b).drop (n * w)) = 0 then 0 else 4
def unpackA (b : List Nat) (n w : Nat) : AV := if unpackE b n w = 0 then .d (.list false (us (unpackL b n w))) else .d (.v (.slice none 0 0))
set_option maxRecDepth 10000 in
set_option maxHeartbeats 1000000 in
theorem unpack_does (b : List Nat) (n w : Nat) (nn : Bool) (hl : b.length ≤ 140737488351232) (hb : ∀ c ∈ b, c < 256) (hn : n ≤ 1048576) (hw : w ≤ 64) (H : AHeap) :
    Does Try.prog 32 [.d (.list nn (bys b)), iA n, iA w] H (.ok (.tup [unpackA b n w, iA (unpackE b n w)])) H := by
  have hnw : n * w ≤ 1048576 * 64 := Nat.mul_le_mul hn hw
  have c1 : ((n : Int) < 0) = False := eq_false (by omega)
  have c2 : ((1048576 : Int) < (n : Int)) = False := eq_false (by omega)
  have c3 : ((w : Int) < 0) = False := eq_false (by omega)
  have c4 : ((64 : Int) < (w : Int)) = False := eq_false (by omega)
  refine Does.of_awp (hint := (fun _ => false)) Try.func32 (by kernel_rfl) rfl [6, 7] (by kernel_rfl) (by decide) (by simp [Try.ntmps32]) ?_
  rw [Try.ntmps32]
  simp (implicitDefEqProofs := false) only [↓reduceIte, go_sem, oread, owrite, Nat.reduceAdd, Nat.reduceSub, Nat.reduceMul, Nat.reduceLT, Nat.reduceLeDiff, Nat.reduceEqDiff, Nat.reduceBEq, Int.reduceLE, Int.reduceLT, Int.reduceEq, Int.reduceNe, Int.reduceAdd, Int.reduceSub, Int.reduceMul, Int.reduceNeg, Int.reduceToNat, Int.reduceNatCast, reduceCtorEq, eq_self, c1, c2, c3, c4]
  refine KCall.ok (from_does b nn hl H) ?_
  simp (implicitDefEqProofs := false) only [↓reduceIte, go_sem, oread, owrite, Nat.reduceAdd, Nat.reduceSub, Nat.reduceMul, Nat.reduceLT, Nat.reduceLeDiff, Nat.reduceEqDiff, Nat.reduceBEq, Int.reduceLE, Int.reduceLT, Int.reduceEq, Int.reduceNe, Int.reduceAdd, Int.reduceSub, Int.reduceMul, Int.reduceNeg, Int.reduceToNat, Int.reduceNatCast, reduceCtorEq, eq_self]
  refine KCall.ok (left_does b 0 hl (by omega) H []) ?_
  have e1 : IntKind.i64.wrap ((n : Int) * (w : Int)) = ((n * w : Nat) : Int) := by rw [← Int.natCast_mul]; exact wrap64_in _ (by omega) (by omega)
  obtain ⟨r, hr⟩ : ∃ r : Int, r = ((8 * b.length : Nat) : Int) - ((n * w : Nat) : Int) := ⟨_, rfl⟩
  have e2 : IntKind.i64.wrap (((8 * b.length - 0 : Nat) : Int) - ((n * w : Nat) : Int)) = r := by rw [Nat.sub_zero, hr]; exact wrap64_in _ (by omega) (by omega)
  generalize hN : n * w = N at *
  generalize hM : 8 * b.length - 0 = M at *
  simp (implicitDefEqProofs := false) only [↓reduceIte, go_sem, oread, owrite, Nat.reduceAdd, Nat.reduceSub, Nat.reduceMul, Nat.reduceLT, Nat.reduceLeDiff, Nat.reduceEqDiff, Nat.reduceBEq, Int.reduceLE, Int.reduceLT, Int.reduceEq, Int.reduceNe, Int.reduceAdd, Int.reduceSub, Int.reduceMul, Int.reduceNeg, Int.reduceToNat, Int.reduceNatCast, reduceCtorEq, eq_self, e1, e2]
  by_cases h1 : r < 0
  · have hE : unpackE b n w = 3 := by unfold unpackE; rw [hN, if_pos (by omega)]
    simp (implicitDefEqProofs := false) only [↓reduceIte, go_sem, oread, owrite, Nat.reduceAdd, Nat.reduceSub, Nat.reduceMul, Nat.reduceLT, Nat.reduceLeDiff, Nat.reduceEqDiff, Nat.reduceBEq, Int.reduceLE, Int.reduceLT, Int.reduceEq, Int.reduceNe, Int.reduceAdd, Int.reduceSub, Int.reduceMul, Int.reduceNeg, Int.reduceToNat, Int.reduceNatCast, reduceCtorEq, eq_self, h1, unpackA, hE]
    unfold rH
    refine AEnd.ret ?_
    simp (implicitDefEqProofs := false) only [↓reduceIte, go_sem, oread, owrite, Nat.reduceAdd, Nat.reduceSub, Nat.reduceMul, Nat.reduceLT, Nat.reduceLeDiff, Nat.reduceEqDiff, Nat.reduceBEq, Int.reduceLE, Int.reduceLT, Int.reduceEq, Int.reduceNe, Int.reduceAdd, Int.reduceSub, Int.reduceMul, Int.reduceNeg, Int.reduceToNat, Int.reduceNatCast, reduceCtorEq, eq_self]
    simp [unpackA, hE]
  by_cases h2 : 8 ≤ r
  · have hE : unpackE b n w = 4 := by unfold unpackE; rw [hN, if_neg (by omega), if_pos (by omega)]
    simp (implicitDefEqProofs := false) only [↓reduceIte, go_sem, oread, owrite, Nat.reduceAdd, Nat.reduceSub, Nat.reduceMul, Nat.reduceLT, Nat.reduceLeDiff, Nat.reduceEqDiff, Nat.reduceBEq, Int.reduceLE, Int.reduceLT, Int.reduceEq, Int.reduceNe, Int.reduceAdd, Int.reduceSub, Int.reduceMul, Int.reduceNeg, Int.reduceToNat, Int.reduceNatCast, reduceCtorEq, eq_self, h1, h2, unpackA, hE]
    unfold rH
    refine AEnd.ret ?_
    simp (implicitDefEqProofs := false) only [↓reduceIte, go_sem, oread, owrite, Nat.reduceAdd, Nat.reduceSub, Nat.reduceMul, Nat.reduceLT, Nat.reduceLeDiff, Nat.reduceEqDiff, Nat.reduceBEq, Int.reduceLE, Int.reduceLT, Int.reduceEq, Int.reduceNe, Int.reduceAdd, Int.reduceSub, Int.reduceMul, Int.reduceNeg, Int.reduceToNat, Int.reduceNatCast, reduceCtorEq, eq_self]
    simp [unpackA, hE]
  simp (implicitDefEqProofs := false) only [↓reduceIte, go_sem, oread, owrite, Nat.reduceAdd, Nat.reduceSub, Nat.reduceMul, Nat.reduceLT, Nat.reduceLeDiff, Nat.reduceEqDiff, Nat.reduceBEq, Int.reduceLE, Int.reduceLT, Int.reduceEq, Int.reduceNe, Int.reduceAdd, Int.reduceSub, Int.reduceMul, Int.reduceNeg, Int.reduceToNat, Int.reduceNatCast, reduceCtorEq, eq_self, h1, h2]
  refine awp_for (fun k s H' => H' = rH H b (k * w) [.arr 48 1 k (us (unpackL b k w))] ∧ s 2 = iA w ∧ s 8 = .ptr (H.length + 1) 0 0 0 ∧ s 9 = iA r ∧ s 10 = .sl (H.length + 2) k 0 k ∧ s 43 = iA n ∧ s 44 = iA k) n (by omega) (Weak.virt1 _ _ 10 48 1 (by decide) (by simp (implicitDefEqProofs := false) only [↓reduceIte, go_sem, oread, owrite, Nat.reduceAdd, Nat.reduceSub, Nat.reduceMul, Nat.reduceLT, Nat.reduceLeDiff, Nat.reduceEqDiff, Nat.reduceBEq, Int.reduceLE, Int.reduceLT, Int.reduceEq, Int.reduceNe, Int.reduceAdd, Int.reduceSub, Int.reduceMul, Int.reduceNeg, Int.reduceToNat, Int.reduceNatCast, reduceCtorEq, eq_self]) _) ?_ ?_ ?_
  · refine ⟨?_, ?_⟩
    · simp (implicitDefEqProofs := false) only [↓reduceIte, go_sem, oread, owrite, Nat.reduceAdd, Nat.reduceSub, Nat.reduceMul, Nat.reduceLT, Nat.reduceLeDiff, Nat.reduceEqDiff, Nat.reduceBEq, Int.reduceLE, Int.reduceLT, Int.reduceEq, Int.reduceNe, Int.reduceAdd, Int.reduceSub, Int.reduceMul, Int.reduceNeg, Int.reduceToNat, Int.reduceNatCast, reduceCtorEq, eq_self, rH, Nat.zero_mul]
      rfl
    · simp (implicitDefEqProofs := false) only [↓reduceIte, go_sem, oread, owrite, Nat.reduceAdd, Nat.reduceSub, Nat.reduceMul, Nat.reduceLT, Nat.reduceLeDiff, Nat.reduceEqDiff, Nat.reduceBEq, Int.reduceLE, Int.reduceLT, Int.reduceEq, Int.reduceNe, Int.reduceAdd, Int.reduceSub, Int.reduceMul, Int.reduceNeg, Int.reduceToNat, Int.reduceNatCast, reduceCtorEq, eq_self, show (rH H b 0 []).length = H.length + 2 from by simp [rH]]
  · rintro k s H' hk hw2 ⟨rfl, t2, t8, t9, t10, t43, t44⟩
    simp (implicitDefEqProofs := false) only [↓reduceIte, go_sem, oread, owrite, Nat.reduceAdd, Nat.reduceSub, Nat.reduceMul, Nat.reduceLT, Nat.reduceLeDiff, Nat.reduceEqDiff, Nat.reduceBEq, Int.reduceLE, Int.reduceLT, Int.reduceEq, Int.reduceNe, Int.reduceAdd, Int.reduceSub, Int.reduceMul, Int.reduceNeg, Int.reduceToNat, Int.reduceNatCast, reduceCtorEq, eq_self, t2, t8, t43, t44, hk]
    have hkw : k * w + w ≤ n * w := by rw [← Nat.succ_mul]; exact Nat.mul_le_mul_right _ hk
    have hL := unpackL_len b k w
    have hs : unpackL b (k + 1) w = unpackL b k w ++ [byteOf (((bitsB b).drop (k * w)).take w)] := unpackL_succ b k w
    have hkw2 : (k + 1) * w = k * w + w := Nat.succ_mul k w
    refine KCall.ok (rget_does b (k * w) w hl hb (by omega) hw H _) ?_
    rw [hs, hkw2]
    generalize byteOf (((bitsB b).drop (k * w)).take w) = x
    generalize unpackL b k w = L at *
    generalize k * w = at_ at *
    simp (implicitDefEqProofs := false) only [↓reduceIte, go_sem, oread, owrite, Nat.reduceAdd, Nat.reduceSub, Nat.reduceMul, Nat.reduceLT, Nat.reduceLeDiff, Nat.reduceEqDiff, Nat.reduceBEq, Int.reduceLE, Int.reduceLT, Int.reduceEq, Int.reduceNe, Int.reduceAdd, Int.reduceSub, Int.reduceMul, Int.reduceNeg, Int.reduceToNat, Int.reduceNatCast, reduceCtorEq, eq_self, t10, t44, rH, us_len, hL, us_snoc, List.length_singleton]
    refine ⟨by omega, by omega, Rnd.same ⟨?_, ?_⟩⟩
    · simp (implicitDefEqProofs := false) only [↓reduceIte, go_sem, oread, owrite, Nat.reduceAdd, Nat.reduceSub, Nat.reduceMul, Nat.reduceLT, Nat.reduceLeDiff, Nat.reduceEqDiff, Nat.reduceBEq, Int.reduceLE, Int.reduceLT, Int.reduceEq, Int.reduceNe, Int.reduceAdd, Int.reduceSub, Int.reduceMul, Int.reduceNeg, Int.reduceToNat, Int.reduceNatCast, reduceCtorEq, eq_self, rH]
    · simp (implicitDefEqProofs := false) only [↓reduceIte, go_sem, oread, owrite, Nat.reduceAdd, Nat.reduceSub, Nat.reduceMul, Nat.reduceLT, Nat.reduceLeDiff, Nat.reduceEqDiff, Nat.reduceBEq, Int.reduceLE, Int.reduceLT, Int.reduceEq, Int.reduceNe, Int.reduceAdd, Int.reduceSub, Int.reduceMul, Int.reduceNeg, Int.reduceToNat, Int.reduceNatCast, reduceCtorEq, eq_self, t2, t8, t9, t43, t44, hw2]
  · rintro s H' ⟨rfl, t2, t8, t9, t10, t43, t44⟩
    simp (implicitDefEqProofs := false) only [↓reduceIte, go_sem, oread, owrite, Nat.reduceAdd, Nat.reduceSub, Nat.reduceMul, Nat.reduceLT, Nat.reduceLeDiff, Nat.reduceEqDiff, Nat.reduceBEq, Int.reduceLE, Int.reduceLT, Int.reduceEq, Int.reduceNe, Int.reduceAdd, Int.reduceSub, Int.reduceMul, Int.reduceNeg, Int.reduceToNat, Int.reduceNatCast, reduceCtorEq, eq_self, t8, t9, t43, t44]
    have hr3 : r = ((8 * b.length - N : Nat) : Int) := by omega
    rw [hN, hr3]
    refine KCall.ok (rget_does b N (8 * b.length - N) hl hb (by omega) (by omega) H _) ?_
    have htk : ((bitsB b).drop N).take (8 * b.length - N) = (bitsB b).drop N := List.take_of_length_le (by rw [List.length_drop, bitsB_len]; exact Nat.le_refl _)
    rw [htk]
    by_cases h0 : byteOf ((bitsB b).drop N) = 0
    · have hE : unpackE b n w = 0 := by unfold unpackE; rw [hN, if_neg (by omega), if_neg (by omega), if_pos h0]
      rw [h0]
      simp (implicitDefEqProofs := false) only [↓reduceIte, go_sem, oread, owrite, Nat.reduceAdd, Nat.reduceSub, Nat.reduceMul, Nat.reduceLT, Nat.reduceLeDiff, Nat.reduceEqDiff, Nat.reduceBEq, Int.reduceLE, Int.reduceLT, Int.reduceEq, Int.reduceNe, Int.reduceAdd, Int.reduceSub, Int.reduceMul, Int.reduceNeg, Int.reduceToNat, Int.reduceNatCast, reduceCtorEq, eq_self, t10]
      unfold rH
      refine AEnd.ret ?_
      simp (implicitDefEqProofs := false) only [↓reduceIte, go_sem, oread, owrite, Nat.reduceAdd, Nat.reduceSub, Nat.reduceMul, Nat.reduceLT, Nat.reduceLeDiff, Nat.reduceEqDiff, Nat.reduceBEq, Int.reduceLE, Int.reduceLT, Int.reduceEq, Int.reduceNe, Int.reduceAdd, Int.reduceSub, Int.reduceMul, Int.reduceNeg, Int.reduceToNat, Int.reduceNatCast, reduceCtorEq, eq_self, us_len, unpackL_len]
      rw [show (us (unpackL b n w)).take n = us (unpackL b n w) from take_len _ _ (by rw [us_len, unpackL_len])]
      simp [unpackA, hE]
    · have hE : unpackE b n w = 4 := by unfold unpackE; rw [hN, if_neg (by omega), if_neg (by omega), if_neg h0]
      have h0' : (((byteOf ((bitsB b).drop N) : Nat) : Int) = 0) = False := eq_false (by omega)
      simp (implicitDefEqProofs := false) only [↓reduceIte, go_sem, oread, owrite, Nat.reduceAdd, Nat.reduceSub, Nat.reduceMul, Nat.reduceLT, Nat.reduceLeDiff, Nat.reduceEqDiff, Nat.reduceBEq, Int.reduceLE, Int.reduceLT, Int.reduceEq, Int.reduceNe, Int.reduceAdd, Int.reduceSub, Int.reduceMul, Int.reduceNeg, Int.reduceToNat, Int.reduceNatCast, reduceCtorEq, eq_self, h0']
      unfold rH
      refine AEnd.ret ?_
      simp (implicitDefEqProofs := false) only [↓reduceIte, go_sem, oread, owrite, Nat.reduceAdd, Nat.reduceSub, Nat.reduceMul, Nat.reduceLT, Nat.reduceLeDiff, Nat.reduceEqDiff, Nat.reduceBEq, Int.reduceLE, Int.reduceLT, Int.reduceEq, Int.reduceNe, Int.reduceAdd, Int.reduceSub, Int.reduceMul, Int.reduceNeg, Int.reduceToNat, Int.reduceNatCast, reduceCtorEq, eq_self]
      simp [unpackA, hE]
end Go.Proofs.Ytcdnbefcccdaeaa

/- math/bits.Len64: what it does; numbers of bits. -/
import Derived.Test.YtcdnbefcccdaeaaBase
import Derived.Test.YtcdnbefcccdaeaaCmp
import Derived.Test.YtcdnbefcccdaeaaNat
namespace Go.Proofs.Ytcdnbefcccdaeaa
open Go.Proofs.YtcdnbefcccdaeaaAw Go.RowKit
set_option linter.unusedVariables false
set_option linter.unusedSimpArgs false
def lenN (n : Nat) : Nat := if n = 0 then 0 else n.log2 + 1
theorem lenN_le (n w : Nat) : lenN n ≤ w ↔ n < 2 ^ w := by
  unfold lenN
  split
  · subst_vars; simp [Nat.two_pow_pos]
  · rename_i h
    rw [← Nat.log2_lt h]; omega
theorem lenN_div (n k : Nat) (h : 2 ^ k ≤ n) : lenN n = k + lenN (n / 2 ^ k) := by
  have key : ∀ w, lenN n ≤ w ↔ k + lenN (n / 2 ^ k) ≤ w := by
    intro w
    rcases Nat.lt_or_ge w k with hw | hw
    · rw [lenN_le]
      have : 2 ^ w ≤ 2 ^ k := Nat.pow_le_pow_right (by omega) (by omega)
      omega
    · rw [show (k + lenN (n / 2 ^ k) ≤ w) = (lenN (n / 2 ^ k) ≤ w - k) from propext ⟨fun h => by omega, fun h => by omega⟩, lenN_le, lenN_le, Nat.div_lt_iff_lt_mul (Nat.two_pow_pos k), ← Nat.pow_add, Nat.sub_add_cancel hw]
  exact Nat.le_antisymm ((key _).2 (Nat.le_refl _)) ((key _).1 (Nat.le_refl _))
theorem lenN_le64 {n : Nat} (h : n < 18446744073709551616) : lenN n ≤ 64 := (lenN_le n 64).2 h
theorem lenTab : ∀ n, n < 256 → ∀ b : ByteArray, b.data.toList = (List.range 256).map (fun n => UInt8.ofNat (lenN n)) → b[n]? = some (UInt8.ofNat (lenN n)) := by
  intro n hn b hb
  have : b.data[n]? = some (UInt8.ofNat (lenN n)) := by
    rw [← Array.getElem?_toList, hb]; simp [hn]
  obtain ⟨h1, h2⟩ := Array.getElem?_eq_some_iff.1 this
  rw [getElem?_pos b n h1]
  exact congrArg some h2
theorem ofNat_len {n : Nat} (h : n < 256) : (UInt8.ofNat (lenN n)).toNat = lenN n := by
  have : lenN n ≤ 8 := (lenN_le n 8).2 h
  simp; omega
theorem len_small (n : Nat) : (4294967296 ≤ n → lenN n = 32 + lenN (n / 4294967296)) ∧ (65536 ≤ n → lenN n = 16 + lenN (n / 65536)) ∧ (256 ≤ n → lenN n = 8 + lenN (n / 256)) :=
  ⟨lenN_div n 32, lenN_div n 16, lenN_div n 8⟩
set_option maxRecDepth 10000 in
set_option maxHeartbeats 1000000 in
theorem len64_does (n : Nat) (hn : n < 18446744073709551616) (H : AHeap) : Does Try.prog 43 [du n] H (.ok (iA (lenN n))) H := by
  have s32 : ∀ n : Nat, shrI .u64 (n : Int) 32 = ((n / 4294967296 : Nat) : Int) := fun n => shrU n 32 (by decide)
  have s16 : ∀ n : Nat, shrI .u64 (n : Int) 16 = ((n / 65536 : Nat) : Int) := fun n => shrU n 16 (by decide)
  have s8 : ∀ n : Nat, shrI .u64 (n : Int) 8 = ((n / 256 : Nat) : Int) := fun n => shrU n 8 (by decide)
  have w48 : IntKind.i64.wrap 48 = 48 := rfl
  have w56 : IntKind.i64.wrap 56 = 56 := rfl
  have w40 : IntKind.i64.wrap 40 = 40 := rfl
  have w24 : IntKind.i64.wrap 24 = 24 := rfl
  have w16 : IntKind.i64.wrap 16 = 16 := rfl
  have w8 : IntKind.i64.wrap 8 = 8 := rfl
  have fin : ∀ (r : Int) (q m : Nat), r = (q : Int) → q ≤ 56 → m < 256 → IntKind.i64.wrap (r + IntKind.i64.wrap ((lenN m : Nat) : Int)) = ((q + lenN m : Nat) : Int) := fun r q m h0 hr hm => by
    have := (lenN_le m 8).2 hm
    rw [wrap64_in (lenN m : Int) (by omega) (by omega), wrap64_in _ (by omega) (by omega)]
    omega
  refine Does.of_awp (hint := (fun _ => false)) Try.func43 (by kernel_rfl) rfl [2] (by kernel_rfl) (by decide) (by simp [Try.ntmps43]) ?_
  rw [Try.ntmps43]
  simp (implicitDefEqProofs := false) only [↓reduceIte, go_sem, oread, owrite, Nat.reduceAdd, Nat.reduceSub, Nat.reduceMul, Nat.reduceLT, Nat.reduceLeDiff, Nat.reduceEqDiff, Nat.reduceBEq, Int.reduceLE, Int.reduceLT, Int.reduceEq, Int.reduceNe, Int.reduceAdd, Int.reduceSub, Int.reduceMul, Int.reduceNeg, Int.reduceToNat, Int.reduceNatCast, reduceCtorEq, eq_self]
  by_cases h : (4294967296 : Int) ≤ (n : Int)
  all_goals first
    | (have e1 := (len_small n).1 (by omega)
       simp (implicitDefEqProofs := false) only [↓reduceIte, go_sem, oread, owrite, Nat.reduceAdd, Nat.reduceSub, Nat.reduceMul, Nat.reduceLT, Nat.reduceLeDiff, Nat.reduceEqDiff, Nat.reduceBEq, Int.reduceLE, Int.reduceLT, Int.reduceEq, Int.reduceNe, Int.reduceAdd, Int.reduceSub, Int.reduceMul, Int.reduceNeg, Int.reduceToNat, Int.reduceNatCast, reduceCtorEq, eq_self, h, s32]
       have hn1 : n / 4294967296 < 4294967296 := by omega
       generalize n / 4294967296 = n1 at e1 hn1 ⊢)
    | (simp (implicitDefEqProofs := false) only [↓reduceIte, go_sem, oread, owrite, Nat.reduceAdd, Nat.reduceSub, Nat.reduceMul, Nat.reduceLT, Nat.reduceLeDiff, Nat.reduceEqDiff, Nat.reduceBEq, Int.reduceLE, Int.reduceLT, Int.reduceEq, Int.reduceNe, Int.reduceAdd, Int.reduceSub, Int.reduceMul, Int.reduceNeg, Int.reduceToNat, Int.reduceNatCast, reduceCtorEq, eq_self, h]
       obtain ⟨n1, g1⟩ : ∃ n1, n1 = n := ⟨_, rfl⟩
       have hn1 : n1 < 4294967296 := by omega
       have e1 : lenN n = 0 + lenN n1 := by rw [g1]; omega
       rw [← g1])
  all_goals
    by_cases h2 : (65536 : Int) ≤ (n1 : Int)
    all_goals first
      | (have e2 := (len_small n1).2.1 (by omega)
         simp (implicitDefEqProofs := false) only [↓reduceIte, go_sem, oread, owrite, Nat.reduceAdd, Nat.reduceSub, Nat.reduceMul, Nat.reduceLT, Nat.reduceLeDiff, Nat.reduceEqDiff, Nat.reduceBEq, Int.reduceLE, Int.reduceLT, Int.reduceEq, Int.reduceNe, Int.reduceAdd, Int.reduceSub, Int.reduceMul, Int.reduceNeg, Int.reduceToNat, Int.reduceNatCast, reduceCtorEq, eq_self, h2, s16, w48]
         have hn2 : n1 / 65536 < 65536 := by omega
         generalize n1 / 65536 = n2 at e2 hn2 ⊢)
      | (simp (implicitDefEqProofs := false) only [↓reduceIte, go_sem, oread, owrite, Nat.reduceAdd, Nat.reduceSub, Nat.reduceMul, Nat.reduceLT, Nat.reduceLeDiff, Nat.reduceEqDiff, Nat.reduceBEq, Int.reduceLE, Int.reduceLT, Int.reduceEq, Int.reduceNe, Int.reduceAdd, Int.reduceSub, Int.reduceMul, Int.reduceNeg, Int.reduceToNat, Int.reduceNatCast, reduceCtorEq, eq_self, h2]
         obtain ⟨n2, g2⟩ : ∃ n2, n2 = n1 := ⟨_, rfl⟩
         have hn2 : n2 < 65536 := by omega
         have e2 : lenN n1 = 0 + lenN n2 := by rw [g2]; omega
         rw [← g2])
    all_goals
      by_cases h3 : (256 : Int) ≤ (n2 : Int)
      all_goals first
        | (have e3 := (len_small n2).2.2 (by omega)
           simp (implicitDefEqProofs := false) only [↓reduceIte, go_sem, oread, owrite, Nat.reduceAdd, Nat.reduceSub, Nat.reduceMul, Nat.reduceLT, Nat.reduceLeDiff, Nat.reduceEqDiff, Nat.reduceBEq, Int.reduceLE, Int.reduceLT, Int.reduceEq, Int.reduceNe, Int.reduceAdd, Int.reduceSub, Int.reduceMul, Int.reduceNeg, Int.reduceToNat, Int.reduceNatCast, reduceCtorEq, eq_self, h3, s8, w48, w56, w40, w24, w16, w8]
           have hn3 : n2 / 256 < 256 := by omega
           generalize n2 / 256 = n3 at e3 hn3 ⊢)
        | (simp (implicitDefEqProofs := false) only [↓reduceIte, go_sem, oread, owrite, Nat.reduceAdd, Nat.reduceSub, Nat.reduceMul, Nat.reduceLT, Nat.reduceLeDiff, Nat.reduceEqDiff, Nat.reduceBEq, Int.reduceLE, Int.reduceLT, Int.reduceEq, Int.reduceNe, Int.reduceAdd, Int.reduceSub, Int.reduceMul, Int.reduceNeg, Int.reduceToNat, Int.reduceNatCast, reduceCtorEq, eq_self, h3]
           obtain ⟨n3, g3⟩ : ∃ n3, n3 = n2 := ⟨_, rfl⟩
           have hn3 : n3 < 256 := by omega
           have e3 : lenN n2 = 0 + lenN n3 := by rw [g3]; omega
           rw [← g3])
      all_goals
        simp (implicitDefEqProofs := false) only [↓reduceIte, go_sem, oread, owrite, Nat.reduceAdd, Nat.reduceSub, Nat.reduceMul, Nat.reduceLT, Nat.reduceLeDiff, Nat.reduceEqDiff, Nat.reduceBEq, Int.reduceLE, Int.reduceLT, Int.reduceEq, Int.reduceNe, Int.reduceAdd, Int.reduceSub, Int.reduceMul, Int.reduceNeg, Int.reduceToNat, Int.reduceNatCast, reduceCtorEq, eq_self, wrap8N n3 hn3]
        rw [lenTab n3 hn3 _ (by kernel_rfl)]
        simp (implicitDefEqProofs := false) only [↓reduceIte, go_sem, oread, owrite, Nat.reduceAdd, Nat.reduceSub, Nat.reduceMul, Nat.reduceLT, Nat.reduceLeDiff, Nat.reduceEqDiff, Nat.reduceBEq, Int.reduceLE, Int.reduceLT, Int.reduceEq, Int.reduceNe, Int.reduceAdd, Int.reduceSub, Int.reduceMul, Int.reduceNeg, Int.reduceToNat, Int.reduceNatCast, reduceCtorEq, eq_self, ofNat_len hn3]
        refine AEnd.ret0 ?_
        have f0 := fin 0 0 n3 rfl (by decide) hn3
        have f8 := fin 8 8 n3 rfl (by decide) hn3
        have f16 := fin 16 16 n3 rfl (by decide) hn3
        have f24 := fin 24 24 n3 rfl (by decide) hn3
        have f32 := fin 32 32 n3 rfl (by decide) hn3
        have f40 := fin 40 40 n3 rfl (by decide) hn3
        have f48 := fin 48 48 n3 rfl (by decide) hn3
        have f56 := fin 56 56 n3 rfl (by decide) hn3
        simp (implicitDefEqProofs := false) only [↓reduceIte, go_sem, oread, owrite, Nat.reduceAdd, Nat.reduceSub, Nat.reduceMul, Nat.reduceLT, Nat.reduceLeDiff, Nat.reduceEqDiff, Nat.reduceBEq, Int.reduceLE, Int.reduceLT, Int.reduceEq, Int.reduceNe, Int.reduceAdd, Int.reduceSub, Int.reduceMul, Int.reduceNeg, Int.reduceToNat, Int.reduceNatCast, reduceCtorEq, eq_self, w16, w8, w24, w40, w48, w56, f0, f8, f16, f24, f32, f40, f48, f56]
        all_goals
          refine congrArg (fun m : Nat => iA m) ?_
          first | omega | (simp only [e1, e2, e3]; omega)
end Go.Proofs.Ytcdnbefcccdaeaa

/- bits.From, Left, Get, Unpack: what they do. -/
import Derived.Test.YtcdnbefcccdaeaaPack
import Derived.Test.YtcdnbefcccdaeaaLeb1
namespace Go.Proofs.Ytcdnbefcccdaeaa
open Go.Proofs.YtcdnbefcccdaeaaAw Go.RowKit
set_option linter.unusedVariables false
set_option linter.unusedSimpArgs false
/-! ### Bits of bytes -/
def bitsB (b : List Nat) : List Bool := b.flatMap fun c => bitsN c 8
theorem bitsB_len : ∀ b : List Nat, (bitsB b).length = 8 * b.length
  | [] => rfl
  | c :: b => by
    have : bitsB (c :: b) = bitsN c 8 ++ bitsB b := rfl
    rw [this, List.length_append, bitsB_len b, bitsN_len, List.length_cons]; omega
theorem bitsB_get : ∀ (b : List Nat) (i : Nat) (c : Nat), b[i / 8]? = some c → (bitsB b)[i]? = some (c.testBit (i % 8))
  | [], i, c, h => by simp at h
  | x :: b, i, c, h => by
    have e : bitsB (x :: b) = bitsN x 8 ++ bitsB b := rfl
    rw [e]
    by_cases hi : i < 8
    · rw [show i / 8 = 0 by omega] at h
      cases h
      rw [List.getElem?_append_left (by rw [bitsN_len]; exact hi), show i % 8 = i by omega]
      simp [bitsN, hi]
    · rw [show i / 8 = (i - 8) / 8 + 1 by omega, List.getElem?_cons_succ] at h
      rw [List.getElem?_append_right (by rw [bitsN_len]; omega), bitsN_len, bitsB_get b (i - 8) c h]
      congr 2
      omega
theorem byteOf_take (L : List Bool) (k : Nat) (c : Bool) (h : L[k]? = some c) : byteOf (L.take (k + 1)) = byteOf (L.take k) + c.toNat * 2 ^ k := by
  have hk : k < L.length := (List.getElem?_eq_some_iff.1 h).1
  rw [List.take_add_one, h, Option.toList_some, byteOf_snoc, List.length_take, Nat.min_eq_left (Nat.le_of_lt hk)]
/-! ### The reader -/
def rH (G : AHeap) (b : List Nat) (at_ : Nat) (T : AHeap) : AHeap := G ++ .arr 5 1 1 (bys b) :: .box 103 2 0 1 [.sl G.length 1 0 b.length, iA at_] :: T
theorem from_does (b : List Nat) (nn : Bool) (hl : b.length ≤ 140737488351232) (H : AHeap) : Does Try.prog 56 [.d (.list nn (bys b))] H (.ok (.ptr (H.length + 1) 0 0 0)) (rH H b 0 []) := by
  generalize hE : rH H b 0 [] = E
  refine Does.of_awp (hint := (fun _ => false)) Try.func56 (by kernel_rfl) rfl [2] (by kernel_rfl) (by decide) (by simp [Try.ntmps56]) ?_
  rw [Try.ntmps56]
  simp (implicitDefEqProofs := false) only [↓reduceIte, go_sem, oread, owrite, Nat.reduceAdd, Nat.reduceSub, Nat.reduceMul, Nat.reduceLT, Nat.reduceLeDiff, Nat.reduceEqDiff, Nat.reduceBEq, Int.reduceLE, Int.reduceLT, Int.reduceEq, Int.reduceNe, Int.reduceAdd, Int.reduceSub, Int.reduceMul, Int.reduceNeg, Int.reduceToNat, Int.reduceNatCast, reduceCtorEq, eq_self, bys_one, bys_len]
  refine ⟨by omega, by omega, ?_⟩
  rw [← hE]
  refine ⟨_, Weak.refl _ _, ?_⟩
  simp (implicitDefEqProofs := false) only [↓reduceIte, go_sem, oread, owrite, Nat.reduceAdd, Nat.reduceSub, Nat.reduceMul, Nat.reduceLT, Nat.reduceLeDiff, Nat.reduceEqDiff, Nat.reduceBEq, Int.reduceLE, Int.reduceLT, Int.reduceEq, Int.reduceNe, Int.reduceAdd, Int.reduceSub, Int.reduceMul, Int.reduceNeg, Int.reduceToNat, Int.reduceNatCast, reduceCtorEq, eq_self]
theorem left_does (b : List Nat) (at_ : Nat) (hl : b.length ≤ 140737488351232) (ha : at_ ≤ 8 * b.length) (G T : AHeap) : Does Try.prog 57 [.ptr (G.length + 1) 0 0 0] (rH G b at_ T) (.ok (iA ((8 * b.length - at_ : Nat) : Int))) (rH G b at_ T) := by
  refine Does.of_awp (hint := (fun _ => false)) Try.func57 (by kernel_rfl) rfl [2] (by kernel_rfl) (by decide) (by simp [Try.ntmps57]) ?_
  rw [Try.ntmps57]
  simp (implicitDefEqProofs := false) only [↓reduceIte, go_sem, oread, owrite, Nat.reduceAdd, Nat.reduceSub, Nat.reduceMul, Nat.reduceLT, Nat.reduceLeDiff, Nat.reduceEqDiff, Nat.reduceBEq, Int.reduceLE, Int.reduceLT, Int.reduceEq, Int.reduceNe, Int.reduceAdd, Int.reduceSub, Int.reduceMul, Int.reduceNeg, Int.reduceToNat, Int.reduceNatCast, reduceCtorEq, eq_self, rH]
  refine awp_draw K.mixed (by kernel_rfl) ?_
  have h1 : IntKind.i64.wrap (8 * (b.length : Int)) = 8 * (b.length : Int) := wrap64_in _ (by omega) (by omega)
  have h2 : IntKind.i64.wrap (8 * (b.length : Int) - (at_ : Int)) = ((8 * b.length - at_ : Nat) : Int) := by rw [wrap64_in _ (by omega) (by omega)]; omega
  generalize 8 * b.length - at_ = z at *
  simp (implicitDefEqProofs := false) only [↓reduceIte, go_sem, oread, owrite, Nat.reduceAdd, Nat.reduceSub, Nat.reduceMul, Nat.reduceLT, Nat.reduceLeDiff, Nat.reduceEqDiff, Nat.reduceBEq, Int.reduceLE, Int.reduceLT, Int.reduceEq, Int.reduceNe, Int.reduceAdd, Int.reduceSub, Int.reduceMul, Int.reduceNeg, Int.reduceToNat, Int.reduceNatCast, reduceCtorEq, eq_self]
  refine ⟨_, Weak.refl _ _, ?_⟩
  simp (implicitDefEqProofs := false) only [↓reduceIte, go_sem, oread, owrite, Nat.reduceAdd, Nat.reduceSub, Nat.reduceMul, Nat.reduceLT, Nat.reduceLeDiff, Nat.reduceEqDiff, Nat.reduceBEq, Int.reduceLE, Int.reduceLT, Int.reduceEq, Int.reduceNe, Int.reduceAdd, Int.reduceSub, Int.reduceMul, Int.reduceNeg, Int.reduceToNat, Int.reduceNatCast, reduceCtorEq, eq_self, h1, h2]
theorem bitU (x : Nat) (j : Nat) (hx : x < 256) (hj : j < 8) : IntKind.u64.wrap (IntKind.u8.wrap (andI .u8 (shrI .u8 (x : Int) (j : Int)) 1)) = (((x.testBit j).toNat : Nat) : Int) := by
  have h1 : min j 8 = j := by omega
  have e : shrI .u8 (x : Int) (j : Int) = ((x / 2 ^ j : Nat) : Int) := by
    simp only [shrI, IntKind.bits, Int.toNat_natCast, h1]
    rw [Int.fdiv_eq_ediv_of_nonneg _ (by exact_mod_cast Nat.zero_le _)]
    norm_cast
  have h2 : x / 2 ^ j < 256 := Nat.lt_of_le_of_lt (Nat.div_le_self _ _) hx
  rw [e]
  have := andI_nat .u8 (x / 2 ^ j) 1 h2 (by decide)
  rw [show ((1 : Nat) : Int) = 1 from rfl] at this
  rw [this, Nat.and_one_is_mod, wrap8N _ (by omega), wrapU64N _ (by omega), Nat.testBit_eq_decide_div_mod_eq]
  rcases Nat.mod_two_eq_zero_or_one (x / 2 ^ j) with h | h <;> rw [h] <;> rfl
set_option maxRecDepth 10000 in
set_option maxHeartbeats 1000000 in
theorem rget_does (b : List Nat) (at_ w : Nat) (hl : b.length ≤ 140737488351232) (hb : ∀ c ∈ b, c < 256) (ha : at_ + w ≤ 8 * b.length) (hw : w ≤ 64) (G T : AHeap) :
    Does Try.prog 58 [.ptr (G.length + 1) 0 0 0, iA w] (rH G b at_ T) (.ok (.tup [du (byteOf (((bitsB b).drop at_).take w)), iA 0])) (rH G b (at_ + w) T) := by
  generalize hE : rH G b (at_ + w) T = E
  refine Does.of_awp (hint := (fun _ => false)) Try.func58 (by kernel_rfl) rfl [4, 5] (by kernel_rfl) (by decide) (by simp [Try.ntmps58]) ?_
  rw [Try.ntmps58]
  simp (implicitDefEqProofs := false) only [↓reduceIte, go_sem, oread, owrite, Nat.reduceAdd, Nat.reduceSub, Nat.reduceMul, Nat.reduceLT, Nat.reduceLeDiff, Nat.reduceEqDiff, Nat.reduceBEq, Int.reduceLE, Int.reduceLT, Int.reduceEq, Int.reduceNe, Int.reduceAdd, Int.reduceSub, Int.reduceMul, Int.reduceNeg, Int.reduceToNat, Int.reduceNatCast, reduceCtorEq, eq_self, rH, show ((w : Int) < 0) = False from eq_false (by omega), show ((64 : Int) < (w : Int)) = False from eq_false (by omega)]
  refine KCall.ok (left_does b at_ hl (by omega) G T) ?_
  simp (implicitDefEqProofs := false) only [↓reduceIte, go_sem, oread, owrite, Nat.reduceAdd, Nat.reduceSub, Nat.reduceMul, Nat.reduceLT, Nat.reduceLeDiff, Nat.reduceEqDiff, Nat.reduceBEq, Int.reduceLE, Int.reduceLT, Int.reduceEq, Int.reduceNe, Int.reduceAdd, Int.reduceSub, Int.reduceMul, Int.reduceNeg, Int.reduceToNat, Int.reduceNatCast, reduceCtorEq, eq_self, show (((8 * b.length - at_ : Nat) : Int) < (w : Int)) = False from eq_false (by omega)]
  refine awp_for (fun k s H' => H' = rH G b (at_ + k) T ∧ s 0 = .ptr (G.length + 1) 0 0 0 ∧ s 6 = du (byteOf (((bitsB b).drop at_).take k)) ∧ s 24 = iA w ∧ s 25 = iA k) w (by omega) (Weak.refl _ _) ?_ ?_ ?_
  · refine ⟨rfl, ?_⟩
    simp (implicitDefEqProofs := false) only [↓reduceIte, go_sem, oread, owrite, Nat.reduceAdd, Nat.reduceSub, Nat.reduceMul, Nat.reduceLT, Nat.reduceLeDiff, Nat.reduceEqDiff, Nat.reduceBEq, Int.reduceLE, Int.reduceLT, Int.reduceEq, Int.reduceNe, Int.reduceAdd, Int.reduceSub, Int.reduceMul, Int.reduceNeg, Int.reduceToNat, Int.reduceNatCast, reduceCtorEq, eq_self, List.take_zero, byteOf]
    rfl
  · rintro k s H' hk hw2 ⟨rfl, t0, t6, t24, t25⟩
    have hq : (at_ + k) / 8 < b.length := by omega
    have hm8 : (at_ + k) % 8 < 8 := Nat.mod_lt _ (by decide)
    have hx := List.getElem?_eq_getElem hq
    have hbx := bys_get b _ hq
    have hx8 := hb _ (List.getElem_mem hq)
    generalize b[(at_ + k) / 8] = x at hx hbx hx8
    have hbit := bitsB_get b _ x hx
    have ht := byteOf_take ((bitsB b).drop at_) k _ (by rw [List.getElem?_drop]; exact hbit)
    have hlt := byteOf_lt (((bitsB b).drop at_).take k)
    have hll : (((bitsB b).drop at_).take k).length = k := by rw [List.length_take, List.length_drop, bitsB_len]; omega
    rw [hll] at hlt
    have hu := bitU x _ hx8 hm8
    generalize x.testBit ((at_ + k) % 8) = c at hu ht
    generalize byteOf (((bitsB b).drop at_).take k) = n at hlt ht t6
    have hp63 : 2 ^ k ≤ 2 ^ 63 := Nat.pow_le_pow_right (by decide) (by omega)
    have hcl : c.toNat * 2 ^ k ≤ 2 ^ k := by cases c <;> simp
    have e7 := shlN c.toNat k (by omega) (by omega)
    have e8 := orN n c.toNat k hlt (by omega)
    obtain ⟨p, hp⟩ : ∃ p, p = at_ + k := ⟨_, rfl⟩
    rw [← hp] at hq hm8 hbx hu
    have hwq : IntKind.i64.wrap ((p / 8 : Nat) : Int) = ((p / 8 : Nat) : Int) := wrap64_in _ (by omega) (by omega)
    have hwm : IntKind.u64.wrap ((p % 8 : Nat) : Int) = ((p % 8 : Nat) : Int) := wrapU64N _ (by omega)
    have hwk : IntKind.u64.wrap ((k : Nat) : Int) = ((k : Nat) : Int) := wrapU64N _ (by omega)
    have hw3 : IntKind.i64.wrap ((p : Int) + 1) = ((p + 1 : Nat) : Int) := by rw [wrap64_in _ (by omega) (by omega)]; rfl
    simp only [← hp]
    rw [show at_ + (k + 1) = p + 1 by omega, ht]
    generalize c.toNat * 2 ^ k = y at *
    generalize n + y = z at *
    simp (implicitDefEqProofs := false) only [↓reduceIte, go_sem, oread, owrite, Nat.reduceAdd, Nat.reduceSub, Nat.reduceMul, Nat.reduceLT, Nat.reduceLeDiff, Nat.reduceEqDiff, Nat.reduceBEq, Int.reduceLE, Int.reduceLT, Int.reduceEq, Int.reduceNe, Int.reduceAdd, Int.reduceSub, Int.reduceMul, Int.reduceNeg, Int.reduceToNat, Int.reduceNatCast, reduceCtorEq, eq_self, rH, t0, t6, t24, t25, hk]
    refine awp_draw K.mixed (by kernel_rfl) ?_
    simp (implicitDefEqProofs := false) only [↓reduceIte, go_sem, oread, owrite, Nat.reduceAdd, Nat.reduceSub, Nat.reduceMul, Nat.reduceLT, Nat.reduceLeDiff, Nat.reduceEqDiff, Nat.reduceBEq, Int.reduceLE, Int.reduceLT, Int.reduceEq, Int.reduceNe, Int.reduceAdd, Int.reduceSub, Int.reduceMul, Int.reduceNeg, Int.reduceToNat, Int.reduceNatCast, reduceCtorEq, eq_self, rH, t0, t6, t24, t25, divI, modI, hwq, hwm, hwk, hbx, hq, hu, e7, e8]
    refine Rnd.same ⟨?_, ?_⟩
    · simp (implicitDefEqProofs := false) only [↓reduceIte, go_sem, oread, owrite, Nat.reduceAdd, Nat.reduceSub, Nat.reduceMul, Nat.reduceLT, Nat.reduceLeDiff, Nat.reduceEqDiff, Nat.reduceBEq, Int.reduceLE, Int.reduceLT, Int.reduceEq, Int.reduceNe, Int.reduceAdd, Int.reduceSub, Int.reduceMul, Int.reduceNeg, Int.reduceToNat, Int.reduceNatCast, reduceCtorEq, eq_self, hw3]
    · simp (implicitDefEqProofs := false) only [↓reduceIte, go_sem, oread, owrite, Nat.reduceAdd, Nat.reduceSub, Nat.reduceMul, Nat.reduceLT, Nat.reduceLeDiff, Nat.reduceEqDiff, Nat.reduceBEq, Int.reduceLE, Int.reduceLT, Int.reduceEq, Int.reduceNe, Int.reduceAdd, Int.reduceSub, Int.reduceMul, Int.reduceNeg, Int.reduceToNat, Int.reduceNatCast, reduceCtorEq, eq_self, t0, t24, t25, hw2]
  · rintro s H' ⟨rfl, t0, t6, t24, t25⟩
    simp (implicitDefEqProofs := false) only [↓reduceIte, go_sem, oread, owrite, Nat.reduceAdd, Nat.reduceSub, Nat.reduceMul, Nat.reduceLT, Nat.reduceLeDiff, Nat.reduceEqDiff, Nat.reduceBEq, Int.reduceLE, Int.reduceLT, Int.reduceEq, Int.reduceNe, Int.reduceAdd, Int.reduceSub, Int.reduceMul, Int.reduceNeg, Int.reduceToNat, Int.reduceNatCast, reduceCtorEq, eq_self, t6, t24, t25]
    rw [hE]
    exact ⟨_, Weak.refl _ _, by simp (implicitDefEqProofs := false) only [↓reduceIte, go_sem, oread, owrite, Nat.reduceAdd, Nat.reduceSub, Nat.reduceMul, Nat.reduceLT, Nat.reduceLeDiff, Nat.reduceEqDiff, Nat.reduceBEq, Int.reduceLE, Int.reduceLT, Int.reduceEq, Int.reduceNe, Int.reduceAdd, Int.reduceSub, Int.reduceMul, Int.reduceNeg, Int.reduceToNat, Int.reduceNatCast, reduceCtorEq, eq_self]⟩
end Go.Proofs.Ytcdnbefcccdaeaa

/- bits.Writer, bits.Pack: what they do. -/
import Derived.Test.YtcdnbefcccdaeaaBits
namespace Go.Proofs.Ytcdnbefcccdaeaa
open Go.Proofs.YtcdnbefcccdaeaaAw Go.RowKit
set_option linter.unusedVariables false
set_option linter.unusedSimpArgs false
/-! ### Bits as bytes -/
def byteOf : List Bool → Nat
  | [] => 0
  | b :: r => b.toNat + 2 * byteOf r
theorem byteOf_lt : ∀ l : List Bool, byteOf l < 2 ^ l.length
  | [] => by simp [byteOf]
  | b :: r => by
    have := byteOf_lt r
    simp only [byteOf, List.length_cons, Nat.pow_succ]
    cases b <;> simp <;> omega
theorem byteOf_snoc : ∀ (l : List Bool) (b : Bool), byteOf (l ++ [b]) = byteOf l + b.toNat * 2 ^ l.length
  | [], b => by simp [byteOf]
  | c :: r, b => by
    simp only [List.cons_append, byteOf, byteOf_snoc r b, List.length_cons, Nat.pow_succ]
    rw [Nat.mul_add, ← Nat.mul_assoc 2, Nat.mul_comm 2 b.toNat, Nat.mul_assoc b.toNat, Nat.mul_comm 2 (2 ^ _)]
    omega
def byteAt (l : List Bool) (i : Nat) : Nat := byteOf ((l.drop (8 * i)).take 8)
def packB (l : List Bool) : List Nat := (List.range ((l.length + 7) / 8)).map (byteAt l)
theorem packB_len (l : List Bool) : (packB l).length = (l.length + 7) / 8 := by simp [packB]
/-- Ready for one bit more. -/
def packR (l : List Bool) : List Nat := (List.range (l.length / 8 + 1)).map (byteAt l)
theorem packR_len (l : List Bool) : (packR l).length = l.length / 8 + 1 := by simp [packR]
theorem packR_full {l : List Bool} (h : l.length % 8 = 0) : packR l = packB l ++ [0] := by
  unfold packR packB
  rw [show (l.length + 7) / 8 = l.length / 8 by omega, List.range_succ, List.map_append]
  congr 1
  simp only [List.map_cons, List.map_nil, byteAt]
  rw [List.drop_of_length_le (by omega)]
  rfl
theorem packR_part {l : List Bool} (h : ¬ l.length % 8 = 0) : packR l = packB l := by
  unfold packR packB
  rw [show (l.length + 7) / 8 = l.length / 8 + 1 by omega]
theorem byteAt_lt (l : List Bool) (i : Nat) : byteAt l i < 256 := by
  have h1 := byteOf_lt ((l.drop (8 * i)).take 8)
  have h2 : ((l.drop (8 * i)).take 8).length ≤ 8 := by simp; omega
  have : 2 ^ ((l.drop (8 * i)).take 8).length ≤ 2 ^ 8 := Nat.pow_le_pow_right (by decide) h2
  unfold byteAt; omega
theorem packR_get (l : List Bool) : (packR l)[l.length / 8]? = some (byteAt l (l.length / 8)) := by simp [packR]
theorem byteAt_last (l : List Bool) : byteAt l (l.length / 8) = byteOf (l.drop (8 * (l.length / 8))) := by
  unfold byteAt
  rw [List.take_of_length_le (by simp; omega)]
theorem byteAt_last_lt (l : List Bool) : byteAt l (l.length / 8) < 2 ^ (l.length % 8) := by
  rw [byteAt_last]
  have := byteOf_lt (l.drop (8 * (l.length / 8)))
  rwa [List.length_drop, show l.length - 8 * (l.length / 8) = l.length % 8 by omega] at this
theorem packB_snoc (l : List Bool) (b : Bool) : packB (l ++ [b]) = (packR l).set (l.length / 8) (byteAt l (l.length / 8) + b.toNat * 2 ^ (l.length % 8)) := by
  apply List.ext_getElem?
  intro i
  rw [List.getElem?_set]
  unfold packB packR
  simp only [List.getElem?_map, List.length_append, List.length_singleton, List.length_map, List.length_range]
  rw [show (l.length + 1 + 7) / 8 = l.length / 8 + 1 by omega]
  by_cases h : l.length / 8 = i
  · subst h
    rw [if_pos rfl, if_pos (by omega), List.getElem?_range (by omega)]
    simp only [Option.map_some]
    congr 1
    rw [byteAt_last]
    unfold byteAt
    rw [List.drop_append_of_le_length (by omega), List.take_of_length_le (by simp; omega), byteOf_snoc, List.length_drop, show l.length - 8 * (l.length / 8) = l.length % 8 by omega]
  · rw [if_neg h]
    by_cases hi : i < l.length / 8 + 1
    · rw [List.getElem?_range hi]
      simp only [Option.map_some]
      congr 1
      unfold byteAt
      rw [List.drop_append_of_le_length (by omega), List.take_append_of_le_length (by simp; omega)]
    · rw [List.getElem?_eq_none (by simpa using hi)]
      rfl
def bitsN (n w : Nat) : List Bool := (List.range w).map fun i => n.testBit i
theorem bitsN_len (n w : Nat) : (bitsN n w).length = w := by simp [bitsN]
theorem bitsN_succ (n w : Nat) : bitsN n (w + 1) = bitsN n w ++ [n.testBit w] := by simp [bitsN, List.range_succ]
/-! ### The writer -/
def wH (G : AHeap) (l : List Bool) : AHeap := G ++ [.box 73 2 0 1 [.sl (G.length + 1) (packB l).length 0 (packB l).length, iA l.length], .arr 5 1 (packB l).length (bys (packB l))]
theorem bit_eq (n i : Nat) (hn : n < 18446744073709551616) (hi : i ≤ 64) : IntKind.u8.wrap (IntKind.u64.wrap (andI .u64 (shrI .u64 (n : Int) (i : Int)) 1)) = (((n.testBit i).toNat : Nat) : Int) := by
  rw [shrU n i hi]
  have h1 : n / 2 ^ i < 18446744073709551616 := Nat.lt_of_le_of_lt (Nat.div_le_self _ _) hn
  have := andI_nat .u64 (n / 2 ^ i) 1 h1 (by decide)
  rw [show ((1 : Nat) : Int) = 1 from rfl] at this
  rw [this, Nat.and_one_is_mod, wrapU64N _ (by omega), wrap8N _ (by omega), Nat.testBit_eq_decide_div_mod_eq]
  rcases Nat.mod_two_eq_zero_or_one (n / 2 ^ i) with h | h <;> rw [h] <;> rfl
theorem shlB (b : Bool) (j : Nat) (hj : j < 8) : IntKind.u8.wrap (shlI .u8 ((b.toNat : Nat) : Int) (j : Int)) = ((b.toNat * 2 ^ j : Nat) : Int) := by
  have h1 : min j 8 = j := by omega
  have h2 : 2 ^ j ≤ 2 ^ 7 := Nat.pow_le_pow_right (by decide) (by omega)
  have h3 : shlI .u8 ((b.toNat : Nat) : Int) (j : Int) = ((b.toNat * 2 ^ j : Nat) : Int) := by
    simp only [shlI, IntKind.bits, Int.toNat_natCast, h1]
    norm_cast
  rw [h3]
  refine wrap8N _ ?_
  cases b
  · simp
  · simp; omega
theorem orB (x : Nat) (b : Bool) (j : Nat) (hj : j < 8) (hx : x < 2 ^ j) : IntKind.u8.wrap (orI .u8 (x : Int) ((b.toNat * 2 ^ j : Nat) : Int)) = ((x + b.toNat * 2 ^ j : Nat) : Int) := by
  have h2 : 2 ^ j ≤ 2 ^ 7 := Nat.pow_le_pow_right (by decide) (by omega)
  have h3 : b.toNat * 2 ^ j ≤ 2 ^ j := by cases b <;> simp
  rw [orI_nat .u8 x (b.toNat * 2 ^ j) (by simp [IntKind.bits]; omega) (by simp [IntKind.bits]; omega)]
  have h4 : x ||| b.toNat * 2 ^ j = x + b.toNat * 2 ^ j := by
    rw [Nat.or_comm, Nat.mul_comm, ← Nat.two_pow_add_eq_or_of_lt hx]
    omega
  rw [h4]
  exact wrap8N _ (by omega)
theorem modI (n : Nat) : Int.tmod (n : Int) 8 = ((n % 8 : Nat) : Int) := by rw [Int.tmod_eq_emod_of_nonneg (by omega)]; rfl
theorem divI (n : Nat) : Int.tdiv (n : Int) 8 = ((n / 8 : Nat) : Int) := by rw [Int.tdiv_eq_ediv_of_nonneg (by omega)]; rfl
set_option maxRecDepth 10000 in
set_option maxHeartbeats 1000000 in
theorem wput_does (n w : Nat) (hw : w ≤ 64) (hn : n < 2 ^ w) (G : AHeap) (l0 : List Bool) (hl : l0.length ≤ 100000000) : Does Try.prog 44 [.ptr G.length 0 0 0, du n, iA w] (wH G l0) (.ok (iA 0)) (wH G (l0 ++ bitsN n w)) := by
  have hn64 : n < 18446744073709551616 := Nat.lt_of_lt_of_le hn (Nat.pow_le_pow_right (by decide) hw)
  have hlen := (lenN_le n w).2 hn
  generalize hE : wH G (l0 ++ bitsN n w) = E
  refine Does.of_awp (hint := (fun _ => false)) Try.func44 (by kernel_rfl) rfl [6] (by kernel_rfl) (by decide) (by simp [Try.ntmps44]) ?_
  rw [Try.ntmps44]
  simp (implicitDefEqProofs := false) only [↓reduceIte, go_sem, oread, owrite, Nat.reduceAdd, Nat.reduceSub, Nat.reduceMul, Nat.reduceLT, Nat.reduceLeDiff, Nat.reduceEqDiff, Nat.reduceBEq, Int.reduceLE, Int.reduceLT, Int.reduceEq, Int.reduceNe, Int.reduceAdd, Int.reduceSub, Int.reduceMul, Int.reduceNeg, Int.reduceToNat, Int.reduceNatCast, reduceCtorEq, eq_self, wH, show ((w : Int) < 0) = False from eq_false (by omega), show ((64 : Int) < (w : Int)) = False from eq_false (by omega)]
  refine KCall.ok (len64_does n hn64 _) ?_
  simp (implicitDefEqProofs := false) only [↓reduceIte, go_sem, oread, owrite, Nat.reduceAdd, Nat.reduceSub, Nat.reduceMul, Nat.reduceLT, Nat.reduceLeDiff, Nat.reduceEqDiff, Nat.reduceBEq, Int.reduceLE, Int.reduceLT, Int.reduceEq, Int.reduceNe, Int.reduceAdd, Int.reduceSub, Int.reduceMul, Int.reduceNeg, Int.reduceToNat, Int.reduceNatCast, reduceCtorEq, eq_self, show (((w : Nat) : Int) < ((lenN n : Nat) : Int)) = False from eq_false (by omega)]
  refine awp_for (fun k s H' => H' = wH G (l0 ++ bitsN n k) ∧ s 0 = .ptr G.length 0 0 0 ∧ s 1 = du n ∧ s 24 = iA w ∧ s 25 = iA k) w (by omega) (Weak.refl _ _) ?_ ?_ ?_
  · refine ⟨by simp [bitsN, wH], ?_⟩
    simp (implicitDefEqProofs := false) only [↓reduceIte, go_sem, oread, owrite, Nat.reduceAdd, Nat.reduceSub, Nat.reduceMul, Nat.reduceLT, Nat.reduceLeDiff, Nat.reduceEqDiff, Nat.reduceBEq, Int.reduceLE, Int.reduceLT, Int.reduceEq, Int.reduceNe, Int.reduceAdd, Int.reduceSub, Int.reduceMul, Int.reduceNeg, Int.reduceToNat, Int.reduceNatCast, reduceCtorEq, eq_self]
  · rintro k s H' hk hw2 ⟨rfl, t0, t1, t24, t25⟩
    have hs := bitsN_succ n k
    have hL : (l0 ++ bitsN n k).length = l0.length + k := by rw [List.length_append, bitsN_len]
    have hb := bit_eq n k hn64 (by omega)
    have hap : l0 ++ bitsN n (k + 1) = (l0 ++ bitsN n k) ++ [n.testBit k] := by rw [hs, List.append_assoc]
    rw [hap]
    generalize n.testBit k = c at hb
    generalize l0 ++ bitsN n k = l at hL ⊢
    have hsn := packB_snoc l c
    have hget := packR_get l
    have hblt := byteAt_last_lt l
    have hb8 := byteAt_lt l (l.length / 8)
    generalize byteAt l (l.length / 8) = x at hsn hget hblt hb8
    have hRl := packR_len l
    have hBl := packB_len l
    have hBl2 := packB_len (l ++ [c])
    rw [List.length_append, List.length_singleton] at hBl2
    have hm8 : l.length % 8 < 8 := Nat.mod_lt _ (by decide)
    have e1 := shlB c _ hm8
    have e2 := orB x c _ hm8 hblt
    have hRget : (bys (packR l))[l.length / 8]? = some [.v (.int .u8 (x : Int))] := by simp [bys, hget]
    have hRset : (bys (packR l)).set (l.length / 8) [.v (.int .u8 ((x + c.toNat * 2 ^ (l.length % 8) : Nat) : Int))] = bys (packB (l ++ [c])) := by rw [bys_set, hsn]
    have hRB : (packR l).length = (packB (l ++ [c])).length := by omega
    have hdlt : l.length / 8 < (packR l).length := by omega
    have hfin : G ++ [.box 73 2 0 1 [.sl (G.length + 1) (packR l).length 0 (packR l).length, iA ((l.length : Int) + 1)], .arr 5 1 (packR l).length (bys (packB (l ++ [c])))] = wH G (l ++ [c]) := by
      unfold wH
      rw [hRB, List.length_append, List.length_singleton]
      rfl
    have hw3 : IntKind.i64.wrap ((l.length : Int) + 1) = (l.length : Int) + 1 := wrap64_in _ (by omega) (by omega)
    have hwq : IntKind.i64.wrap ((l.length / 8 : Nat) : Int) = ((l.length / 8 : Nat) : Int) := wrapI _ (by omega)
    have hwk : IntKind.u64.wrap ((k : Nat) : Int) = ((k : Nat) : Int) := wrapU64N _ (by omega)
    have hwm : IntKind.u64.wrap ((l.length % 8 : Nat) : Int) = ((l.length % 8 : Nat) : Int) := wrapU64N _ (by omega)
    generalize c.toNat * 2 ^ (l.length % 8) = y at *
    generalize x + y = z at *
    by_cases h8 : l.length % 8 = 0
    · have hR0 : bys (packB l) ++ [[.v (.int .u8 0)]] = bys (packR l) := by rw [packR_full h8]; exact bys_snoc _ 0
      have hR1 : (packB l).length + 1 = (packR l).length := by rw [packR_full h8]; simp
      simp (implicitDefEqProofs := false) only [↓reduceIte, go_sem, oread, owrite, Nat.reduceAdd, Nat.reduceSub, Nat.reduceMul, Nat.reduceLT, Nat.reduceLeDiff, Nat.reduceEqDiff, Nat.reduceBEq, Int.reduceLE, Int.reduceLT, Int.reduceEq, Int.reduceNe, Int.reduceAdd, Int.reduceSub, Int.reduceMul, Int.reduceNeg, Int.reduceToNat, Int.reduceNatCast, reduceCtorEq, eq_self, wH, t0, t1, t24, t25, hk, modI, h8, bys_len, show (((0 : Nat) : Int) = 0) = True from eq_true rfl, hR0, hR1]
      refine ⟨by omega, by omega, ?_⟩
      refine awp_drawK 25 K.mixed (by kernel_rfl) (by kernel_rfl) ?_
      simp (implicitDefEqProofs := false) only [↓reduceIte, go_sem, oread, owrite, Nat.reduceAdd, Nat.reduceSub, Nat.reduceMul, Nat.reduceLT, Nat.reduceLeDiff, Nat.reduceEqDiff, Nat.reduceBEq, Int.reduceLE, Int.reduceLT, Int.reduceEq, Int.reduceNe, Int.reduceAdd, Int.reduceSub, Int.reduceMul, Int.reduceNeg, Int.reduceToNat, Int.reduceNatCast, reduceCtorEq, eq_self, t0, t1, t24, t25, divI, modI, hwq, hwk, hwm, hRget, hdlt, hb, e1, e2]
      refine Rnd.same ⟨?_, ?_⟩
      · simp (implicitDefEqProofs := false) only [↓reduceIte, go_sem, oread, owrite, Nat.reduceAdd, Nat.reduceSub, Nat.reduceMul, Nat.reduceLT, Nat.reduceLeDiff, Nat.reduceEqDiff, Nat.reduceBEq, Int.reduceLE, Int.reduceLT, Int.reduceEq, Int.reduceNe, Int.reduceAdd, Int.reduceSub, Int.reduceMul, Int.reduceNeg, Int.reduceToNat, Int.reduceNatCast, reduceCtorEq, eq_self, hRset, hw3, hfin]
      · simp (implicitDefEqProofs := false) only [↓reduceIte, go_sem, oread, owrite, Nat.reduceAdd, Nat.reduceSub, Nat.reduceMul, Nat.reduceLT, Nat.reduceLeDiff, Nat.reduceEqDiff, Nat.reduceBEq, Int.reduceLE, Int.reduceLT, Int.reduceEq, Int.reduceNe, Int.reduceAdd, Int.reduceSub, Int.reduceMul, Int.reduceNeg, Int.reduceToNat, Int.reduceNatCast, reduceCtorEq, eq_self, t0, t1, t24, hw2]
    · have h8' : (((l.length % 8 : Nat) : Int) = 0) = False := eq_false (by omega)
      rw [packR_part h8] at *
      simp (implicitDefEqProofs := false) only [↓reduceIte, go_sem, oread, owrite, Nat.reduceAdd, Nat.reduceSub, Nat.reduceMul, Nat.reduceLT, Nat.reduceLeDiff, Nat.reduceEqDiff, Nat.reduceBEq, Int.reduceLE, Int.reduceLT, Int.reduceEq, Int.reduceNe, Int.reduceAdd, Int.reduceSub, Int.reduceMul, Int.reduceNeg, Int.reduceToNat, Int.reduceNatCast, reduceCtorEq, eq_self, wH, t0, t1, t24, t25, hk, modI, h8']
      refine awp_drawK 25 K.mixed (by kernel_rfl) (by kernel_rfl) ?_
      simp (implicitDefEqProofs := false) only [↓reduceIte, go_sem, oread, owrite, Nat.reduceAdd, Nat.reduceSub, Nat.reduceMul, Nat.reduceLT, Nat.reduceLeDiff, Nat.reduceEqDiff, Nat.reduceBEq, Int.reduceLE, Int.reduceLT, Int.reduceEq, Int.reduceNe, Int.reduceAdd, Int.reduceSub, Int.reduceMul, Int.reduceNeg, Int.reduceToNat, Int.reduceNatCast, reduceCtorEq, eq_self, t0, t1, t24, t25, divI, modI, hwq, hwk, hwm, hRget, hdlt, hb, e1, e2]
      refine Rnd.same ⟨?_, ?_⟩
      · simp (implicitDefEqProofs := false) only [↓reduceIte, go_sem, oread, owrite, Nat.reduceAdd, Nat.reduceSub, Nat.reduceMul, Nat.reduceLT, Nat.reduceLeDiff, Nat.reduceEqDiff, Nat.reduceBEq, Int.reduceLE, Int.reduceLT, Int.reduceEq, Int.reduceNe, Int.reduceAdd, Int.reduceSub, Int.reduceMul, Int.reduceNeg, Int.reduceToNat, Int.reduceNatCast, reduceCtorEq, eq_self, hRset, hw3, hfin]
      · simp (implicitDefEqProofs := false) only [↓reduceIte, go_sem, oread, owrite, Nat.reduceAdd, Nat.reduceSub, Nat.reduceMul, Nat.reduceLT, Nat.reduceLeDiff, Nat.reduceEqDiff, Nat.reduceBEq, Int.reduceLE, Int.reduceLT, Int.reduceEq, Int.reduceNe, Int.reduceAdd, Int.reduceSub, Int.reduceMul, Int.reduceNeg, Int.reduceToNat, Int.reduceNatCast, reduceCtorEq, eq_self, t0, t1, t24, hw2]
  · rintro s H' ⟨rfl, t0, t1, t24, t25⟩
    simp (implicitDefEqProofs := false) only [↓reduceIte, go_sem, oread, owrite, Nat.reduceAdd, Nat.reduceSub, Nat.reduceMul, Nat.reduceLT, Nat.reduceLeDiff, Nat.reduceEqDiff, Nat.reduceBEq, Int.reduceLE, Int.reduceLT, Int.reduceEq, Int.reduceNe, Int.reduceAdd, Int.reduceSub, Int.reduceMul, Int.reduceNeg, Int.reduceToNat, Int.reduceNatCast, reduceCtorEq, eq_self, t24, t25]
    rw [hE]
    exact ⟨_, Weak.refl _ _, by simp (implicitDefEqProofs := false) only [↓reduceIte, go_sem, oread, owrite, Nat.reduceAdd, Nat.reduceSub, Nat.reduceMul, Nat.reduceLT, Nat.reduceLeDiff, Nat.reduceEqDiff, Nat.reduceBEq, Int.reduceLE, Int.reduceLT, Int.reduceEq, Int.reduceNe, Int.reduceAdd, Int.reduceSub, Int.reduceMul, Int.reduceNeg, Int.reduceToNat, Int.reduceNatCast, reduceCtorEq, eq_self]⟩
set_option maxRecDepth 10000 in
theorem wbytes_does (G : AHeap) (l : List Bool) (hl : l.length ≤ 100000000) : Does Try.prog 45 [.ptr G.length 0 0 0] (wH G l) (.ok (.d (.list false (bys (packB l))))) (wH G l) := by
  have := packB_len l
  generalize hE : wH G l = E
  have hE2 := hE
  rw [wH] at hE2
  refine Does.of_awp (hint := (fun _ => false)) Try.func45 (by kernel_rfl) rfl [2] (by kernel_rfl) (by decide) (by simp [Try.ntmps45]) ?_
  rw [Try.ntmps45]
  rw [← hE]
  simp (implicitDefEqProofs := false) only [↓reduceIte, go_sem, oread, owrite, Nat.reduceAdd, Nat.reduceSub, Nat.reduceMul, Nat.reduceLT, Nat.reduceLeDiff, Nat.reduceEqDiff, Nat.reduceBEq, Int.reduceLE, Int.reduceLT, Int.reduceEq, Int.reduceNe, Int.reduceAdd, Int.reduceSub, Int.reduceMul, Int.reduceNeg, Int.reduceToNat, Int.reduceNatCast, reduceCtorEq, eq_self, wH, show (bys (packB l)).take (packB l).length = bys (packB l) from take_len _ _ (bys_len _), bys_one, bys_len]
  refine ⟨by omega, by omega, AEnd.ret' (T := [.arr 5 1 1 (bys (packB l))]) (by simp) ?_⟩
  simp (implicitDefEqProofs := false) only [↓reduceIte, go_sem, oread, owrite, Nat.reduceAdd, Nat.reduceSub, Nat.reduceMul, Nat.reduceLT, Nat.reduceLeDiff, Nat.reduceEqDiff, Nat.reduceBEq, Int.reduceLE, Int.reduceLT, Int.reduceEq, Int.reduceNe, Int.reduceAdd, Int.reduceSub, Int.reduceMul, Int.reduceNeg, Int.reduceToNat, Int.reduceNatCast, reduceCtorEq, eq_self, show (bys (packB l)).take (packB l).length = bys (packB l) from take_len _ _ (bys_len _)]
/-! ### Pack -/
def bitsL (l : List Nat) (w : Nat) : List Bool := l.flatMap fun n => bitsN n w
def packP (l : List Nat) (w : Nat) : List Nat := packB (bitsL l w)
theorem bitsL_snoc (l : List Nat) (n w : Nat) : bitsL (l ++ [n]) w = bitsL l w ++ bitsN n w := by simp [bitsL]
theorem bitsL_len (l : List Nat) (w : Nat) : (bitsL l w).length = l.length * w := by
  induction l with
  | nil => simp [bitsL]
  | cons x l ih =>
    have : bitsL (x :: l) w = bitsN x w ++ bitsL l w := rfl
    rw [this, List.length_append, ih, bitsN_len, List.length_cons, Nat.add_mul]; omega
set_option maxRecDepth 10000 in
set_option maxHeartbeats 1000000 in
theorem pack_does (l : List Nat) (w : Nat) (hw : w ≤ 64) (hn : ∀ n ∈ l, n < 2 ^ w) (hl : l.length ≤ 1000000) (nn : Bool) (H : AHeap) :
    Does Try.prog 24 [.d (.list nn (us l)), iA w] H (.ok (.tup [.d (.list false (bys (packP l w))), iA 0])) H := by
  have z0 : wH H [] = H ++ [.box 73 2 0 1 [.sl (H.length + 1) 0 0 0, iA 0], .arr 5 1 0 []] := rfl
  have h0 : 0 < 2 ^ w := Nat.two_pow_pos w
  have hbl := bitsL_len l w
  have hbig : l.length * w ≤ 1000000 * 64 := Nat.mul_le_mul hl hw
  refine Does.of_awp (hint := (fun t => t == 1000002 || t == 1000005 || t == 1000006)) Try.func24 (by kernel_rfl) rfl [4, 5] (by kernel_rfl) (by decide) (by simp [Try.ntmps24]) ?_
  rw [Try.ntmps24]
  simp (implicitDefEqProofs := false) only [↓reduceIte, go_sem, oread, owrite, Nat.reduceAdd, Nat.reduceSub, Nat.reduceMul, Nat.reduceLT, Nat.reduceLeDiff, Nat.reduceEqDiff, Nat.reduceBEq, Int.reduceLE, Int.reduceLT, Int.reduceEq, Int.reduceNe, Int.reduceAdd, Int.reduceSub, Int.reduceMul, Int.reduceNeg, Int.reduceToNat, Int.reduceNatCast, reduceCtorEq, eq_self]
  refine ⟨_, _, Weak.virtBox _ _ H.length 73 2 0 1 [.d (.v (.slice none 0 0)), iA 0] 0 _ 5 1 (by decide) (by simp) rfl rfl, ?_⟩
  simp (implicitDefEqProofs := false) only [↓reduceIte, go_sem, oread, owrite, Nat.reduceAdd, Nat.reduceSub, Nat.reduceMul, Nat.reduceLT, Nat.reduceLeDiff, Nat.reduceEqDiff, Nat.reduceBEq, Int.reduceLE, Int.reduceLT, Int.reduceEq, Int.reduceNe, Int.reduceAdd, Int.reduceSub, Int.reduceMul, Int.reduceNeg, Int.reduceToNat, Int.reduceNatCast, reduceCtorEq, eq_self]
  rw [← z0]
  refine KCall.ok (wput_does 0 w hw h0 H [] (by simp)) ?_
  simp (implicitDefEqProofs := false) only [↓reduceIte, go_sem, oread, owrite, Nat.reduceAdd, Nat.reduceSub, Nat.reduceMul, Nat.reduceLT, Nat.reduceLeDiff, Nat.reduceEqDiff, Nat.reduceBEq, Int.reduceLE, Int.reduceLT, Int.reduceEq, Int.reduceNe, Int.reduceAdd, Int.reduceSub, Int.reduceMul, Int.reduceNeg, Int.reduceToNat, Int.reduceNatCast, reduceCtorEq, eq_self]
  refine ⟨_, _, (by unfold wH; exact Weak.drop H _ _), ?_⟩
  simp (implicitDefEqProofs := false) only [↓reduceIte, go_sem, oread, owrite, Nat.reduceAdd, Nat.reduceSub, Nat.reduceMul, Nat.reduceLT, Nat.reduceLeDiff, Nat.reduceEqDiff, Nat.reduceBEq, Int.reduceLE, Int.reduceLT, Int.reduceEq, Int.reduceNe, Int.reduceAdd, Int.reduceSub, Int.reduceMul, Int.reduceNeg, Int.reduceToNat, Int.reduceNatCast, reduceCtorEq, eq_self]
  refine ⟨_, _, Weak.virtBox _ _ H.length 73 2 0 1 [.d (.v (.slice none 0 0)), iA 0] 0 _ 5 1 (by decide) (by simp) rfl rfl, ?_⟩
  simp (implicitDefEqProofs := false) only [↓reduceIte, go_sem, oread, owrite, Nat.reduceAdd, Nat.reduceSub, Nat.reduceMul, Nat.reduceLT, Nat.reduceLeDiff, Nat.reduceEqDiff, Nat.reduceBEq, Int.reduceLE, Int.reduceLT, Int.reduceEq, Int.reduceNe, Int.reduceAdd, Int.reduceSub, Int.reduceMul, Int.reduceNeg, Int.reduceToNat, Int.reduceNatCast, reduceCtorEq, eq_self, us_len]
  rw [← z0]
  refine awp_for (fun k s H' => H' = wH H (bitsL (l.take k) w) ∧ s 1 = iA w ∧ s 6 = .ptr H.length 0 0 0 ∧ s 21 = .d (.list nn (us l)) ∧ s 22 = iA l.length ∧ s 23 = iA k) l.length (by omega) (Weak.refl _ _) ?_ ?_ ?_
  · refine ⟨by simp [bitsL], ?_⟩
    simp (implicitDefEqProofs := false) only [↓reduceIte, go_sem, oread, owrite, Nat.reduceAdd, Nat.reduceSub, Nat.reduceMul, Nat.reduceLT, Nat.reduceLeDiff, Nat.reduceEqDiff, Nat.reduceBEq, Int.reduceLE, Int.reduceLT, Int.reduceEq, Int.reduceNe, Int.reduceAdd, Int.reduceSub, Int.reduceMul, Int.reduceNeg, Int.reduceToNat, Int.reduceNatCast, reduceCtorEq, eq_self]
  · rintro k s H' hk hw2 ⟨rfl, t1, t6, t21, t22, t23⟩
    have hx := us_get l k hk
    have e1 := List.take_succ_eq_append_getElem hk
    have hc := hn _ (List.getElem_mem hk)
    have e2 : bitsL (l.take (k + 1)) w = bitsL (l.take k) w ++ bitsN l[k] w := by rw [e1, bitsL_snoc]
    have e3 := bitsL_len (l.take k) w
    have e4 : (l.take k).length * w ≤ 1000000 * 64 := Nat.mul_le_mul (by simp; omega) hw
    generalize l[k] = x at hx hc e2
    simp (implicitDefEqProofs := false) only [↓reduceIte, go_sem, oread, owrite, Nat.reduceAdd, Nat.reduceSub, Nat.reduceMul, Nat.reduceLT, Nat.reduceLeDiff, Nat.reduceEqDiff, Nat.reduceBEq, Int.reduceLE, Int.reduceLT, Int.reduceEq, Int.reduceNe, Int.reduceAdd, Int.reduceSub, Int.reduceMul, Int.reduceNeg, Int.reduceToNat, Int.reduceNatCast, reduceCtorEq, eq_self, t1, t6, t21, t22, t23, hk, hx]
    refine KCall.ok (wput_does x w hw hc H _ (by omega)) ?_
    simp (implicitDefEqProofs := false) only [↓reduceIte, go_sem, oread, owrite, Nat.reduceAdd, Nat.reduceSub, Nat.reduceMul, Nat.reduceLT, Nat.reduceLeDiff, Nat.reduceEqDiff, Nat.reduceBEq, Int.reduceLE, Int.reduceLT, Int.reduceEq, Int.reduceNe, Int.reduceAdd, Int.reduceSub, Int.reduceMul, Int.reduceNeg, Int.reduceToNat, Int.reduceNatCast, reduceCtorEq, eq_self, t23]
    refine Rnd.same ⟨by rw [e2], ?_⟩
    simp (implicitDefEqProofs := false) only [↓reduceIte, go_sem, oread, owrite, Nat.reduceAdd, Nat.reduceSub, Nat.reduceMul, Nat.reduceLT, Nat.reduceLeDiff, Nat.reduceEqDiff, Nat.reduceBEq, Int.reduceLE, Int.reduceLT, Int.reduceEq, Int.reduceNe, Int.reduceAdd, Int.reduceSub, Int.reduceMul, Int.reduceNeg, Int.reduceToNat, Int.reduceNatCast, reduceCtorEq, eq_self, t1, t6, t21, t22, hw2]
  · rintro s H' ⟨rfl, t1, t6, t21, t22, t23⟩
    rw [List.take_length]
    simp (implicitDefEqProofs := false) only [↓reduceIte, go_sem, oread, owrite, Nat.reduceAdd, Nat.reduceSub, Nat.reduceMul, Nat.reduceLT, Nat.reduceLeDiff, Nat.reduceEqDiff, Nat.reduceBEq, Int.reduceLE, Int.reduceLT, Int.reduceEq, Int.reduceNe, Int.reduceAdd, Int.reduceSub, Int.reduceMul, Int.reduceNeg, Int.reduceToNat, Int.reduceNatCast, reduceCtorEq, eq_self, t6, t22, t23]
    refine KCall.ok (wbytes_does H (bitsL l w) (by omega)) ?_
    simp (implicitDefEqProofs := false) only [↓reduceIte, go_sem, oread, owrite, Nat.reduceAdd, Nat.reduceSub, Nat.reduceMul, Nat.reduceLT, Nat.reduceLeDiff, Nat.reduceEqDiff, Nat.reduceBEq, Int.reduceLE, Int.reduceLT, Int.reduceEq, Int.reduceNe, Int.reduceAdd, Int.reduceSub, Int.reduceMul, Int.reduceNeg, Int.reduceToNat, Int.reduceNatCast, reduceCtorEq, eq_self]
    unfold wH
    refine AEnd.ret ?_
    simp (implicitDefEqProofs := false) only [↓reduceIte, go_sem, oread, owrite, Nat.reduceAdd, Nat.reduceSub, Nat.reduceMul, Nat.reduceLT, Nat.reduceLeDiff, Nat.reduceEqDiff, Nat.reduceBEq, Int.reduceLE, Int.reduceLT, Int.reduceEq, Int.reduceNe, Int.reduceAdd, Int.reduceSub, Int.reduceMul, Int.reduceNeg, Int.reduceToNat, Int.reduceNatCast, reduceCtorEq, eq_self, packP]
end Go.Proofs.Ytcdnbefcccdaeaa

/- The document's Pack, Bits, Get, Unpack (layer 1): what they do. The document's Compare (layers 4 and 5): what it does: the same as val.Compare. The document's Get (layer 2), May (layer 5), Kinds and Check (layer 7): what they do. leb.Text, val.Bytes: what they do. leb.ToText: what it does. flt.Bits, val.float, val.Of: what they do. val.Of: what it does. The document's Bits (layer 4), Text, ToText (layer 2): what they do. The document's Bytes and Of (layer 5): what they do. Drawn regions with stores that may come late: what is read stays as it is. The document's Of (layer 5): what it does. Stable sorting, in plain Lean: what is sorted, and stands alike within each class, is one list. Three-way comparing functions: what they have in common; val.Compare is one. Neighbours that are alike, each once: in plain Lean. What is sorted, each once: in plain Lean. The reference's Below (layer 9): what it does. Words that are put in one by one are the words: plain facts. The document's Same for values. A slot that is nil may be taken for an empty list. The document's Words: what they do. dict.Below, dict.Codes, and the reference's: what they do. -/
import Derived.Test.YtkapgooedfompaaGreatM03
namespace Go.Proofs.YtkapgooedfompaaGreat
open Go.Proofs.YtkapgooedfompaaGreatAw Go.RowKit
set_option linter.unusedVariables false
set_option linter.unusedSimpArgs false
theorem bit_div (n j : Nat) : (((n / 2 ^ j % 2 : Nat) : Int) = 1) = (n.testBit j = true) := by
  rw [Nat.testBit_eq_decide_div_mod_eq]
  refine propext ⟨fun h => ?_, fun h => ?_⟩
  · exact decide_eq_true (by omega)
  · have := of_decide_eq_true h; omega
set_option maxRecDepth 10000 in
set_option maxHeartbeats 1000000 in
theorem rpack_does (l : List Nat) (w : Nat) (hw : w ≤ 64) (hu : ∀ n ∈ l, n < 18446744073709551616) (hn : ∀ n ∈ l, n < 2 ^ w) (hl : l.length ≤ 1000000) (nn : Bool) (H : AHeap) :
    Does Tryz.prog 27 [.d (.list nn (us l)), iA w] H (.ok (.tup [.d (.list false (bys (packP l w))), iA 0])) H := by
  have hbl := bitsL_len l w
  have hlw : l.length * w ≤ 1000000 * 64 := Nat.mul_le_mul hl hw
  refine Does.of_awp (hint := (fun _ => false)) Tryz.func27 (by kernel_rfl) rfl [4, 5] (by kernel_rfl) (by decide) (by simp [Tryz.ntmps27]) ?_
  rw [Tryz.ntmps27]
  simp (implicitDefEqProofs := false) only [↓reduceIte, go_sem, Nat.reduceLT, Nat.reduceEqDiff, reduceCtorEq, eq_self, show ((w : Int) < 0) = False from eq_false (by omega), show ((64 : Int) < (w : Int)) = False from eq_false (by omega)]
  refine awp_for3 (fun k s H' => H' = H ++ [.arr 4 1 (bitsL (l.take k) w).length (bls (bitsL (l.take k) w))] ∧ s 0 = .d (.list nn (us l)) ∧ s 1 = iA w ∧ s 6 = .sl H.length (bitsL (l.take k) w).length 0 (bitsL (l.take k) w).length ∧ s 7 = iA k) l.length (by omega) (Weak.virt1 _ _ 6 4 1 (by decide) (by simp (implicitDefEqProofs := false) only [↓reduceIte, go_sem, Nat.reduceLT, Nat.reduceEqDiff, eq_self]) _) ?_ ?_ ?_
  · rw [show bitsL (l.take 0) w = [] from by rw [List.take_zero]; rfl]
    refine ⟨rfl, ?_⟩
    simp (implicitDefEqProofs := false) only [↓reduceIte, go_sem, Nat.reduceLT, Nat.reduceEqDiff, reduceCtorEq, eq_self, List.length_nil]
  · rintro k s H' hk hwk ⟨rfl, t0, t1, t6, t7⟩
    have hx := us_get l k hk
    have hf := hn _ (List.getElem_mem hk)
    have hxu := hu _ (List.getElem_mem hk)
    have e1 : bitsL (l.take (k + 1)) w = bitsL (l.take k) w ++ bitsN l[k] w := by rw [List.take_succ_eq_append_getElem hk]; exact bitsL_snoc _ _ _
    have hB := bitsL_len (l.take k) w
    rw [List.length_take, Nat.min_eq_left (Nat.le_of_lt hk)] at hB
    have hkw : k * w ≤ l.length * w := Nat.mul_le_mul_right _ (by omega)
    rw [e1]
    generalize bitsL (l.take k) w = B at *
    generalize l[k] = x at *
    simp (implicitDefEqProofs := false) only [↓reduceIte, go_sem, Nat.reduceLT, Nat.reduceEqDiff, reduceCtorEq, eq_self, t0, t1, t7, us_len, hk, hx]
    refine KCall.ok (fits_does x w hxu (by omega) _) ?_
    simp (implicitDefEqProofs := false) only [↓reduceIte, go_sem, Nat.reduceLT, Nat.reduceEqDiff, reduceCtorEq, eq_self, hf, t0, t7, hx]
    refine awp_for3 (fun j s H' => H' = H ++ [.arr 4 1 (B ++ bitsN x j).length (bls (B ++ bitsN x j))] ∧ s 0 = .d (.list nn (us l)) ∧ s 1 = iA w ∧ s 6 = .sl H.length (B ++ bitsN x j).length 0 (B ++ bitsN x j).length ∧ s 7 = iA k ∧ s 8 = du (x / 2 ^ j) ∧ s 9 = iA j) w (by omega) (Weak.refl _ _) ?_ ?_ ?_
    · rw [show B ++ bitsN x 0 = B from List.append_nil _]
      refine ⟨rfl, ?_⟩
      simp (implicitDefEqProofs := false) only [↓reduceIte, go_sem, Nat.reduceLT, Nat.reduceEqDiff, reduceCtorEq, eq_self, t0, t1, t6, t7, Nat.pow_zero, Nat.div_one]
    · rintro j s H' hj hw2 ⟨rfl, t0, t1, t6, t7, t8, t9⟩
      have e := div_pow2 x j
      have hlt : x / 2 ^ j < 18446744073709551616 := Nat.lt_of_le_of_lt (Nat.div_le_self _ _) hxu
      have ew := wrapDiv (c := 2) hlt
      have hb := bit_div x j
      have es : B ++ bitsN x (j + 1) = (B ++ bitsN x j) ++ [x.testBit j] := by rw [bitsN_succ, List.append_assoc]
      have hBl : (B ++ bitsN x j).length = B.length + j := by rw [List.length_append, bitsN_len]
      rw [← e, es]
      generalize x / 2 ^ j = m at *
      generalize B ++ bitsN x j = C at *
      generalize x.testBit j = b at *
      simp (implicitDefEqProofs := false) only [↓reduceIte, go_sem, Nat.reduceLT, Nat.reduceLeDiff, Nat.reduceEqDiff, Int.reduceEq, eq_self, t1, t6, t8, t9, hj, tmod2, tdiv2, ew, hb, bls_len, Bool.decide_eq_true, bls_snoc]
      refine ⟨by omega, by omega, ?_⟩
      refine Rnd.same ⟨?_, ?_⟩
      · simp (implicitDefEqProofs := false) only [go_sem, eq_self]
      · simp (implicitDefEqProofs := false) only [↓reduceIte, go_sem, Nat.reduceLT, Nat.reduceEqDiff, reduceCtorEq, eq_self, t0, t1, t7, hw2]
    · rintro s H' ⟨rfl, t0, t1, t6, t7, t8, t9⟩
      simp (implicitDefEqProofs := false) only [↓reduceIte, go_sem, Nat.reduceLT, Nat.reduceEqDiff, eq_self, t1, t7, t9]
      refine Rnd.same ⟨rfl, ?_⟩
      simp (implicitDefEqProofs := false) only [↓reduceIte, go_sem, Nat.reduceLT, Nat.reduceEqDiff, reduceCtorEq, eq_self, t0, t1, t6, hwk]
  · rintro s H' ⟨rfl, t0, t1, t6, t7⟩
    rw [show l.take l.length = l from List.take_length] at *
    have hrb := fun H => rbytes_does (bitsL l w) false (by omega) H
    generalize hB : bitsL l w = B at *
    have htk : ((bls B).drop 0).take B.length = bls B := by rw [List.drop_zero]; exact take_lenD _ _ (bls_len _)
    simp (implicitDefEqProofs := false) only [↓reduceIte, go_sem, Nat.reduceLT, Nat.reduceEqDiff, reduceCtorEq, eq_self, t0, t6, t7, us_len]
    refine KCall.frz [] (e := 4) (k := 1) (ver := B.length) (es := bls B) (by simp) (by rw [htk]; exact hrb _) ?_
    have hp : packP l w = packB B := by unfold packP; rw [hB]
    simp (implicitDefEqProofs := false) only [↓reduceIte, go_sem, Nat.reduceLT, eq_self]
    refine AEnd.ret' (T := [.arr 4 1 (B.length + 1) []]) (by simp) ?_
    simp (implicitDefEqProofs := false) only [↓reduceIte, go_sem, Nat.reduceLT, Nat.reduceEqDiff, eq_self, hp]
set_option maxRecDepth 10000 in
set_option maxHeartbeats 1000000 in
theorem rbits_does (b : List Nat) (nn : Bool) (hl : b.length ≤ 100000000) (hb : ∀ c ∈ b, c < 256) (H : AHeap) : Does Tryz.prog 73 [.d (.list nn (bys b))] H (.ok (.d (.list false (bls (bitsB b))))) H := by
  refine Does.of_awp (hint := (fun _ => false)) Tryz.func73 (by kernel_rfl) rfl [2] (by kernel_rfl) (by decide) (by simp [Tryz.ntmps73]) ?_
  rw [Tryz.ntmps73]
  simp (implicitDefEqProofs := false) only [go_sem]
  refine awp_for3 (fun k s H' => H' = H ++ [.arr 4 1 (bitsB (b.take k)).length (bls (bitsB (b.take k)))] ∧ s 0 = .d (.list nn (bys b)) ∧ s 3 = .sl H.length (bitsB (b.take k)).length 0 (bitsB (b.take k)).length ∧ s 4 = iA k) b.length (by omega) (Weak.virt1 _ _ 3 4 1 (by decide) (by simp (implicitDefEqProofs := false) only [↓reduceIte, go_sem, Nat.reduceLT, Nat.reduceEqDiff, eq_self]) _) ?_ ?_ ?_
  · rw [show bitsB (b.take 0) = [] from by rw [List.take_zero]; rfl]
    refine ⟨rfl, ?_⟩
    simp (implicitDefEqProofs := false) only [↓reduceIte, go_sem, Nat.reduceLT, Nat.reduceEqDiff, reduceCtorEq, eq_self, List.length_nil]
  · rintro k s H' hk hwk ⟨rfl, t0, t3, t4⟩
    have hx := bys_get b k hk
    have hxu := hb _ (List.getElem_mem hk)
    have e1 : bitsB (b.take (k + 1)) = bitsB (b.take k) ++ bitsN b[k] 8 := by unfold bitsB; rw [List.take_succ_eq_append_getElem hk, List.flatMap_append]; simp
    have hB := bitsB_len (b.take k)
    rw [List.length_take, Nat.min_eq_left (Nat.le_of_lt hk)] at hB
    rw [e1]
    generalize bitsB (b.take k) = B at *
    generalize b[k] = x at *
    simp (implicitDefEqProofs := false) only [↓reduceIte, go_sem, Nat.reduceLT, Nat.reduceEqDiff, reduceCtorEq, eq_self, t0, t4, bys_len, hk, hx]
    refine awp_for3 (fun j s H' => H' = H ++ [.arr 4 1 (B ++ bitsN x j).length (bls (B ++ bitsN x j))] ∧ s 0 = .d (.list nn (bys b)) ∧ s 3 = .sl H.length (B ++ bitsN x j).length 0 (B ++ bitsN x j).length ∧ s 4 = iA k ∧ s 5 = .d (.v (.int .u8 ((x / 2 ^ j : Nat) : Int))) ∧ s 6 = iA j) 8 (by omega) (Weak.refl _ _) ?_ ?_ ?_
    · rw [show B ++ bitsN x 0 = B from List.append_nil _]
      refine ⟨rfl, ?_⟩
      simp (implicitDefEqProofs := false) only [↓reduceIte, go_sem, Nat.reduceLT, Nat.reduceEqDiff, reduceCtorEq, eq_self, t0, t3, t4, Nat.pow_zero, Nat.div_one]
    · rintro j s H' hj hw2 ⟨rfl, t0, t3, t4, t5, t6⟩
      have hj' : ((j : Int) < 8) = True := eq_true (by omega)
      have e := div_pow2 x j
      have hlt : x / 2 ^ j < 256 := Nat.lt_of_le_of_lt (Nat.div_le_self _ _) hxu
      have ew : IntKind.u8.wrap ((x / 2 ^ j / 2 : Nat) : Int) = ((x / 2 ^ j / 2 : Nat) : Int) := wrap8N _ (by omega)
      have hb := bit_div x j
      have es : B ++ bitsN x (j + 1) = (B ++ bitsN x j) ++ [x.testBit j] := by rw [bitsN_succ, List.append_assoc]
      have hBl : (B ++ bitsN x j).length = B.length + j := by rw [List.length_append, bitsN_len]
      rw [← e, es]
      generalize x / 2 ^ j = m at *
      generalize B ++ bitsN x j = C at *
      generalize x.testBit j = t at *
      simp (implicitDefEqProofs := false) only [↓reduceIte, go_sem, Nat.reduceLT, Nat.reduceLeDiff, Nat.reduceEqDiff, Int.reduceEq, eq_self, t3, t5, t6, hj', tmod2, tdiv2, ew, hb, bls_len, Bool.decide_eq_true, bls_snoc]
      refine ⟨by omega, by omega, ?_⟩
      refine Rnd.same ⟨?_, ?_⟩
      · simp (implicitDefEqProofs := false) only [go_sem, eq_self]
      · simp (implicitDefEqProofs := false) only [↓reduceIte, go_sem, Nat.reduceLT, Nat.reduceEqDiff, reduceCtorEq, eq_self, t0, t4, hw2]
    · rintro s H' ⟨rfl, t0, t3, t4, t5, t6⟩
      simp (implicitDefEqProofs := false) only [↓reduceIte, go_sem, Nat.reduceLT, Nat.reduceEqDiff, Int.reduceLT, eq_self, t4, t6]
      refine Rnd.same ⟨rfl, ?_⟩
      simp (implicitDefEqProofs := false) only [↓reduceIte, go_sem, Nat.reduceLT, Nat.reduceEqDiff, reduceCtorEq, eq_self, t0, t3, hwk]
  · rintro s H' ⟨rfl, t0, t3, t4⟩
    rw [show b.take b.length = b from List.take_length] at *
    simp (implicitDefEqProofs := false) only [↓reduceIte, go_sem, Nat.reduceLT, Nat.reduceEqDiff, reduceCtorEq, eq_self, t0, t3, t4, bys_len]
    refine AEnd.ret ?_
    simp (implicitDefEqProofs := false) only [↓reduceIte, go_sem, Nat.reduceLT, eq_self, take_lenD (bls (bitsB b)) (bitsB b).length (bls_len _)]
theorem byteOf_drop (L : List Bool) (i : Nat) (h : i < L.length) : byteOf (L.drop i) = L[i].toNat + 2 * byteOf (L.drop (i + 1)) := by
  rw [List.drop_eq_getElem_cons h]; rfl
set_option maxRecDepth 10000 in
set_option maxHeartbeats 1000000 in
theorem r1get_does (r : List Bool) (w : Nat) (nn : Bool) (hw : w ≤ 64) (hr : w ≤ r.length) (hl : r.length ≤ 9007199254740992) (H : AHeap) :
    Does Tryz.prog 74 [.d (.list nn (bls r)), iA w] H (.ok (.tup [du (byteOf (r.take w)), .d (.list false (bls (r.drop w))), iA 0])) H := by
  refine Does.of_awp (hint := (fun _ => false)) Tryz.func74 (by kernel_rfl) rfl [4, 5, 6] (by kernel_rfl) (by decide) (by simp [Tryz.ntmps74]) ?_
  rw [Tryz.ntmps74]
  simp (implicitDefEqProofs := false) only [↓reduceIte, go_sem, Nat.reduceLT, Nat.reduceEqDiff, reduceCtorEq, eq_self, show ((w : Int) < 0) = False from eq_false (by omega), show ((64 : Int) < (w : Int)) = False from eq_false (by omega), bls_len, show ((r.length : Int) < (w : Int)) = False from eq_false (by omega)]
  have w0 : IntKind.i64.wrap ((w : Int) - 1) = (w : Int) - 1 := wrap64_in _ (by omega) (by omega)
  refine awp_for3 (fun k s H' => H' = H ∧ s 0 = .d (.list nn (bls r)) ∧ s 1 = iA w ∧ s 7 = du (byteOf ((r.take w).drop (w - k))) ∧ s 8 = iA ((w : Int) - 1 - k)) w (by omega) (Weak.refl _ _) ?_ ?_ ?_
  · have e : byteOf ((r.take w).drop (w - 0)) = 0 := by rw [List.drop_of_length_le (by rw [List.length_take]; omega)]; rfl
    rw [e, show (w : Int) - 1 - ((0 : Nat) : Int) = (w : Int) - 1 by omega]
    refine ⟨rfl, ?_⟩
    simp (implicitDefEqProofs := false) only [↓reduceIte, go_sem, Nat.reduceLT, Nat.reduceEqDiff, reduceCtorEq, eq_self, w0]
    rfl
  · rintro k s H' hk hw2 ⟨rfl, t0, t1, t7, t8⟩
    obtain ⟨i, hi⟩ : ∃ i, i = w - 1 - k := ⟨_, rfl⟩
    have h1 : w - k = i + 1 := by omega
    have h2 : w - (k + 1) = i := by omega
    have h3 : (w : Int) - 1 - k = (i : Int) := by omega
    have h4 : (w : Int) - 1 - ((k + 1 : Nat) : Int) = (i : Int) - 1 := by omega
    have h5 : IntKind.i64.wrap ((i : Int) - 1) = (i : Int) - 1 := wrap64_in _ (by omega) (by omega)
    have hri : i < r.length := by omega
    have hti : i < (r.take w).length := by rw [List.length_take]; omega
    have e := byteOf_drop (r.take w) i hti
    rw [List.getElem_take] at e
    have hlt := byteOf_lt ((r.take w).drop i)
    have hlt2 : (2 : Nat) ^ ((r.take w).drop i).length ≤ 2 ^ 64 := Nat.pow_le_pow_right (by decide) (by simp; omega)
    rw [e] at hlt
    rw [h1] at t7
    rw [h3] at t8
    rw [h2, h4, e]
    have hx := bls_get r i hri
    generalize r[i] = b at *
    generalize byteOf ((r.take w).drop (i + 1)) = m at *
    have e2 : IntKind.u64.wrap (2 * (m : Int)) = ((2 * m : Nat) : Int) := by rw [show (2 : Int) * (m : Int) = ((2 * m : Nat) : Int) by omega]; exact wrapU64N _ (by omega)
    have e3 : IntKind.u64.wrap (((2 * m : Nat) : Int) + 1) = ((1 + 2 * m : Nat) : Int) ∨ b = false := by
      cases b
      · exact .inr rfl
      · left
        simp only [Bool.toNat_true] at hlt
        rw [show ((2 * m : Nat) : Int) + 1 = ((1 + 2 * m : Nat) : Int) by omega]; exact wrapU64N _ (by omega)
    generalize hm2 : ((2 * m : Nat) : Int) = M at *
    cases b with
    | true =>
      rcases e3 with e3 | e3
      · simp (implicitDefEqProofs := false) only [↓reduceIte, go_sem, Nat.reduceLT, Nat.reduceEqDiff, reduceCtorEq, eq_self, t0, t7, t8, hx, e2, e3, h5]
        refine Rnd.same ⟨rfl, ?_⟩
        simp (implicitDefEqProofs := false) only [↓reduceIte, go_sem, Nat.reduceLT, Nat.reduceEqDiff, reduceCtorEq, eq_self, t0, t1, Bool.toNat_true]
        exact congrArg (fun z => AV.d (D.v (Value.int .u64 z))) (by omega)
      · cases e3
    | false =>
      simp (implicitDefEqProofs := false) only [↓reduceIte, go_sem, Nat.reduceLT, Nat.reduceEqDiff, reduceCtorEq, eq_self, t0, t7, t8, hx, e2, h5]
      refine Rnd.same ⟨rfl, ?_⟩
      simp (implicitDefEqProofs := false) only [↓reduceIte, go_sem, Nat.reduceLT, Nat.reduceEqDiff, reduceCtorEq, eq_self, t0, t1, Bool.toNat_false, Nat.zero_add]
      exact congrArg (fun z => AV.d (D.v (Value.int .u64 z))) (by omega)
  · rintro s H' ⟨rfl, t0, t1, t7, t8⟩
    rw [Nat.sub_self, List.drop_zero] at t7
    have h3 : (w : Int) - 1 - (w : Int) = -1 := by omega
    rw [h3] at t8
    simp (implicitDefEqProofs := false) only [↓reduceIte, go_sem, Nat.reduceLT, Int.reduceLE, Int.reduceNeg, eq_self, t8]
    refine awp_draw K.mixed (by kernel_rfl) ?_
    simp (implicitDefEqProofs := false) only [↓reduceIte, go_sem, Nat.reduceLT, Nat.reduceEqDiff, Int.reduceNeg, reduceCtorEq, eq_self, t0, t1, t7, bls_one, bls_len, hr]
    refine AEnd.ret0 ?_
    simp (implicitDefEqProofs := false) only [↓reduceIte, go_sem, Nat.reduceLT, Nat.reduceEqDiff, Int.reduceNeg, eq_self, take_lenD (bls r) r.length (bls_len _), bls_drop]
theorem byteOf_zero2 : ∀ l : List Bool, byteOf l = 0 ↔ ∀ b ∈ l, b = false
  | [] => by simp [byteOf]
  | b :: r => by
    have := byteOf_zero2 r
    simp only [byteOf, List.mem_cons, forall_eq_or_imp, ← this]
    cases b <;> simp
    omega
theorem runpack_mul (k w n : Nat) (hk : k ≤ n) (hn : n ≤ 1048576) (hw : w ≤ 64) : IntKind.i64.wrap ((k : Int) * (w : Int)) = ((k * w : Nat) : Int) := by
  have h1 : k * w ≤ 1048576 * 64 := Nat.mul_le_mul (by omega) hw
  rw [show (k : Int) * (w : Int) = ((k * w : Nat) : Int) by push_cast; rfl]
  exact wrapI _ (by omega)
set_option maxRecDepth 10000 in
set_option maxHeartbeats 1000000 in
theorem runpack_does (b : List Nat) (n w : Nat) (nn : Bool) (hl : b.length ≤ 140737488351232) (hb : ∀ c ∈ b, c < 256) (hn : n ≤ 1048576) (hw : w ≤ 64) (H : AHeap) :
    Does Tryz.prog 37 [.d (.list nn (bys b)), iA n, iA w] H (.ok (.tup [unpackA b n w, iA (unpackE b n w)])) H := by
  have hnw : n * w ≤ 1048576 * 64 := Nat.mul_le_mul hn hw
  have m1 := runpack_mul n w n (Nat.le_refl _) hn hw
  have m2 : IntKind.i64.wrap (8 * (b.length : Int)) = ((8 * b.length : Nat) : Int) := by rw [wrap64_in _ (by omega) (by omega)]; omega
  have m3 : IntKind.i64.wrap (((8 * b.length : Nat) : Int) - ((n * w : Nat) : Int)) = ((8 * b.length : Nat) : Int) - ((n * w : Nat) : Int) := wrap64_in _ (by omega) (by omega)
  have hBl := bitsB_len b
  have hE : unpackE b n w = if 8 * b.length < n * w then 3 else if n * w + 8 ≤ 8 * b.length then 4 else if byteOf ((bitsB b).drop (n * w)) = 0 then 0 else 4 := rfl
  refine Does.of_awp (hint := (fun _ => false)) Tryz.func37 (by kernel_rfl) rfl [6, 7] (by kernel_rfl) (by decide) (by simp [Tryz.ntmps37]) ?_
  rw [Tryz.ntmps37]
  generalize hN : n * w = N at *
  generalize hT : 8 * b.length = T at *
  by_cases h1 : T < N
  · rw [if_pos h1] at hE
    simp (implicitDefEqProofs := false) only [↓reduceIte, go_sem, Nat.reduceLT, Nat.reduceEqDiff, reduceCtorEq, eq_self, show ((n : Int) < 0) = False from eq_false (by omega), show ((1048576 : Int) < (n : Int)) = False from eq_false (by omega), show ((w : Int) < 0) = False from eq_false (by omega), show ((64 : Int) < (w : Int)) = False from eq_false (by omega), bys_len, m1, m2, show ((T : Int) < (N : Int)) = True from eq_true (by omega)]
    refine AEnd.ret0 ?_
    simp (implicitDefEqProofs := false) only [↓reduceIte, go_sem, Nat.reduceLT, Nat.reduceEqDiff, Int.reduceEq, eq_self, hE, unpackA]
  rw [if_neg h1] at hE
  by_cases h2 : N + 8 ≤ T
  · rw [if_pos h2] at hE
    simp (implicitDefEqProofs := false) only [↓reduceIte, go_sem, Nat.reduceLT, Nat.reduceEqDiff, reduceCtorEq, eq_self, show ((n : Int) < 0) = False from eq_false (by omega), show ((1048576 : Int) < (n : Int)) = False from eq_false (by omega), show ((w : Int) < 0) = False from eq_false (by omega), show ((64 : Int) < (w : Int)) = False from eq_false (by omega), bys_len, m1, m2, m3, show ((T : Int) < (N : Int)) = False from eq_false (by omega), show ((8 : Int) ≤ (T : Int) - (N : Int)) = True from eq_true (by omega)]
    refine AEnd.ret0 ?_
    simp (implicitDefEqProofs := false) only [↓reduceIte, go_sem, Nat.reduceLT, Nat.reduceEqDiff, Int.reduceEq, eq_self, hE, unpackA]
  rw [if_neg h2] at hE
  simp (implicitDefEqProofs := false) only [↓reduceIte, go_sem, Nat.reduceLT, Nat.reduceEqDiff, reduceCtorEq, eq_self, show ((n : Int) < 0) = False from eq_false (by omega), show ((1048576 : Int) < (n : Int)) = False from eq_false (by omega), show ((w : Int) < 0) = False from eq_false (by omega), show ((64 : Int) < (w : Int)) = False from eq_false (by omega), bys_len, m1, m2, m3, show ((T : Int) < (N : Int)) = False from eq_false (by omega), show ((8 : Int) ≤ (T : Int) - (N : Int)) = False from eq_false (by omega)]
  refine KCall.ok (rbits_does b nn (by omega) hb H) ?_
  simp (implicitDefEqProofs := false) only [↓reduceIte, go_sem, Nat.reduceLT, eq_self]
  have hpart : ∀ k, partP b w k = byteOf (((bitsB b).drop (k * w)).take w) := fun k => rfl
  generalize bitsB b = r at *
  refine awp_for3 (fun k s H' => H' = H ++ [.arr 48 1 k (us (unpackL b k w))] ∧ s 1 = iA n ∧ s 2 = iA w ∧ s 8 = .d (.list false (bls r)) ∧ s 9 = .sl H.length k 0 k ∧ s 10 = iA k) n (by omega) (Weak.virt1 _ _ 9 48 1 (by decide) (by simp (implicitDefEqProofs := false) only [↓reduceIte, go_sem, Nat.reduceLT, Nat.reduceEqDiff, eq_self]) _) ?_ ?_ ?_
  · refine ⟨rfl, ?_⟩
    simp (implicitDefEqProofs := false) only [↓reduceIte, go_sem, Nat.reduceLT, Nat.reduceEqDiff, eq_self]
  · rintro k s H' hk hwk ⟨rfl, t1, t2, t8, t9, t10⟩
    have mk := runpack_mul k w n (by omega) hn hw
    have hkw : (k + 1) * w ≤ n * w := Nat.mul_le_mul_right _ hk
    rw [Nat.add_mul, Nat.one_mul] at hkw
    have e1 := unpackL_succ b k w
    have el := unpackL_len b k w
    rw [hpart] at e1
    rw [e1]
    generalize unpackL b k w = L at *
    have hget := fun H => r1get_does (r.drop (k * w)) w false hw (by rw [List.length_drop]; omega) (by rw [List.length_drop]; omega) H
    generalize byteOf ((r.drop (k * w)).take w) = x at *
    simp (implicitDefEqProofs := false) only [↓reduceIte, go_sem, Nat.reduceLT, Nat.reduceEqDiff, eq_self, t1, t2, t8, t10, hk, mk, bls_one, bls_len, show k * w ≤ r.length from by omega, take_lenD (bls r) r.length (bls_len _), bls_drop]
    refine KCall.ok (hget _) ?_
    simp (implicitDefEqProofs := false) only [↓reduceIte, go_sem, Nat.reduceLT, Nat.reduceLeDiff, Nat.reduceEqDiff, eq_self, t9, t10, us_len, el, us_snoc]
    refine ⟨by omega, by omega, Rnd.same ⟨rfl, ?_⟩⟩
    simp (implicitDefEqProofs := false) only [↓reduceIte, go_sem, Nat.reduceLT, Nat.reduceEqDiff, eq_self, t1, t2, t8, hwk]
  · rintro s H' ⟨rfl, t1, t2, t8, t9, t10⟩
    simp (implicitDefEqProofs := false) only [↓reduceIte, go_sem, Nat.reduceLT, Nat.reduceEqDiff, eq_self, t1, t2, t10, m1]
    refine awp_for3 (fun k s H' => H' = H ++ [.arr 48 1 n (us (unpackL b n w))] ∧ (∀ i, N ≤ i → i < N + k → ∀ (h : i < r.length), r[i] = false) ∧ s 8 = .d (.list false (bls r)) ∧ s 9 = .sl H.length n 0 n ∧ s 14 = iA ((N + k : Nat) : Int)) (T - N) (by omega) (Weak.refl _ _) ?_ ?_ ?_
    · refine ⟨rfl, fun i h1 h2 => by omega, ?_⟩
      simp (implicitDefEqProofs := false) only [↓reduceIte, go_sem, Nat.reduceLT, Nat.reduceEqDiff, eq_self, t8, t9, Nat.add_zero]
    · rintro k s H' hk hwk ⟨rfl, hf, t8, t9, t14⟩
      have hNk : N + k < r.length := by omega
      have hx := bls_get r (N + k) hNk
      have hbad : r[N + k] = true → byteOf (r.drop N) ≠ 0 := fun h h0 => by
        have := (byteOf_zero2 _).1 h0 r[N + k] (List.mem_iff_getElem.2 ⟨k, by rw [List.length_drop]; omega, by rw [List.getElem_drop]⟩)
        rw [h] at this; cases this
      have hf2 : r[N + k] = false → ∀ i, N ≤ i → i < N + (k + 1) → ∀ (h : i < r.length), r[i] = false := fun h i h1 h2 h3 => by
        by_cases e : i = N + k
        · subst e; exact h
        · exact hf i h1 (by omega) h3
      have hw1 : IntKind.i64.wrap (((N + k : Nat) : Int) + 1) = ((N + (k + 1) : Nat) : Int) := by rw [wrap64_in _ (by omega) (by omega)]; omega
      generalize r[N + k] = x at *
      generalize N + k = i at *
      generalize N + (k + 1) = i2 at *
      cases x with
      | true =>
        rw [if_neg (hbad rfl)] at hE
        simp (implicitDefEqProofs := false) only [↓reduceIte, go_sem, Nat.reduceLT, Nat.reduceEqDiff, eq_self, t8, t14, bls_len, hNk, hx]
        refine AEnd.ret ?_
        simp (implicitDefEqProofs := false) only [↓reduceIte, go_sem, Nat.reduceLT, Nat.reduceEqDiff, Int.reduceEq, eq_self, hE, unpackA]
      | false =>
        simp (implicitDefEqProofs := false) only [↓reduceIte, go_sem, Nat.reduceLT, Nat.reduceEqDiff, eq_self, t8, t14, bls_len, hNk, hx, hw1]
        refine Rnd.same ⟨rfl, hf2 rfl, ?_⟩
        simp (implicitDefEqProofs := false) only [↓reduceIte, go_sem, Nat.reduceLT, Nat.reduceEqDiff, eq_self, t8, t9]
    · rintro s H' ⟨rfl, hf, t8, t9, t14⟩
      rw [show N + (T - N) = T by omega] at *
      have h0 : byteOf (r.drop N) = 0 := (byteOf_zero2 _).2 fun x hx => by
        obtain ⟨i, hi, rfl⟩ := List.mem_iff_getElem.1 hx
        rw [List.length_drop] at hi
        rw [List.getElem_drop]
        exact hf (N + i) (by omega) (by omega) (by omega)
      rw [if_pos h0] at hE
      simp (implicitDefEqProofs := false) only [↓reduceIte, go_sem, Nat.reduceLT, Nat.reduceEqDiff, eq_self, t8, t9, t14, bls_len, hBl]
      refine AEnd.ret ?_
      simp (implicitDefEqProofs := false) only [↓reduceIte, go_sem, Nat.reduceLT, Nat.reduceEqDiff, eq_self, hE, unpackA, take_lenD (us (unpackL b n w)) n (by rw [us_len, unpackL_len])]
end Go.Proofs.YtkapgooedfompaaGreat
namespace Go.Proofs.YtkapgooedfompaaGreat
open Go.Proofs.YtkapgooedfompaaGreatAw Go.RowKit
set_option linter.unusedVariables false
set_option linter.unusedSimpArgs false
theorem u64_of (n : Nat) (h : n < 18446744073709551616) : IntKind.u64.wrap (n : Int) = n := by
  simp [IntKind.wrap, IntKind.signed, IntKind.bits]; omega
set_option maxRecDepth 10000 in
theorem parts04_does (b : Nat) (hb : b < 18446744073709551616) (H : AHeap) : Does Tryz.prog 86 [du b] H (.ok (.tup [bA (decide (9223372036854775808 ≤ b)), du (b / 4503599627370496 % 2048), du (b % 4503599627370496)])) H := by
  have e1 : (b : Int).tdiv 4503599627370496 = ((b / 4503599627370496 : Nat) : Int) := rfl
  have e2 : ((b / 4503599627370496 : Nat) : Int).tmod 2048 = ((b / 4503599627370496 % 2048 : Nat) : Int) := rfl
  have e3 : (b : Int).tmod 4503599627370496 = ((b % 4503599627370496 : Nat) : Int) := rfl
  have e4 : ((9223372036854775808 : Int) ≤ (b : Int)) = (9223372036854775808 ≤ b) := by simp; omega
  refine Does.of_awp (hint := (fun _ => false)) Tryz.func86 (by kernel_rfl) rfl [2, 3, 4] (by kernel_rfl) (by decide) (by simp [Tryz.ntmps86]) ?_
  rw [Tryz.ntmps86]
  simp (implicitDefEqProofs := false) only [↓reduceIte, go_sem, Nat.reduceLT, Nat.reduceEqDiff, Int.reduceEq, reduceCtorEq, eq_self, e1, e2, e3, u64_of _ (show b / 4503599627370496 < 18446744073709551616 by omega)]
  refine AEnd.ret0 ?_
  simp (implicitDefEqProofs := false) only [↓reduceIte, go_sem, Nat.reduceLT, Nat.reduceEqDiff, eq_self, e4]
theorem nan04 (b : Nat) : (decide (b / 4503599627370496 % 2048 = 2047) && !decide (b % 4503599627370496 = 0)) = nanN b := by
  unfold nanN
  rw [Bool.eq_iff_iff]
  simp only [Bool.and_eq_true, decide_eq_true_eq, Bool.not_eq_true', decide_eq_false_iff_not]
  omega
set_option maxRecDepth 10000 in
theorem nan04_does (b : Nat) (hb : b < 18446744073709551616) (H : AHeap) : Does Tryz.prog 100 [du b] H (.ok (bA (nanN b))) H := by
  rw [← nan04]
  have hp := parts04_does b hb H
  generalize b / 4503599627370496 % 2048 = e at hp ⊢
  generalize b % 4503599627370496 = f at hp ⊢
  have e1 : (((e : Nat) : Int) = 2047) = (e = 2047) := by simp; omega
  have e2 : (((f : Nat) : Int) = 0) = (f = 0) := by simp
  refine Does.of_awp (hint := (fun _ => false)) Tryz.func100 (by kernel_rfl) rfl [2] (by kernel_rfl) (by decide) (by simp [Tryz.ntmps100]) ?_
  rw [Tryz.ntmps100]
  simp (implicitDefEqProofs := false) only [↓reduceIte, go_sem, Nat.reduceLT, reduceCtorEq, eq_self]
  refine KCall.ok hp ?_
  simp (implicitDefEqProofs := false) only [↓reduceIte, go_sem, Nat.reduceLT, Nat.reduceEqDiff, eq_self]
  by_cases h : e = 2047
  · simp (implicitDefEqProofs := false) only [↓reduceIte, go_sem, Nat.reduceLT, Nat.reduceEqDiff, eq_self, e2, h]
    refine AEnd.ret0 ?_
    simp (implicitDefEqProofs := false) only [↓reduceIte, go_sem, Nat.reduceLT, eq_self, h]
  · simp (implicitDefEqProofs := false) only [↓reduceIte, go_sem, Nat.reduceLT, Nat.reduceEqDiff, reduceCtorEq, eq_self, e1, h]
    refine AEnd.ret0 ?_
    simp (implicitDefEqProofs := false) only [↓reduceIte, go_sem, Nat.reduceLT, eq_self, h]
set_option maxRecDepth 10000 in
theorem clean04_does (b : Nat) (hb : b < 18446744073709551616) (H : AHeap) : Does Tryz.prog 85 [du b] H (.ok (du (cleanN b))) H := by
  unfold cleanN
  refine Does.of_awp (hint := (fun _ => false)) Tryz.func85 (by kernel_rfl) rfl [2] (by kernel_rfl) (by decide) (by simp [Tryz.ntmps85]) ?_
  rw [Tryz.ntmps85]
  simp (implicitDefEqProofs := false) only [↓reduceIte, go_sem, Nat.reduceLT, reduceCtorEq, eq_self]
  refine KCall.ok (nan04_does b hb _) ?_
  cases h : nanN b with
  | true =>
    simp (implicitDefEqProofs := false) only [↓reduceIte, go_sem, Nat.reduceLT, eq_self]
    refine AEnd.ret0 ?_
    simp (implicitDefEqProofs := false) only [↓reduceIte, go_sem, Nat.reduceLT, eq_self]
    rfl
  | false =>
    simp (implicitDefEqProofs := false) only [↓reduceIte, go_sem, Nat.reduceLT, reduceCtorEq, eq_self]
    refine AEnd.ret0 ?_
    simp (implicitDefEqProofs := false) only [↓reduceIte, go_sem, Nat.reduceLT, eq_self, Bool.false_eq_true]
set_option maxRecDepth 10000 in
theorem key04_does (b : Nat) (hb : b < 18446744073709551616) (H : AHeap) : Does Tryz.prog 60 [du b] H (.ok (du (keyN b))) H := by
  have hc := clean04_does b hb H
  have hlt := cleanN_lt b hb
  unfold keyN
  generalize cleanN b = c at hc hlt ⊢
  refine Does.of_awp (hint := (fun _ => false)) Tryz.func60 (by kernel_rfl) rfl [2] (by kernel_rfl) (by decide) (by simp [Tryz.ntmps60]) ?_
  rw [Tryz.ntmps60]
  simp (implicitDefEqProofs := false) only [↓reduceIte, go_sem, Nat.reduceLT, reduceCtorEq, eq_self]
  refine KCall.ok hc ?_
  simp (implicitDefEqProofs := false) only [↓reduceIte, go_sem, Nat.reduceLT, eq_self]
  refine KCall.ok (parts04_does c hlt _) ?_
  simp (implicitDefEqProofs := false) only [↓reduceIte, go_sem, Nat.reduceLT, Nat.reduceEqDiff, eq_self]
  by_cases h : 9223372036854775808 ≤ c
  · have e1 : IntKind.u64.wrap ((18446744073709551615 : Int) - (c : Int)) = ((18446744073709551615 - c : Nat) : Int) := by rw [show (18446744073709551615 : Int) - (c : Int) = ((18446744073709551615 - c : Nat) : Int) from by omega]; exact u64_of _ (by omega)
    simp (implicitDefEqProofs := false) only [↓reduceIte, go_sem, Nat.reduceLT, Nat.reduceEqDiff, eq_self, h, e1]
    refine AEnd.ret0 ?_
    simp (implicitDefEqProofs := false) only [↓reduceIte, go_sem, Nat.reduceLT, eq_self, h]
  · have e2 : (c : Int) + 9223372036854775808 = ((c + 9223372036854775808 : Nat) : Int) := by omega
    have e1 : IntKind.u64.wrap ((c : Int) + 9223372036854775808) = ((c + 9223372036854775808 : Nat) : Int) := by rw [show (c : Int) + 9223372036854775808 = ((c + 9223372036854775808 : Nat) : Int) from by omega]; exact u64_of _ (by omega)
    simp (implicitDefEqProofs := false) only [↓reduceIte, go_sem, Nat.reduceLT, Nat.reduceEqDiff, eq_self, h, e1]
    refine AEnd.ret0 ?_
    simp (implicitDefEqProofs := false) only [↓reduceIte, go_sem, Nat.reduceLT, eq_self, h, du, Int.natCast_add]
    try rfl
set_option maxRecDepth 10000 in
theorem fcmp04_does (a b : Nat) (ha : a < 18446744073709551616) (hb : b < 18446744073709551616) (H : AHeap) : Does Tryz.prog 81 [du a, du b] H (.ok (iA (cmpF a b))) H := by
  have k1 := key04_does a ha H
  have k2 := key04_does b hb H
  unfold cmpF
  generalize keyN a = x at k1 ⊢
  generalize keyN b = y at k2 ⊢
  refine Does.of_awp (hint := (fun _ => false)) Tryz.func81 (by kernel_rfl) rfl [4] (by kernel_rfl) (by decide) (by simp [Tryz.ntmps81]) ?_
  rw [Tryz.ntmps81]
  simp (implicitDefEqProofs := false) only [↓reduceIte, go_sem, Nat.reduceLT, Int.reduceNeg, reduceCtorEq, eq_self]
  refine KCall.ok k1 ?_
  simp (implicitDefEqProofs := false) only [↓reduceIte, go_sem, Nat.reduceLT, Nat.reduceEqDiff, eq_self]
  refine KCall.ok k2 ?_
  simp (implicitDefEqProofs := false) only [↓reduceIte, go_sem, Nat.reduceLT, Nat.reduceEqDiff, Int.reduceNeg, eq_self]
  by_cases h : x < y
  · refine awp_T (by simp (implicitDefEqProofs := false) only [go_sem, eq_self, h]) ?_
    simp (implicitDefEqProofs := false) only [go_sem, Int.reduceNeg]
    refine AEnd.ret0 ?_
    simp (implicitDefEqProofs := false) only [↓reduceIte, go_sem, Nat.reduceLT, Int.reduceNeg, eq_self, ordI, h]
  · refine awp_F (by simp (implicitDefEqProofs := false) only [go_sem, eq_self, h]) ?_
    simp (implicitDefEqProofs := false) only [↓reduceIte, go_sem, Nat.reduceLT, reduceCtorEq, eq_self]
    refine KCall.ok k1 ?_
    simp (implicitDefEqProofs := false) only [↓reduceIte, go_sem, Nat.reduceLT, Nat.reduceEqDiff, eq_self]
    refine KCall.ok k2 ?_
    simp (implicitDefEqProofs := false) only [↓reduceIte, go_sem, Nat.reduceLT, Nat.reduceEqDiff, eq_self]
    by_cases h2 : y < x
    · refine awp_T (by simp (implicitDefEqProofs := false) only [go_sem, eq_self, h2]) ?_
      simp (implicitDefEqProofs := false) only [go_sem]
      refine AEnd.ret0 ?_
      simp (implicitDefEqProofs := false) only [↓reduceIte, go_sem, Nat.reduceLT, reduceCtorEq, eq_self, ordI, h, h2]
    · refine awp_F (by simp (implicitDefEqProofs := false) only [go_sem, eq_self, h2]) ?_
      simp (implicitDefEqProofs := false) only [go_sem]
      refine AEnd.ret0 ?_
      simp (implicitDefEqProofs := false) only [↓reduceIte, go_sem, Nat.reduceLT, reduceCtorEq, eq_self, ordI, h, h2]
set_option maxRecDepth 10000 in
theorem order05_does (less more : Bool) (H : AHeap) : Does Tryz.prog 80 [bA less, bA more] H (.ok (iA (ordI less more))) H := by
  unfold ordI
  refine Does.of_awp (hint := (fun _ => false)) Tryz.func80 (by kernel_rfl) rfl [4] (by kernel_rfl) (by decide) (by simp [Tryz.ntmps80]) ?_
  rw [Tryz.ntmps80]
  cases less with
  | true =>
    simp (implicitDefEqProofs := false) only [↓reduceIte, go_sem, Nat.reduceLT, Int.reduceNeg, reduceCtorEq, eq_self]
    refine AEnd.ret0 ?_
    simp (implicitDefEqProofs := false) only [↓reduceIte, go_sem, Nat.reduceLT, Int.reduceNeg, eq_self]
  | false =>
    cases more with
    | true =>
      simp (implicitDefEqProofs := false) only [↓reduceIte, go_sem, Nat.reduceLT, Nat.reduceEqDiff, Int.reduceNeg, reduceCtorEq, eq_self]
      refine AEnd.ret0 ?_
      simp (implicitDefEqProofs := false) only [↓reduceIte, go_sem, Nat.reduceLT, eq_self, Bool.false_eq_true]
    | false =>
      simp (implicitDefEqProofs := false) only [↓reduceIte, go_sem, Nat.reduceLT, Nat.reduceEqDiff, Int.reduceNeg, reduceCtorEq, eq_self]
      refine AEnd.ret0 ?_
      simp (implicitDefEqProofs := false) only [↓reduceIte, go_sem, Nat.reduceLT, eq_self, Bool.false_eq_true]
def cmpL (a b : List UInt8) : Int := ordI (Op.bytesLess a b) (!(Op.bytesLess a b || a == b))
theorem cmpL_cons (x y : UInt8) (a b : List UInt8) : cmpL (x :: a) (y :: b) = if x.toNat < y.toNat then -1 else if y.toNat < x.toNat then 1 else cmpL a b := by
  unfold cmpL
  by_cases h : x < y
  · have h' : x.toNat < y.toNat := h
    simp [Op.bytesLess, h, h', ordI]
  · have h' : ¬ x.toNat < y.toNat := h
    by_cases h2 : y.toNat < x.toNat
    · have hne : (x == y) = false := by
        rw [beq_eq_false_iff_ne]; intro e; subst e; omega
      have hne' : ¬ x = y := by simpa using hne
      simp [Op.bytesLess, h, h', h2, ordI, hne']
    · have e : x = y := UInt8.toNat_inj.1 (by omega)
      subst e
      simp [Op.bytesLess, ordI]
theorem cmpL_nil_left (b : List UInt8) : cmpL [] b = ordI (decide (0 < b.length)) false := by
  cases b <;> simp [cmpL, Op.bytesLess, ordI]
theorem cmpL_nil_right (a : List UInt8) : cmpL a [] = ordI false (decide (0 < a.length)) := by
  cases a <;> simp [cmpL, Op.bytesLess, ordI]
theorem size_toList (a : ByteArray) : a.toList.length = a.size := by rw [ByteArray.toList_eq]; simp
theorem get_toList (a : ByteArray) (k : Nat) : a[k]? = a.toList[k]? := by
  rw [ByteArray.toList_eq]
  by_cases h : k < a.size
  · simp [h]
    rfl
  · simp [h]
theorem cmpL_drop (a b : List UInt8) : ∀ (k : Nat), k ≤ a.length → k ≤ b.length → (∀ i, i < k → a[i]? = b[i]?) → cmpL a b = cmpL (a.drop k) (b.drop k) := by
  intro k
  induction k with
  | zero => intros; rfl
  | succ k ih =>
    intro h1 h2 h
    rw [ih (by omega) (by omega) fun i hi => h i (by omega)]
    have e := h k (by omega)
    rw [List.getElem?_eq_getElem (by omega), List.getElem?_eq_getElem (by omega)] at e
    rw [List.drop_eq_getElem_cons (show k < a.length by omega), List.drop_eq_getElem_cons (show k < b.length by omega), cmpL_cons]
    have e : a[k] = b[k] := by simpa using e
    rw [e]
    simp
set_option maxRecDepth 10000 in
set_option maxHeartbeats 1000000 in
theorem texts05_does (a b : ByteArray) (ha : a.size ≤ 9223372036854775807) (H : AHeap) : Does Tryz.prog 82 [sA a, sA b] H (.ok (iA (cmpS a b))) H := by
  have hcmp : cmpS a b = cmpL a.toList b.toList := rfl
  have g1 : ∀ k, a[k]? = a.toList[k]? := get_toList a
  have g2 : ∀ k, b[k]? = b.toList[k]? := get_toList b
  have s1 := size_toList a
  have s2 := size_toList b
  have c1 : ∀ (x y : UInt8), (((x.toNat : Nat) : Int) < ((y.toNat : Nat) : Int)) = (x.toNat < y.toNat) := fun x y => by simp
  rw [hcmp]
  refine Does.of_awp (hint := (fun _ => false)) Tryz.func82 (by kernel_rfl) rfl [4] (by kernel_rfl) (by decide) (by simp [Tryz.ntmps82]) ?_
  rw [Tryz.ntmps82]
  simp (implicitDefEqProofs := false) only [go_sem, Int.reduceNeg]
  refine awp_for3 (fun k s H' => H' = H ∧ (∀ i, i < k → a.toList[i]? = b.toList[i]?) ∧ s 0 = sA a ∧ s 1 = sA b ∧ s 5 = iA k) (min a.size b.size) (by omega) (Weak.refl _ _) ?_ ?_ ?_
  · refine ⟨rfl, fun i hi => by omega, ?_⟩
    simp (implicitDefEqProofs := false) only [↓reduceIte, go_sem, Nat.reduceLT, Nat.reduceEqDiff, reduceCtorEq, eq_self]
  · rintro k s H' hk hw ⟨rfl, hp, h0, h1, h5⟩
    have k1 : k < a.size := by omega
    have k2 : k < b.size := by omega
    have e1 : (k < a.size) = True := eq_true (by omega)
    have e2 : (k < b.size) = True := eq_true (by omega)
    simp (implicitDefEqProofs := false) only [↓reduceIte, go_sem, Nat.reduceLT, Nat.reduceEqDiff, reduceCtorEq, eq_self, h0, h1, h5, e1, e2]
    have x1 : a[k]? = some a.toList[k] := by rw [g1]; exact List.getElem?_eq_getElem (by omega)
    have x2 : b[k]? = some b.toList[k] := by rw [g2]; exact List.getElem?_eq_getElem (by omega)
    have hd := cmpL_drop a.toList b.toList k (by omega) (by omega) hp
    rw [List.drop_eq_getElem_cons (show k < a.toList.length by omega), List.drop_eq_getElem_cons (show k < b.toList.length by omega), cmpL_cons] at hd
    have hp' : a.toList[k] = b.toList[k] → ∀ i, i < k + 1 → a.toList[i]? = b.toList[i]? := fun e i hi => by
      rcases Nat.lt_or_ge i k with h | h
      · exact hp i h
      · obtain rfl : i = k := by omega
        rw [List.getElem?_eq_getElem (by omega), List.getElem?_eq_getElem (by omega), e]
    generalize a.toList[k] = x at x1 hd hp'
    generalize b.toList[k] = y at x2 hd hp'
    refine awp_draw K.mixed (by kernel_rfl) ?_
    simp (implicitDefEqProofs := false) only [↓reduceIte, go_sem, Nat.reduceLT, Nat.reduceEqDiff, Int.reduceNeg, reduceCtorEq, eq_self, h0, h1, h5, x1, x2, c1]
    by_cases hxy : x.toNat < y.toNat
    · refine awp_T (by simp (implicitDefEqProofs := false) only [go_sem, eq_self, hxy]) ?_
      simp (implicitDefEqProofs := false) only [go_sem, Int.reduceNeg]
      refine AEnd.ret0 ?_
      rw [hd, if_pos hxy]
      simp (implicitDefEqProofs := false) only [↓reduceIte, go_sem, Nat.reduceLT, Int.reduceNeg, eq_self]
    · refine awp_F (by simp (implicitDefEqProofs := false) only [go_sem, eq_self, hxy]) ?_
      simp (implicitDefEqProofs := false) only [go_sem]
      refine awp_draw K.mixed (by kernel_rfl) ?_
      simp (implicitDefEqProofs := false) only [↓reduceIte, go_sem, Nat.reduceLT, Nat.reduceEqDiff, reduceCtorEq, eq_self, h0, h1, h5, x1, x2, c1]
      by_cases hyx : y.toNat < x.toNat
      · refine awp_T (by simp (implicitDefEqProofs := false) only [go_sem, eq_self, hyx]) ?_
        simp (implicitDefEqProofs := false) only [go_sem]
        refine AEnd.ret0 ?_
        rw [hd, if_neg hxy, if_pos hyx]
        simp (implicitDefEqProofs := false) only [↓reduceIte, go_sem, Nat.reduceLT, eq_self]
      · refine awp_F (by simp (implicitDefEqProofs := false) only [go_sem, eq_self, hyx]) ?_
        simp (implicitDefEqProofs := false) only [↓reduceIte, go_sem, Nat.reduceLT, Nat.reduceEqDiff, eq_self, h5]
        have e : x = y := UInt8.toNat_inj.1 (by omega)
        refine Rnd.same ⟨rfl, hp' e, ?_⟩
        simp (implicitDefEqProofs := false) only [↓reduceIte, go_sem, Nat.reduceLT, Nat.reduceEqDiff, reduceCtorEq, eq_self, h0, h1, hw]
  · rintro s H' ⟨rfl, hp, h0, h1, h5⟩
    have hd := cmpL_drop a.toList b.toList (min a.size b.size) (by omega) (by omega) hp
    rcases Nat.lt_or_ge a.size b.size with hlt | hge
    · have e0 : min a.size b.size = a.size := by omega
      rw [e0] at h5 hd
      have e1 : (a.size < a.size) = False := eq_false (by omega)
      have e2 : (a.size < b.size) = True := eq_true (by omega)
      have e3 : (b.size < a.size) = False := eq_false (by omega)
      simp (implicitDefEqProofs := false) only [↓reduceIte, go_sem, Nat.reduceLT, Nat.reduceEqDiff, reduceCtorEq, eq_self, h0, h1, h5, e1]
      refine KCall.ok (order05_does _ _ _) ?_
      simp (implicitDefEqProofs := false) only [↓reduceIte, go_sem, Nat.reduceLT, eq_self]
      refine AEnd.ret0 ?_
      rw [hd, List.drop_of_length_le (Nat.le_of_eq s1), cmpL_nil_left, List.length_drop]
      simp (implicitDefEqProofs := false) only [↓reduceIte, go_sem, Nat.reduceLT, eq_self, e2, e3, show (0 < b.toList.length - a.size) = True from eq_true (by omega)]
    · have e0 : min a.size b.size = b.size := by omega
      rw [e0] at h5 hd
      have e1 : (b.size < b.size) = False := eq_false (by omega)
      have e2 : (a.size < b.size) = False := eq_false (by omega)
      by_cases hlt : b.size < a.size
      · have e3 : (b.size < a.size) = True := eq_true (by omega)
        simp (implicitDefEqProofs := false) only [↓reduceIte, go_sem, Nat.reduceLT, Nat.reduceEqDiff, reduceCtorEq, eq_self, h0, h1, h5, e1, e3]
        refine KCall.ok (order05_does _ _ _) ?_
        simp (implicitDefEqProofs := false) only [↓reduceIte, go_sem, Nat.reduceLT, eq_self]
        refine AEnd.ret0 ?_
        rw [hd, List.drop_of_length_le (Nat.le_of_eq s2), cmpL_nil_right, List.length_drop]
        simp (implicitDefEqProofs := false) only [↓reduceIte, go_sem, Nat.reduceLT, eq_self, e2, show (0 < a.toList.length - b.size) = True from eq_true (by omega)]
      · have e3 : (b.size < a.size) = False := eq_false (by omega)
        simp (implicitDefEqProofs := false) only [↓reduceIte, go_sem, Nat.reduceLT, Nat.reduceEqDiff, reduceCtorEq, eq_self, h0, h1, h5, e3]
        refine KCall.ok (order05_does _ _ _) ?_
        simp (implicitDefEqProofs := false) only [↓reduceIte, go_sem, Nat.reduceLT, eq_self]
        refine AEnd.ret0 ?_
        rw [hd, List.drop_of_length_le (Nat.le_of_eq s2), cmpL_nil_right, List.length_drop]
        simp (implicitDefEqProofs := false) only [↓reduceIte, go_sem, Nat.reduceLT, eq_self, e2, show (0 < a.toList.length - b.size) = False from eq_false (by omega)]
set_option maxRecDepth 10000 in
set_option maxHeartbeats 1000000 in
theorem vcmp05_does (a b : Val) (ha : a.s.size ≤ 9223372036854775807) (H : AHeap) : Does Tryz.prog 44 [a.av, b.av] H (.ok (iA (cmpV a b))) H := by
  unfold cmpV
  refine Does.of_awp (hint := (fun _ => false)) Tryz.func44 (by kernel_rfl) rfl [4] (by kernel_rfl) (by decide) (by simp [Tryz.ntmps44]) ?_
  rw [Tryz.ntmps44]
  simp (implicitDefEqProofs := false) only [↓reduceIte, go_sem, oread, Nat.reduceAdd, Nat.reduceLT, Nat.reduceLeDiff, Nat.reduceEqDiff, eq_self]
  by_cases h : a.kind = b.kind
  · refine awp_F (by simp (implicitDefEqProofs := false) only [go_sem, eq_self, h]) ?_
    simp (implicitDefEqProofs := false) only [↓reduceIte, go_sem, oread, Nat.reduceAdd, Nat.reduceLT, Nat.reduceLeDiff, Nat.reduceEqDiff, eq_self]
    by_cases h1 : a.kind = 1
    · refine awp_T (by simp (implicitDefEqProofs := false) only [go_sem, eq_self, h1]) ?_
      simp (implicitDefEqProofs := false) only [↓reduceIte, go_sem, oread, Nat.reduceAdd, Nat.reduceLT, Nat.reduceLeDiff, Nat.reduceEqDiff, eq_self]
      refine KCall.ok (order05_does _ _ _) ?_
      simp (implicitDefEqProofs := false) only [↓reduceIte, go_sem, Nat.reduceLT, eq_self]
      refine AEnd.ret ?_
      simp (implicitDefEqProofs := false) only [↓reduceIte, go_sem, Nat.reduceLT, eq_self, h1, ← h, cmpI]
    · refine awp_F (by simp (implicitDefEqProofs := false) only [go_sem, eq_self, h1]) ?_
      simp (implicitDefEqProofs := false) only [↓reduceIte, go_sem, Nat.reduceLT, Nat.reduceEqDiff, eq_self]
      by_cases h2 : a.kind = 2
      · refine awp_T (by simp (implicitDefEqProofs := false) only [go_sem, eq_self, h2]) ?_
        simp (implicitDefEqProofs := false) only [↓reduceIte, go_sem, oread, Nat.reduceAdd, Nat.reduceLT, Nat.reduceLeDiff, Nat.reduceEqDiff, eq_self, wrap_toU]
        refine KCall.ok (fcmp04_does _ _ (toU_lt _) (toU_lt _) _) ?_
        simp (implicitDefEqProofs := false) only [↓reduceIte, go_sem, Nat.reduceLT, eq_self]
        refine AEnd.ret ?_
        simp (implicitDefEqProofs := false) only [↓reduceIte, go_sem, Nat.reduceLT, Int.reduceEq, eq_self, h2, ← h]
      · refine awp_F (by simp (implicitDefEqProofs := false) only [go_sem, eq_self, h2]) ?_
        simp (implicitDefEqProofs := false) only [↓reduceIte, go_sem, Nat.reduceLT, Nat.reduceEqDiff, eq_self]
        by_cases h3 : a.kind = 3
        · refine awp_T (by simp (implicitDefEqProofs := false) only [go_sem, eq_self, h3]) ?_
          simp (implicitDefEqProofs := false) only [↓reduceIte, go_sem, oread, Nat.reduceAdd, Nat.reduceLT, Nat.reduceEqDiff, eq_self]
          refine KCall.ok (texts05_does _ _ ha _) ?_
          simp (implicitDefEqProofs := false) only [↓reduceIte, go_sem, Nat.reduceLT, eq_self]
          refine AEnd.ret ?_
          simp (implicitDefEqProofs := false) only [↓reduceIte, go_sem, Nat.reduceLT, Int.reduceEq, eq_self, h3, ← h]
        · refine awp_F (by simp (implicitDefEqProofs := false) only [go_sem, eq_self, h3]) ?_
          simp (implicitDefEqProofs := false) only [go_sem]
          refine AEnd.ret ?_
          simp (implicitDefEqProofs := false) only [↓reduceIte, go_sem, Nat.reduceLT, eq_self, h1, h2, h3, ← h]
  · refine awp_T (by simp (implicitDefEqProofs := false) only [go_sem, eq_self, h]) ?_
    simp (implicitDefEqProofs := false) only [↓reduceIte, go_sem, oread, Nat.reduceAdd, Nat.reduceLT, Nat.reduceLeDiff, Nat.reduceEqDiff, eq_self]
    refine KCall.ok (order05_does _ _ _) ?_
    simp (implicitDefEqProofs := false) only [↓reduceIte, go_sem, Nat.reduceLT, eq_self]
    refine AEnd.ret ?_
    simp (implicitDefEqProofs := false) only [↓reduceIte, go_sem, Nat.reduceLT, eq_self, h, cmpI]
end Go.Proofs.YtkapgooedfompaaGreat
namespace Go.Proofs.YtkapgooedfompaaGreat
open Go.Proofs.YtkapgooedfompaaGreatAw Go.RowKit
set_option linter.unusedVariables false
set_option linter.unusedSimpArgs false
/-- What the first bytes come to, from byte i on. -/
def valFrom (b : List Nat) : Nat → Nat → Nat
  | _, 0 => 0
  | i, m + 1 => b.getD i 0 % 128 + 128 * valFrom b (i + 1) m
theorem valFrom_zero (b : List Nat) (i : Nat) : valFrom b i 0 = 0 := rfl
theorem valFrom_snoc (b : List Nat) : ∀ (m i : Nat), valFrom b i (m + 1) = valFrom b i m + b.getD (i + m) 0 % 128 * 128 ^ m
  | 0, i => by simp [valFrom]
  | m + 1, i => by
    rw [valFrom, valFrom_snoc b m (i + 1), valFrom, Nat.pow_succ, Nat.mul_add, show i + 1 + m = i + (m + 1) by omega]
    rw [show 128 * (b.getD (i + (m + 1)) 0 % 128 * 128 ^ m) = b.getD (i + (m + 1)) 0 % 128 * (128 ^ m * 128) by rw [Nat.mul_comm 128, Nat.mul_assoc]]
    omega
/-- While bytes go on. -/
theorem numP_go (b : List Nat) : ∀ k, k ≤ 9 → k ≤ b.length → (∀ i (h : i < b.length), i < k → 128 ≤ b[i]) → numP 10 0 b = numP (10 - k) (valFrom b 0 k) (b.drop k)
  | 0, _, _, _ => rfl
  | k + 1, hk, hl, h => by
    rw [numP_go b k (by omega) (by omega) fun i hi hik => h i hi (by omega)]
    have hb := h k (by omega) (by omega)
    rw [List.drop_eq_getElem_cons (show k < b.length by omega), show 10 - k = (9 - k) + 1 by omega, numP]
    rw [if_neg (by omega), if_neg (by omega), show 9 - (9 - k) = k by omega, show 10 - (k + 1) = 9 - k by omega, valFrom_snoc]
    congr 2
    simp [List.getD, show k < b.length by omega]
theorem getP_short (b : List Nat) (k : Nat) (hk : k ≤ 9) (hl : k = b.length) (h : ∀ i (h : i < b.length), i < k → 128 ≤ b[i]) : getP b = (0, 0, 3) := by
  unfold getP
  rw [numP_go b k hk (by omega) h, List.drop_of_length_le (by omega), show 10 - k = (9 - k) + 1 by omega]
  rfl
theorem getP_stop (b : List Nat) (k : Nat) (hk : k ≤ 9) (hl : k < b.length) (h : ∀ i (h : i < b.length), i < k → 128 ≤ b[i]) (hs : k = 9 ∨ b[k] < 128) :
    getP b = if (k = 9 ∧ 1 < b[k]) ∨ (0 < k ∧ b[k] = 0) then (0, 0, 4) else (valFrom b 0 (k + 1), k + 1, 0) := by
  unfold getP
  rw [numP_go b k hk (by omega) h, List.drop_eq_getElem_cons hl, show 10 - k = (9 - k) + 1 by omega, numP, show 9 - (9 - k) = k by omega]
  by_cases hc : (k = 9 ∧ 1 < b[k]) ∨ (0 < k ∧ b[k] = 0)
  · rw [if_pos (by omega), if_pos hc]
  · rw [if_neg (by omega), if_neg hc, if_pos (by omega)]
    simp only [valFrom_snoc, Nat.zero_add, List.length_drop]
    simp [List.getD, hl]
    omega
theorem valFrom_part (b : List Nat) (t : Nat) : ∀ (j i : Nat), valFrom b (i + j) t ≤ valFrom b i (j + t)
  | 0, i => by simp
  | j + 1, i => by
    have := valFrom_part b t j (i + 1)
    rw [show j + 1 + t = (j + t) + 1 by omega, valFrom, show i + (j + 1) = i + 1 + j by omega]
    omega
set_option maxRecDepth 10000 in
set_option maxHeartbeats 2000000 in
theorem rgetB_does (b : List Nat) (nn : Bool) (hl : b.length ≤ 140737488351232) (hb : ∀ c ∈ b, c < 256) (H : AHeap) :
    Does Tryz.prog 35 [.d (.list nn (bys b))] H (.ok (.tup [du (getP b).1, iA (getP b).2.1, iA (getP b).2.2])) H := by
  have hlt64 := getP_lt b
  refine Does.of_awp (hint := (fun _ => false)) Tryz.func35 (by kernel_rfl) rfl [2, 3, 4] (by kernel_rfl) (by decide) (by simp [Tryz.ntmps35]) ?_
  rw [Tryz.ntmps35]
  simp (implicitDefEqProofs := false) only [go_sem]
  refine awp_cutB (fun s H' => H' = H ∧ ∃ k : Nat, k ≤ 9 ∧ k ≤ b.length ∧ (∀ i (h : i < b.length), i < k → 128 ≤ b[i]) ∧ (∀ h : k < b.length, k = 9 ∨ b[k] < 128) ∧ s 0 = .d (.list nn (bys b)) ∧ s 5 = iA k) rfl ?_ ?_
  · refine awp_loop _ _ _ _ (fun (k : Nat) s H' => H' = H ∧ k ≤ 9 ∧ k ≤ b.length ∧ (∀ i (h : i < b.length), i < k → 128 ≤ b[i]) ∧ s 0 = .d (.list nn (bys b)) ∧ s 5 = iA k) (fun k => 9 - k) 0 (Weak.refl _ _) ?_ ?_
    · refine ⟨rfl, by omega, by omega, fun i h h2 => by omega, ?_⟩
      simp (implicitDefEqProofs := false) only [↓reduceIte, go_sem, Nat.reduceLT, reduceCtorEq, eq_self]
    · rintro k s H' ⟨rfl, hk9, hkl, hge, t0, t5⟩
      have hwk := wrapI (k + 1) (by omega)
      rw [show ((k + 1 : Nat) : Int) = (k : Int) + 1 by omega] at hwk
      by_cases h1 : k < b.length
      · have hx := bys_get b k h1
        have hstop : (k = 9 ∨ b[k] < 128) → ∀ h : k < b.length, k = 9 ∨ b[k] < 128 := fun h _ => h
        have hge2 : 128 ≤ b[k] → ∀ i (h : i < b.length), i < k + 1 → 128 ≤ b[i] := fun h i h2 h3 => by
          by_cases e : i = k
          · subst e; exact h
          · exact hge i h2 (by omega)
        generalize b[k] = c at hx hstop hge2
        by_cases h2 : k = 9
        · simp (implicitDefEqProofs := false) only [↓reduceIte, go_sem, Nat.reduceLT, Nat.reduceEqDiff, reduceCtorEq, eq_self, t0, t5, bys_len, h1, show ((k : Int) < 9) = False from eq_false (by omega)]
          exact ⟨k, hk9, hkl, hge, hstop (.inl h2), rfl⟩
        by_cases h3 : c < 128
        · simp (implicitDefEqProofs := false) only [↓reduceIte, go_sem, Nat.reduceLT, Nat.reduceEqDiff, reduceCtorEq, eq_self, t0, t5, bys_len, h1, show ((k : Int) < 9) = True from eq_true (by omega), hx, show (128 ≤ (c : Int)) = False from eq_false (by omega)]
          exact ⟨k, hk9, hkl, hge, hstop (.inr h3), rfl⟩
        by_cases h4 : k = 0
        · simp (implicitDefEqProofs := false) only [↓reduceIte, go_sem, Nat.reduceLT, Nat.reduceEqDiff, reduceCtorEq, eq_self, t0, t5, bys_len, h1, show ((k : Int) < 9) = True from eq_true (by omega), hx, show (128 ≤ (c : Int)) = True from eq_true (by omega), show (0 < (k : Int)) = False from eq_false (by omega)]
          refine ⟨_, _, k + 1, .refl _ _, ⟨rfl, by omega, by omega, hge2 (by omega), ?_⟩, by omega⟩
          simp (implicitDefEqProofs := false) only [↓reduceIte, go_sem, Nat.reduceLT, reduceCtorEq, eq_self, t0, hwk]
        · simp (implicitDefEqProofs := false) only [↓reduceIte, go_sem, Nat.reduceLT, Nat.reduceEqDiff, reduceCtorEq, eq_self, t0, t5, bys_len, h1, show ((k : Int) < 9) = True from eq_true (by omega), hx, show (128 ≤ (c : Int)) = True from eq_true (by omega), show (0 < (k : Int)) = True from eq_true (by omega), show ((c : Int) = 0) = False from eq_false (by omega)]
          refine ⟨_, _, k + 1, .refl _ _, ⟨rfl, by omega, by omega, hge2 (by omega), ?_⟩, by omega⟩
          simp (implicitDefEqProofs := false) only [↓reduceIte, go_sem, Nat.reduceLT, reduceCtorEq, eq_self, t0, hwk]
      · simp (implicitDefEqProofs := false) only [↓reduceIte, go_sem, Nat.reduceLT, Nat.reduceEqDiff, reduceCtorEq, eq_self, t0, t5, bys_len, show ((k : Int) < (b.length : Int)) = False from eq_false (by omega)]
        exact ⟨k, hk9, hkl, hge, fun h => absurd h h1, rfl⟩
  · rintro s H' ⟨rfl, k, hk9, hkl, hge, hstop, t0, t5⟩
    by_cases h1 : k = b.length
    · rw [getP_short b k hk9 h1 hge]
      simp (implicitDefEqProofs := false) only [↓reduceIte, go_sem, Nat.reduceLT, Nat.reduceEqDiff, reduceCtorEq, eq_self, t0, t5, bys_len, show ((k : Int) = (b.length : Int)) = True from eq_true (by omega)]
      refine AEnd.ret0 ?_
      simp (implicitDefEqProofs := false) only [↓reduceIte, go_sem, Nat.reduceLT, Nat.reduceEqDiff, eq_self]
      rfl
    have hlt : k < b.length := by omega
    have hgp := getP_stop b k hk9 hlt hge (hstop hlt)
    have hx := bys_get b k hlt
    have hxb := hb _ (List.getElem_mem hlt)
    have hs := hstop hlt
    have hx9 : k = 9 → (bys b)[9]? = some [.v (.int .u8 (b[k] : Int))] := fun h => by subst h; exact hx
    have h9l : k = 9 → 9 < b.length := fun h => by omega
    generalize hc : b[k] = c at *
    have ne : ((k : Int) = (b.length : Int)) = False := eq_false (by omega)
    by_cases herr : (k = 9 ∧ 1 < c) ∨ (0 < k ∧ c = 0)
    · rw [hgp, if_pos herr]
      by_cases hk : k = 9
      · have hx9 := hx9 hk
        have h9l := h9l hk
        have e9 : ((k : Int) = 9) = True := eq_true (by omega)
        by_cases hc1 : 1 < c
        · simp (implicitDefEqProofs := false) only [↓reduceIte, go_sem, Nat.reduceLT, Nat.reduceEqDiff, Int.reduceLE, Int.reduceToNat, reduceCtorEq, eq_self, t0, t5, bys_len, ne, e9, hx9, show (1 < (c : Int)) = True from eq_true (by omega)]
          refine AEnd.ret0 ?_
          simp (implicitDefEqProofs := false) only [↓reduceIte, go_sem, Nat.reduceLT, Nat.reduceEqDiff, eq_self]
          rfl
        · simp (implicitDefEqProofs := false) only [↓reduceIte, go_sem, Nat.reduceLT, Nat.reduceEqDiff, Int.reduceLE, Int.reduceToNat, reduceCtorEq, eq_self, t0, t5, bys_len, ne, e9, hx9, show (1 < (c : Int)) = False from eq_false (by omega), show (0 < (k : Int)) = True from eq_true (by omega), hx, show ((c : Int) = 0) = True from eq_true (by omega)]
          refine AEnd.ret0 ?_
          simp (implicitDefEqProofs := false) only [↓reduceIte, go_sem, Nat.reduceLT, Nat.reduceEqDiff, eq_self]
          rfl
      · simp (implicitDefEqProofs := false) only [↓reduceIte, go_sem, Nat.reduceLT, Nat.reduceEqDiff, reduceCtorEq, eq_self, t0, t5, bys_len, ne, show ((k : Int) = 9) = False from eq_false (by omega), show (0 < (k : Int)) = True from eq_true (by omega), hx, show ((c : Int) = 0) = True from eq_true (by omega)]
        refine AEnd.ret0 ?_
        simp (implicitDefEqProofs := false) only [↓reduceIte, go_sem, Nat.reduceLT, Nat.reduceEqDiff, eq_self]
        rfl
    · rw [if_neg herr] at hgp
      rw [hgp] at hlt64 ⊢
      simp only at hlt64 ⊢
      have hf : ((((k : Int) = 9) = True ∧ (1 < (c : Int)) = False ∧ (0 < (k : Int)) = True ∧ ((c : Int) = 0) = False ∧ (9 < (b.length : Int)) = True ∧ (9 < b.length) = True ∧ (bys b)[9]? = some [.v (.int .u8 (c : Int))])) ∨ ((((k : Int) = 9) = False ∧ (0 < (k : Int)) = False)) ∨ ((((k : Int) = 9) = False ∧ (0 < (k : Int)) = True ∧ ((c : Int) = 0) = False)) := by
        by_cases hk : k = 9
        · exact .inl ⟨eq_true (by omega), eq_false (by omega), eq_true (by omega), eq_false (by omega), eq_true (by omega), eq_true (by omega), hx9 hk⟩
        · by_cases h0 : k = 0
          · exact .inr (.inl ⟨eq_false (by omega), eq_false (by omega)⟩)
          · exact .inr (.inr ⟨eq_false (by omega), eq_true (by omega), eq_false (by omega)⟩)
      rcases hf with hf | hf | hf
      all_goals
        simp (implicitDefEqProofs := false) only [↓reduceIte, go_sem, Nat.reduceLT, Nat.reduceEqDiff, Int.reduceLE, Int.reduceToNat, reduceCtorEq, eq_self, t0, t5, bys_len, ne, hf, hx]
        refine awp_for3 (fun j s H2 => H2 = H' ∧ s 0 = .d (.list nn (bys b)) ∧ s 5 = iA k ∧ s 6 = du (valFrom b (k + 1 - j) j) ∧ s 7 = iA ((k : Int) - j)) (k + 1) (by omega) (Weak.refl _ _) ?_ ?_ ?_
        · rw [valFrom_zero, show (k : Int) - ((0 : Nat) : Int) = (k : Int) by omega]
          refine ⟨rfl, ?_⟩
          simp (implicitDefEqProofs := false) only [↓reduceIte, go_sem, Nat.reduceLT, Nat.reduceEqDiff, reduceCtorEq, eq_self, t0, t5]
          rfl
        · rintro j s H' hj hw ⟨rfl, t0, t5, t6, t7⟩
          obtain ⟨i, hi⟩ : ∃ i, i = k - j := ⟨_, rfl⟩
          have q1 : (k : Int) - (j : Int) = (i : Int) := by omega
          have q2 : (k : Int) - ((j + 1 : Nat) : Int) = (i : Int) - 1 := by omega
          have q3 : IntKind.i64.wrap ((i : Int) - 1) = (i : Int) - 1 := wrap64_in _ (by omega) (by omega)
          have q4 : valFrom b (k + 1 - (j + 1)) (j + 1) = b.getD i 0 % 128 + 128 * valFrom b (k + 1 - j) j := by
            rw [show k + 1 - (j + 1) = i by omega, valFrom, show i + 1 = k + 1 - j by omega]
          have q5 := valFrom_part b (j + 1) i 0
          rw [Nat.zero_add, show i + (j + 1) = k + 1 by omega] at q5
          rw [show k + 1 - (j + 1) = i by omega] at q4
          have hil : i < b.length := by omega
          have hy := bys_get b i hil
          have hyb := hb _ (List.getElem_mem hil)
          have q6 : b.getD i 0 = b[i] := by simp [List.getD, hil]
          rw [q6] at q4
          rw [q1] at t7
          rw [q2, show k + 1 - (j + 1) = i by omega, q4]
          rw [q4] at q5
          generalize b[i] = y at *
          generalize valFrom b (k + 1 - j) j = m at *
          have w1 : IntKind.u64.wrap ((m : Int) * 128) = (m : Int) * 128 := wrapu64_in _ (by omega) (by omega)
          have w2 : IntKind.u8.wrap ((y % 128 : Nat) : Int) = ((y % 128 : Nat) : Int) := wrap8N _ (by omega)
          have w3 : IntKind.u64.wrap ((y % 128 : Nat) : Int) = ((y % 128 : Nat) : Int) := wrapU64N _ (by omega)
          have w4 : IntKind.u64.wrap ((m : Int) * 128 + ((y % 128 : Nat) : Int)) = ((y % 128 + 128 * m : Nat) : Int) := by rw [wrapu64_in _ (by omega) (by omega)]; omega
          generalize y % 128 + 128 * m = z at *
          simp (implicitDefEqProofs := false) only [↓reduceIte, go_sem, Nat.reduceLT, Nat.reduceEqDiff, Int.reduceEq, reduceCtorEq, eq_self, t0, t6, t7, hy, tmod128, w1, w3, w4, q3, show (0 ≤ (i : Int)) = True from eq_true (by omega)]
          refine Rnd.same ⟨rfl, ?_⟩
          simp (implicitDefEqProofs := false) only [↓reduceIte, go_sem, Nat.reduceLT, Nat.reduceEqDiff, reduceCtorEq, eq_self, t0, t5]
        · rintro s H' ⟨rfl, t0, t5, t6, t7⟩
          rw [Nat.sub_self] at t6
          have hw : IntKind.i64.wrap ((k : Int) + 1) = ((k + 1 : Nat) : Int) := by rw [wrap64_in _ (by omega) (by omega)]; omega
          have q : (k : Int) - ((k + 1 : Nat) : Int) = -1 := by omega
          rw [q] at t7
          simp (implicitDefEqProofs := false) only [↓reduceIte, go_sem, Nat.reduceLT, Nat.reduceEqDiff, Int.reduceLE, Int.reduceNeg, eq_self, t5, t6, t7, hw]
          refine AEnd.ret0 ?_
          simp (implicitDefEqProofs := false) only [↓reduceIte, go_sem, Nat.reduceLT, Nat.reduceEqDiff, Int.reduceNeg, eq_self]
set_option maxRecDepth 10000 in
set_option maxHeartbeats 1000000 in
theorem rmay_does (v : Val) (H : AHeap) : Does Tryz.prog 58 [v.av] H (.ok (bA (mayV v))) H := by
  have e0 : ∀ x : ByteArray, (x.toList == (⟨#[]⟩ : ByteArray).toList) = decide (x.toList = []) := fun x => by
    rw [show (⟨#[]⟩ : ByteArray).toList = [] from noS_toList]; rw [Bool.eq_iff_iff]; simp
  refine Does.of_awp (hint := (fun _ => false)) Tryz.func58 (by kernel_rfl) rfl [2] (by kernel_rfl) (by decide) (by simp [Tryz.ntmps58]) ?_
  rw [Tryz.ntmps58]
  by_cases h2 : v.kind = 2
  · cases hs : decide (v.s.toList = []) with
    | true =>
      simp (implicitDefEqProofs := false) only [↓reduceIte, go_sem, oread, Nat.reduceAdd, Nat.reduceLT, Nat.reduceLeDiff, Nat.reduceEqDiff, Int.reduceEq, eq_self, h2]
      refine awp_draw K.mixed (by kernel_rfl) ?_
      simp (implicitDefEqProofs := false) only [↓reduceIte, go_sem, oread, Nat.reduceAdd, Nat.reduceLT, Nat.reduceLeDiff, Nat.reduceEqDiff, eq_self, wrap_toU, e0, hs]
      refine KCall.ok (clean04_does _ (toU_lt _) _) ?_
      simp (implicitDefEqProofs := false) only [↓reduceIte, go_sem, oread, Nat.reduceAdd, Nat.reduceLT, Nat.reduceLeDiff, Nat.reduceEqDiff, eq_self, Int.natCast_inj, wrap_toU]
      refine AEnd.ret ?_
      simp (implicitDefEqProofs := false) only [↓reduceIte, go_sem, Nat.reduceLT, eq_self, mayV, h2, hs, Bool.and_true]
      exact congrArg (fun b => AV.d (D.v (Value.bool b))) (decide_eq_decide.2 eq_comm)
    | false =>
      simp (implicitDefEqProofs := false) only [↓reduceIte, go_sem, oread, Nat.reduceAdd, Nat.reduceLT, Nat.reduceLeDiff, Nat.reduceEqDiff, Int.reduceEq, eq_self, h2]
      refine awp_draw K.mixed (by kernel_rfl) ?_
      simp (implicitDefEqProofs := false) only [↓reduceIte, go_sem, oread, Nat.reduceAdd, Nat.reduceLT, Nat.reduceEqDiff, reduceCtorEq, eq_self, e0, hs]
      refine AEnd.ret ?_
      simp (implicitDefEqProofs := false) only [↓reduceIte, go_sem, Nat.reduceLT, eq_self, mayV, h2, hs, Bool.and_false]
  by_cases h1 : v.kind = 1
  · simp (implicitDefEqProofs := false) only [↓reduceIte, go_sem, oread, Nat.reduceAdd, Nat.reduceLT, Nat.reduceLeDiff, Nat.reduceEqDiff, Int.reduceEq, eq_self, h1, e0]
    refine AEnd.ret ?_
    simp (implicitDefEqProofs := false) only [↓reduceIte, go_sem, Nat.reduceLT, Int.reduceEq, eq_self, mayV, h1]
  by_cases h3 : v.kind = 3
  · by_cases hi : v.i = 0
    · simp (implicitDefEqProofs := false) only [↓reduceIte, go_sem, oread, Nat.reduceAdd, Nat.reduceLT, Nat.reduceLeDiff, Nat.reduceEqDiff, Int.reduceEq, eq_self, h3, hi]
      refine AEnd.ret ?_
      simp (implicitDefEqProofs := false) only [↓reduceIte, go_sem, Nat.reduceLT, Int.reduceEq, eq_self, mayV, h3, hi, show ((v.s.size : Int) ≤ 1024) = (v.s.size ≤ 1024) from by simp; omega]
    · simp (implicitDefEqProofs := false) only [↓reduceIte, go_sem, oread, Nat.reduceAdd, Nat.reduceLT, Nat.reduceLeDiff, Nat.reduceEqDiff, Int.reduceEq, reduceCtorEq, eq_self, h3, hi]
      refine AEnd.ret ?_
      simp (implicitDefEqProofs := false) only [↓reduceIte, go_sem, Nat.reduceLT, Int.reduceEq, eq_self, mayV, h3, hi]
  by_cases h0 : v.kind = 0
  · by_cases hi : v.i = 0
    · simp (implicitDefEqProofs := false) only [↓reduceIte, go_sem, oread, Nat.reduceAdd, Nat.reduceLT, Nat.reduceLeDiff, Nat.reduceEqDiff, eq_self, eq_true h0, e0, hi]
      refine AEnd.ret ?_
      simp (implicitDefEqProofs := false) only [↓reduceIte, go_sem, Nat.reduceLT, eq_self, mayV, h1, h2, h3, eq_true h0, hi]
    · simp (implicitDefEqProofs := false) only [↓reduceIte, go_sem, oread, Nat.reduceAdd, Nat.reduceLT, Nat.reduceLeDiff, Nat.reduceEqDiff, reduceCtorEq, eq_self, eq_true h0, hi]
      refine AEnd.ret ?_
      simp (implicitDefEqProofs := false) only [↓reduceIte, go_sem, Nat.reduceLT, eq_self, mayV, h1, h2, h3, eq_true h0, hi]
  simp (implicitDefEqProofs := false) only [↓reduceIte, go_sem, oread, Nat.reduceAdd, Nat.reduceLT, Nat.reduceLeDiff, Nat.reduceEqDiff, eq_self, h0, h1, h2, h3]
  refine AEnd.ret ?_
  simp (implicitDefEqProofs := false) only [↓reduceIte, go_sem, Nat.reduceLT, eq_self, mayV, h0, h1, h2, h3]
set_option maxRecDepth 10000 in
theorem rkinds_does (k : Int) (H : AHeap) : Does Tryz.prog 34 [iA k] H (.ok (bA (kindsP k))) H := by
  have e : kindsP k = if k = 1 then true else if k = 2 then true else decide (k = 3) := by
    unfold kindsP
    rw [Bool.eq_iff_iff]
    simp only [Bool.and_eq_true, decide_eq_true_eq]
    split
    · simp; omega
    · split
      · simp; omega
      · simp; omega
  refine Does.of_awp (hint := (fun _ => false)) Tryz.func34 (by kernel_rfl) rfl [2] (by kernel_rfl) (by decide) (by simp [Tryz.ntmps34]) ?_
  rw [Tryz.ntmps34]
  by_cases h1 : k = 1
  · rw [if_pos h1] at e
    simp (implicitDefEqProofs := false) only [↓reduceIte, go_sem, Nat.reduceLT, Nat.reduceEqDiff, reduceCtorEq, eq_self, eq_true h1]
    refine AEnd.ret0 ?_
    simp (implicitDefEqProofs := false) only [↓reduceIte, go_sem, Nat.reduceLT, eq_self, e]
  rw [if_neg h1] at e
  by_cases h2 : k = 2
  · rw [if_pos h2] at e
    simp (implicitDefEqProofs := false) only [↓reduceIte, go_sem, Nat.reduceLT, Nat.reduceEqDiff, reduceCtorEq, eq_self, h1, eq_true h2]
    refine AEnd.ret0 ?_
    simp (implicitDefEqProofs := false) only [↓reduceIte, go_sem, Nat.reduceLT, eq_self, e]
  rw [if_neg h2] at e
  simp (implicitDefEqProofs := false) only [↓reduceIte, go_sem, Nat.reduceLT, Nat.reduceEqDiff, reduceCtorEq, eq_self, h1, h2]
  refine AEnd.ret0 ?_
  simp (implicitDefEqProofs := false) only [↓reduceIte, go_sem, Nat.reduceLT, eq_self, e]
set_option maxRecDepth 10000 in
set_option maxHeartbeats 1000000 in
theorem rplain_does (l : List Val) (k : Int) (nn : Bool) (H : AHeap) (hl : l.length ≤ 9223372036854775807) : Does Tryz.prog 23 [.d (.list nn (l.map Val.enc)), iA k] H (.ok (iA (plainP l k))) H := by
  have hP : plainP l k = if !kindsP k then 1 else if 4096 < l.length then 2 else if l.any (fun v => !decide (v.kind = k)) then 7 else if l.any (fun v => !mayV v) then 1 else 0 := rfl
  refine Does.of_awp (hint := (fun _ => false)) Tryz.func23 (by kernel_rfl) rfl [4] (by kernel_rfl) (by decide) (by simp [Tryz.ntmps23]) ?_
  rw [Tryz.ntmps23]
  simp (implicitDefEqProofs := false) only [↓reduceIte, go_sem, Nat.reduceLT, Nat.reduceEqDiff, eq_self]
  refine KCall.ok (rkinds_does k _) ?_
  cases hk : kindsP k with
  | false =>
    rw [hk] at hP
    simp (implicitDefEqProofs := false) only [↓reduceIte, go_sem, Nat.reduceLT, eq_self]
    refine AEnd.ret0 ?_
    simp (implicitDefEqProofs := false) only [↓reduceIte, go_sem, Nat.reduceLT, eq_self, hP, Bool.not_false]
  | true =>
  rw [hk] at hP
  simp only [Bool.not_true, Bool.false_eq_true, if_false] at hP
  by_cases h1 : 4096 < l.length
  · rw [if_pos h1] at hP
    simp (implicitDefEqProofs := false) only [↓reduceIte, go_sem, Nat.reduceLT, reduceCtorEq, eq_self, List.length_map, show (4096 < (l.length : Int)) = True from eq_true (by omega)]
    refine AEnd.ret0 ?_
    simp (implicitDefEqProofs := false) only [↓reduceIte, go_sem, Nat.reduceLT, eq_self, hP]
  rw [if_neg h1] at hP
  simp (implicitDefEqProofs := false) only [↓reduceIte, go_sem, Nat.reduceLT, reduceCtorEq, eq_self, List.length_map, show (4096 < (l.length : Int)) = False from eq_false (by omega)]
  refine awp_for3 (fun i s H' => H' = H ∧ (∀ j (hj : j < i) (hl : j < l.length), (!decide (l[j].kind = k)) = false) ∧ s 0 = .d (.list nn (l.map Val.enc)) ∧ s 1 = iA k ∧ s 5 = iA i) l.length hl (Weak.refl _ _) ?_ ?_ ?_
  · refine ⟨rfl, fun j hj => by omega, ?_⟩
    simp (implicitDefEqProofs := false) only [↓reduceIte, go_sem, Nat.reduceLT, Nat.reduceEqDiff, reduceCtorEq, eq_self]
  · rintro i s H' hi hw ⟨rfl, hp, t0, t1, t5⟩
    have hx := List.getElem?_eq_getElem hi
    have hit : (!decide (l[i].kind = k)) = true → l.any (fun v => !decide (v.kind = k)) = true := fun h => any_hit (p := fun v : Val => !decide (v.kind = k)) hi h
    have hpp : (!decide (l[i].kind = k)) = false → ∀ j (hj : j < i + 1) (hl : j < l.length), (!decide (l[j].kind = k)) = false := fun h0 j hj hl' => by
      rcases Nat.lt_or_ge j i with h | h
      · exact hp j h hl'
      · obtain rfl : j = i := by omega
        exact h0
    generalize l[i] = x at hx hit hpp
    by_cases hc : x.kind = k
    · simp (implicitDefEqProofs := false) only [↓reduceIte, go_sem, Nat.reduceAdd, Nat.reduceLT, Nat.reduceLeDiff, Nat.reduceEqDiff, reduceCtorEq, eq_self, t0, t1, t5, List.length_map, hi, hx, Val.enc, eq_true hc]
      refine Rnd.same ⟨rfl, hpp (by simp [hc]), ?_⟩
      simp (implicitDefEqProofs := false) only [↓reduceIte, go_sem, Nat.reduceLT, Nat.reduceEqDiff, reduceCtorEq, eq_self, t0, t1, hw]
    · rw [hit (by simp [hc]), if_pos rfl] at hP
      simp (implicitDefEqProofs := false) only [↓reduceIte, go_sem, Nat.reduceAdd, Nat.reduceLT, Nat.reduceLeDiff, Nat.reduceEqDiff, reduceCtorEq, eq_self, t0, t1, t5, List.length_map, hi, hx, Val.enc, hc]
      refine AEnd.ret0 ?_
      simp (implicitDefEqProofs := false) only [↓reduceIte, go_sem, Nat.reduceLT, eq_self, hP]
  · rintro s H' ⟨rfl, hp, t0, t1, t5⟩
    rw [any_none (p := fun v : Val => !decide (v.kind = k)) (l := l) fun i hi => hp i hi hi] at hP
    simp only [Bool.false_eq_true, if_false] at hP
    simp (implicitDefEqProofs := false) only [↓reduceIte, go_sem, Nat.reduceLT, Nat.reduceEqDiff, reduceCtorEq, eq_self, t0, t5, List.length_map]
    refine awp_for3 (fun i s H2 => H2 = H' ∧ (∀ j (hj : j < i) (hl : j < l.length), (!mayV l[j]) = false) ∧ s 0 = .d (.list nn (l.map Val.enc)) ∧ s 6 = iA i) l.length hl (Weak.refl _ _) ?_ ?_ ?_
    · refine ⟨rfl, fun j hj => by omega, ?_⟩
      simp (implicitDefEqProofs := false) only [↓reduceIte, go_sem, Nat.reduceLT, reduceCtorEq, eq_self, t0]
    · rintro i s H' hi hw ⟨rfl, hp, t0, t6⟩
      have hx := List.getElem?_eq_getElem hi
      have hit : (!mayV l[i]) = true → l.any (fun v => !mayV v) = true := fun h => any_hit (p := fun v : Val => !mayV v) hi h
      have hpp : (!mayV l[i]) = false → ∀ j (hj : j < i + 1) (hl : j < l.length), (!mayV l[j]) = false := fun h0 j hj hl' => by
        rcases Nat.lt_or_ge j i with h | h
        · exact hp j h hl'
        · obtain rfl : j = i := by omega
          exact h0
      generalize l[i] = x at hx hit hpp
      simp (implicitDefEqProofs := false) only [↓reduceIte, go_sem, Nat.reduceAdd, Nat.reduceLT, Nat.reduceEqDiff, reduceCtorEq, eq_self, t0, t6, List.length_map, hi, hx, Val.enc]
      refine KCall.ok (rmay_does x _) ?_
      cases hm : mayV x with
      | true =>
        simp (implicitDefEqProofs := false) only [↓reduceIte, go_sem, Nat.reduceLT, Nat.reduceEqDiff, eq_self, t6]
        refine Rnd.same ⟨rfl, hpp (by rw [hm]; rfl), ?_⟩
        simp (implicitDefEqProofs := false) only [↓reduceIte, go_sem, Nat.reduceLT, reduceCtorEq, eq_self, t0, hw]
      | false =>
        rw [hit (by rw [hm]; rfl), if_pos rfl] at hP
        simp (implicitDefEqProofs := false) only [↓reduceIte, go_sem, Nat.reduceLT, eq_self]
        refine AEnd.ret0 ?_
        simp (implicitDefEqProofs := false) only [↓reduceIte, go_sem, Nat.reduceLT, eq_self, hP]
    · rintro s H' ⟨rfl, hp, t0, t6⟩
      rw [any_none (p := fun v : Val => !mayV v) (l := l) fun i hi => hp i hi hi] at hP
      simp only [Bool.false_eq_true, if_false] at hP
      simp (implicitDefEqProofs := false) only [↓reduceIte, go_sem, Nat.reduceLT, Nat.reduceEqDiff, reduceCtorEq, eq_self, t0, t6, List.length_map]
      refine AEnd.ret0 ?_
      simp (implicitDefEqProofs := false) only [↓reduceIte, go_sem, Nat.reduceLT, eq_self, hP]
end Go.Proofs.YtkapgooedfompaaGreat
namespace Go.Proofs.YtkapgooedfompaaGreat
open Go.Proofs.YtkapgooedfompaaGreatAw Go.RowKit
set_option linter.unusedVariables false
set_option linter.unusedSimpArgs false
/-- A text's bytes. -/
def sbytes (s : ByteArray) : List Nat := s.data.toList.map UInt8.toNat
theorem sbytes_len (s : ByteArray) : (sbytes s).length = s.size := by simp [sbytes]
theorem strRows_eq (s : ByteArray) : strRows s = bys (sbytes s) := by
  unfold strRows bys sbytes
  rw [List.map_map]
  rfl
def textP (s : ByteArray) : List Nat := putP s.size ++ sbytes s
set_option maxRecDepth 10000 in
theorem text_does (s : ByteArray) (hs : s.size ≤ 100000000000000) (H : AHeap) : Does Tryz.prog 54 [sA s] H (.ok (.d (.list false (bys (textP s))))) H := by
  refine Does.of_awp (hint := (fun _ => false)) Tryz.func54 (by kernel_rfl) rfl [2] (by kernel_rfl) (by decide) (by simp [Tryz.ntmps54]) ?_
  rw [Tryz.ntmps54]
  simp (implicitDefEqProofs := false) only [↓reduceIte, go_sem, Nat.reduceLT, reduceCtorEq, eq_self, wrapU64N s.size (by omega)]
  refine KCall.ok (putOwn_does s.size (by omega) _) ?_
  have hl := putP_len 10 s.size (by omega)
  have hsl := sbytes_len s
  simp (implicitDefEqProofs := false) only [↓reduceIte, go_sem, Nat.reduceLT, Nat.reduceEqDiff, reduceCtorEq, eq_self, strRows_eq, bys_len, bys_one, bys_app]
  refine ⟨by omega, by omega, AEnd.ret ?_⟩
  have ht : (bys (putP s.size ++ sbytes s)).take ((putP s.size).length + (sbytes s).length) = bys (putP s.size ++ sbytes s) := List.take_of_length_le (by rw [bys_len, List.length_append]; omega)
  simp (implicitDefEqProofs := false) only [↓reduceIte, go_sem, Nat.reduceLT, eq_self, ht, textP]
/-- Eight bytes, the greatest first. -/
def beP (n : Nat) : List Nat := (List.range 8).map fun i => n / 256 ^ (7 - i) % 256
theorem beP_len (n : Nat) : (beP n).length = 8 := by simp [beP]
theorem beP_take (n k : Nat) (h : k < 8) : (beP n).take (k + 1) = (beP n).take k ++ [n / 256 ^ (7 - k) % 256] := by
  rw [List.take_succ_eq_append_getElem (by rw [beP_len]; exact h)]
  simp [beP]
theorem may_size {v : Val} (hm : mayV v = true) (h3 : v.kind = 3) : v.s.size ≤ 1024 := by
  unfold mayV at hm
  rw [if_neg (by omega), if_neg (by omega), if_pos h3] at hm
  simp at hm
  exact hm.2
/-- A value's bytes. -/
def valB (v : Val) : List Nat := if v.kind = 1 then putP (zigP v.i) else if v.kind = 2 then beP (keyN (toU v.i)) else if v.kind = 3 then textP v.s else []
set_option maxRecDepth 10000 in
set_option maxHeartbeats 1000000 in
theorem valBytes_does (v : Val) (hi : -9223372036854775808 ≤ v.i ∧ v.i ≤ 9223372036854775807) (hm : mayV v = true) (H : AHeap) :
    Does Tryz.prog 20 [v.av] H (.ok (.tup [.d (.list false (bys (valB v))), iA 0])) H := by
  by_cases h1 : v.kind = 1
  · have e : valB v = putP (zigP v.i) := by unfold valB; rw [if_pos h1]
    rw [e]
    refine Does.of_awp (hint := (fun _ => false)) Tryz.func20 (by kernel_rfl) rfl [2, 3] (by kernel_rfl) (by decide) (by simp [Tryz.ntmps20]) ?_
    rw [Tryz.ntmps20]
    simp (implicitDefEqProofs := false) only [↓reduceIte, go_sem, oread, Nat.reduceAdd, Nat.reduceLT, Nat.reduceEqDiff, eq_self]
    refine KCall.ok (mayV_does v _) ?_
    simp (implicitDefEqProofs := false) only [↓reduceIte, go_sem, oread, Nat.reduceAdd, Nat.reduceLT, Nat.reduceLeDiff, Nat.reduceEqDiff, eq_self, hm, eq_true h1]
    refine KCall.ok (zig_does v.i hi.1 hi.2 _) ?_
    simp (implicitDefEqProofs := false) only [↓reduceIte, go_sem, Nat.reduceLT, eq_self]
    refine KCall.ok (put_does (zigP v.i) (zigP_lt hi.1 hi.2) _) ?_
    simp (implicitDefEqProofs := false) only [↓reduceIte, go_sem, Nat.reduceLT, eq_self]
    refine AEnd.ret ?_
    simp (implicitDefEqProofs := false) only [↓reduceIte, go_sem, Nat.reduceLT, Nat.reduceEqDiff, eq_self]
  by_cases h2 : v.kind = 2
  · have e : valB v = beP (keyN (toU v.i)) := by unfold valB; rw [if_neg h1, if_pos h2]
    have hk := keyN_lt (toU v.i) (toU_lt _)
    rw [e]
    refine Does.of_awp (hint := (fun _ => false)) Tryz.func20 (by kernel_rfl) rfl [2, 3] (by kernel_rfl) (by decide) (by simp [Tryz.ntmps20]) ?_
    rw [Tryz.ntmps20]
    simp (implicitDefEqProofs := false) only [↓reduceIte, go_sem, oread, Nat.reduceAdd, Nat.reduceLT, Nat.reduceEqDiff, eq_self]
    refine KCall.ok (mayV_does v _) ?_
    simp (implicitDefEqProofs := false) only [↓reduceIte, go_sem, oread, Nat.reduceAdd, Nat.reduceLT, Nat.reduceLeDiff, Nat.reduceEqDiff, eq_self, hm, h1, eq_true h2, wrap_toU]
    refine KCall.ok (fkey_does _ (toU_lt _) _) ?_
    generalize keyN (toU v.i) = n at *
    simp (implicitDefEqProofs := false) only [↓reduceIte, go_sem, Nat.reduceLT, eq_self]
    refine awp_for (fun k s H' => H' = H ++ [.box 45 3 0 1 [iA v.kind, iA v.i, sA v.s], .arr 5 1 k (bys ((beP n).take k))] ∧ s 4 = du n ∧ s 5 = .sl (H.length + 1) k 0 k ∧ s 24 = iA k) 8 (by omega) (Weak.virt1 _ _ 5 5 1 (by decide) (by simp (implicitDefEqProofs := false) only [↓reduceIte, go_sem, Nat.reduceLT, Nat.reduceEqDiff, eq_self]) _) ?_ ?_ ?_
    · refine ⟨?_, ?_⟩
      · simp (implicitDefEqProofs := false) only [go_sem, eq_self, List.take_zero, bys_nil]
      · simp (implicitDefEqProofs := false) only [↓reduceIte, go_sem, Nat.reduceLT, Nat.reduceEqDiff, eq_self]
    · rintro k s H' hk2 hw ⟨rfl, t4, t5, t24⟩
      have hk8 : ((k : Int) < 8) = True := eq_true (by omega)
      have e1 := beP_take n k hk2
      have el : ((beP n).take k).length = k := by rw [List.length_take, beP_len]; omega
      have w1 : IntKind.i64.wrap (7 - (k : Int)) = ((7 - k : Nat) : Int) := by rw [wrap64_in _ (by omega) (by omega)]; omega
      have w2 : IntKind.i64.wrap (8 * ((7 - k : Nat) : Int)) = ((8 * (7 - k) : Nat) : Int) := by rw [wrap64_in _ (by omega) (by omega)]; omega
      have w3 : IntKind.u64.wrap ((8 * (7 - k) : Nat) : Int) = ((8 * (7 - k) : Nat) : Int) := wrapU64N _ (by omega)
      have w4 : shrI .u64 (n : Int) ((8 * (7 - k) : Nat) : Int) = ((n / 256 ^ (7 - k) : Nat) : Int) := by
        rw [shrU n (8 * (7 - k)) (by omega), Nat.pow_mul]
      have w5 : IntKind.u64.wrap ((n / 256 ^ (7 - k) : Nat) : Int) = ((n / 256 ^ (7 - k) : Nat) : Int) := wrapU64N _ (Nat.lt_of_le_of_lt (Nat.div_le_self _ _) hk)
      rw [e1]
      generalize n / 256 ^ (7 - k) = m at *
      generalize hq : ((8 * (7 - k) : Nat) : Int) = q at *
      generalize ((7 - k : Nat) : Int) = q2 at *
      generalize (beP n).take k = B at *
      simp (implicitDefEqProofs := false) only [↓reduceIte, go_sem, Nat.reduceAdd, Nat.reduceLT, Nat.reduceLeDiff, Nat.reduceEqDiff, eq_self, t4, t5, t24, hk8, w1, w2, w3, w4, wrapU8mod, bys_len, el, bys_snoc]
      refine ⟨by omega, by omega, by omega, Rnd.same ⟨?_, ?_⟩⟩
      · simp (implicitDefEqProofs := false) only [go_sem, eq_self]
      · simp (implicitDefEqProofs := false) only [↓reduceIte, go_sem, Nat.reduceLT, Nat.reduceEqDiff, eq_self, t4, hw]
    · rintro s H' ⟨rfl, t4, t5, t24⟩
      rw [show (beP n).take 8 = beP n from List.take_of_length_le (by rw [beP_len]; exact Nat.le_refl _)]
      simp (implicitDefEqProofs := false) only [↓reduceIte, go_sem, Nat.reduceLT, Nat.reduceEqDiff, Int.reduceLT, eq_self, t5, t24]
      refine AEnd.ret ?_
      simp (implicitDefEqProofs := false) only [↓reduceIte, go_sem, Nat.reduceLT, Nat.reduceEqDiff, eq_self, show (bys (beP n)).take 8 = bys (beP n) from List.take_of_length_le (by rw [bys_len, beP_len]; exact Nat.le_refl _)]
  by_cases h3 : v.kind = 3
  · have e : valB v = textP v.s := by unfold valB; rw [if_neg h1, if_neg h2, if_pos h3]
    have hs := may_size hm h3
    rw [e]
    refine Does.of_awp (hint := (fun _ => false)) Tryz.func20 (by kernel_rfl) rfl [2, 3] (by kernel_rfl) (by decide) (by simp [Tryz.ntmps20]) ?_
    rw [Tryz.ntmps20]
    simp (implicitDefEqProofs := false) only [↓reduceIte, go_sem, oread, Nat.reduceAdd, Nat.reduceLT, Nat.reduceEqDiff, eq_self]
    refine KCall.ok (mayV_does v _) ?_
    simp (implicitDefEqProofs := false) only [↓reduceIte, go_sem, oread, Nat.reduceAdd, Nat.reduceLT, Nat.reduceLeDiff, Nat.reduceEqDiff, eq_self, hm, h1, h2, eq_true h3]
    refine KCall.ok (text_does v.s (by omega) _) ?_
    simp (implicitDefEqProofs := false) only [↓reduceIte, go_sem, Nat.reduceLT, eq_self]
    refine AEnd.ret ?_
    simp (implicitDefEqProofs := false) only [↓reduceIte, go_sem, Nat.reduceLT, Nat.reduceEqDiff, eq_self]
  · have e : valB v = [] := by unfold valB; rw [if_neg h1, if_neg h2, if_neg h3]
    rw [e]
    refine Does.subT (cs := [.d (.v (.slice none 0 0)), iA 0]) ?_ (.cons .nil (.cons (.refl _) .nil))
    refine Does.of_awp (hint := (fun _ => false)) Tryz.func20 (by kernel_rfl) rfl [2, 3] (by kernel_rfl) (by decide) (by simp [Tryz.ntmps20]) ?_
    rw [Tryz.ntmps20]
    simp (implicitDefEqProofs := false) only [↓reduceIte, go_sem, oread, Nat.reduceAdd, Nat.reduceLT, Nat.reduceEqDiff, eq_self]
    refine KCall.ok (mayV_does v _) ?_
    simp (implicitDefEqProofs := false) only [↓reduceIte, go_sem, oread, Nat.reduceAdd, Nat.reduceLT, Nat.reduceLeDiff, Nat.reduceEqDiff, eq_self, hm, h1, h2, h3]
    refine AEnd.ret ?_
    simp (implicitDefEqProofs := false) only [↓reduceIte, go_sem, Nat.reduceLT, Nat.reduceEqDiff, eq_self]
end Go.Proofs.YtkapgooedfompaaGreat
namespace Go.Proofs.YtkapgooedfompaaGreat
open Go.Proofs.YtkapgooedfompaaGreatAw Go.RowKit
set_option linter.unusedVariables false
set_option linter.unusedSimpArgs false
def toTextP (b : List Nat) (most : Nat) : List Nat × List Nat × Int := match numP 10 0 b with
  | (.ok n, r) => if most < n then ([], [], 2) else if r.length < n then ([], [], 3) else (r.take n, r.drop n, 0)
  | (.error e, _) => ([], [], e)
theorem numP_suffix : ∀ (k acc : Nat) (b : List Nat), ∃ j, (numP k acc b).2 = b.drop j
  | 0, _, b => ⟨0, rfl⟩
  | _ + 1, _, [] => ⟨0, rfl⟩
  | k + 1, acc, c :: b => by
    unfold numP
    split
    · exact ⟨1, rfl⟩
    · split
      · exact ⟨1, rfl⟩
      · obtain ⟨j, h⟩ := numP_suffix k (acc + c % 128 * 128 ^ (9 - k)) b
        exact ⟨j + 1, h⟩
set_option maxRecDepth 10000 in
set_option maxHeartbeats 2000000 in
theorem toText_does (b : List Nat) (most : Nat) (hmo : most ≤ 1000000) (hl : b.length ≤ 140737488351232) (hb : ∀ c ∈ b, c < 256) (H : AHeap) :
    Does Tryz.prog 89 [.d (.list false (bys b)), iA most] H (.ok (.tup [sA (bstr (toTextP b most).1), .d (.list false (bys (toTextP b most).2.1)), iA (toTextP b most).2.2])) H := by
  have hd := number_does (H ++ [.box 26 1 0 1 [iA 0], rowB b]) (H.length + 1) b (by omega) hb (by simp)
  have hset : ∀ x y z : AObj, (H ++ [x, y]).set (H.length + 1) z = H ++ [x, z] := fun x y z => by simp []
  have hset0 : ∀ x y z : AObj, (H ++ [x, y]).set H.length z = H ++ [z, y] := fun x y z => by simp []
  rw [hset] at hd
  have hg : toTextP b most = match numP 10 0 b with
    | (.ok n, r) => if most < n then ([], [], 2) else if r.length < n then ([], [], 3) else (r.take n, r.drop n, 0)
    | (.error e, _) => ([], [], e) := rfl
  have hnl : ∀ n, (numP 10 0 b).1 = .ok n → n < 18446744073709551616 := fun n h => numP_lt 10 0 b n (by decide) (Nat.le_refl _) h
  obtain ⟨j, hsuf⟩ := numP_suffix 10 0 b
  rcases hn : numP 10 0 b with ⟨_ | n, r⟩
  · rename_i e
    rw [hn] at hd hg
    rw [hg]
    refine Does.subT (cs := [sA ⟨#[]⟩, .d (.v (.slice none 0 0)), iA e]) ?_ (.cons (.refl _) (.cons .nil (.cons (.refl _) .nil)))
    refine Does.of_awpD (hint := fun _ => false) Tryz.func89 (by kernel_rfl) rfl [.tmp 4, .tmp 5, .cell 6 26] (by kernel_rfl) rfl rfl rfl rfl (by simp [Tryz.ntmps89]) ?_
    rw [Tryz.ntmps89]
    simp (implicitDefEqProofs := false) only [↓reduceIte, go_sem, owrite, Nat.reduceLT, Nat.reduceEqDiff, reduceCtorEq, eq_self]
    refine KCall.panic hd ?_
    simp (implicitDefEqProofs := false) only [↓reduceIte, go_sem, Nat.reduceLT, eq_self]
    refine ⟨_, saved_pan _ _ (iA 0) e (by simp), ?_⟩
    rw [hset0]
    refine AEndC.ret ?_
    simp (implicitDefEqProofs := false) only [↓reduceIte, go_sem, oread, Nat.reduceAdd, Nat.reduceLT, Nat.reduceEqDiff, reduceCtorEq, eq_self, resAll, resAV]
  · rw [hn] at hd hg hsuf
    have hnn := hnl n (by rw [hn])
    simp only at hsuf
    have hrl : r.length ≤ 140737488351232 := by rw [hsuf, List.length_drop]; omega
    have wm : IntKind.u64.wrap (most : Int) = (most : Int) := wrapU64N _ (by omega)
    have wr : IntKind.u64.wrap (r.length : Int) = (r.length : Int) := wrapU64N _ (by omega)
    have c0 : ((most : Int) < 0) = False := eq_false (by omega)
    have hr : toTextP b most = if most < n then ([], [], 2) else if r.length < n then ([], [], 3) else (r.take n, r.drop n, 0) := hg
    rw [hr]
    by_cases h1 : most < n
    · rw [if_pos h1]
      refine Does.subT (cs := [sA ⟨#[]⟩, .d (.v (.slice none 0 0)), iA 2]) ?_ (.cons (.refl _) (.cons .nil (.cons (.refl _) .nil)))
      refine Does.of_awpD (hint := fun _ => false) Tryz.func89 (by kernel_rfl) rfl [.tmp 4, .tmp 5, .cell 6 26] (by kernel_rfl) rfl rfl rfl rfl (by simp [Tryz.ntmps89]) ?_
      rw [Tryz.ntmps89]
      simp (implicitDefEqProofs := false) only [↓reduceIte, go_sem, owrite, Nat.reduceLT, Nat.reduceEqDiff, reduceCtorEq, eq_self]
      refine KCall.ok hd ?_
      simp (implicitDefEqProofs := false) only [↓reduceIte, go_sem, Nat.reduceLT, Nat.reduceEqDiff, reduceCtorEq, eq_self, rowB, c0, wm, show ((most : Int) < (n : Int)) = True from eq_true (by omega)]
      refine ⟨_, saved_pan _ _ (iA 0) 2 (by simp), ?_⟩
      rw [hset0]
      refine AEndC.ret ?_
      simp (implicitDefEqProofs := false) only [↓reduceIte, go_sem, oread, Nat.reduceAdd, Nat.reduceLT, Nat.reduceEqDiff, reduceCtorEq, eq_self, resAll, resAV]
    rw [if_neg h1]
    by_cases h2 : r.length < n
    · rw [if_pos h2]
      refine Does.subT (cs := [sA ⟨#[]⟩, .d (.v (.slice none 0 0)), iA 3]) ?_ (.cons (.refl _) (.cons .nil (.cons (.refl _) .nil)))
      refine Does.of_awpD (hint := fun _ => false) Tryz.func89 (by kernel_rfl) rfl [.tmp 4, .tmp 5, .cell 6 26] (by kernel_rfl) rfl rfl rfl rfl (by simp [Tryz.ntmps89]) ?_
      rw [Tryz.ntmps89]
      simp (implicitDefEqProofs := false) only [↓reduceIte, go_sem, owrite, Nat.reduceLT, Nat.reduceEqDiff, reduceCtorEq, eq_self]
      refine KCall.ok hd ?_
      simp (implicitDefEqProofs := false) only [↓reduceIte, go_sem, oread, Nat.reduceLT, Nat.reduceEqDiff, reduceCtorEq, eq_self, rowB, c0, wm, wr, bys_len, show ((most : Int) < (n : Int)) = False from eq_false (by omega), show ((r.length : Int) < (n : Int)) = True from eq_true (by omega)]
      refine ⟨_, saved_pan _ _ (iA 0) 3 (by simp), ?_⟩
      rw [hset0]
      refine AEndC.ret ?_
      simp (implicitDefEqProofs := false) only [↓reduceIte, go_sem, oread, Nat.reduceAdd, Nat.reduceLT, Nat.reduceEqDiff, reduceCtorEq, eq_self, resAll, resAV]
    rw [if_neg h2]
    have wn : IntKind.i64.wrap (n : Int) = (n : Int) := wrap64_in _ (by omega) (by omega)
    have hnr : n ≤ r.length := by omega
    have hrt : (bys r).take n = bys (r.take n) := take_bys r n
    have hrt2 : (bys r).take r.length = bys r := List.take_of_length_le (by rw [bys_len]; exact Nat.le_refl _)
    have hdl : (r.drop n).length = r.length - n := List.length_drop
    refine Does.of_awpD (hint := fun _ => false) Tryz.func89 (by kernel_rfl) rfl [.tmp 4, .tmp 5, .cell 6 26] (by kernel_rfl) rfl rfl rfl rfl (by simp [Tryz.ntmps89]) ?_
    rw [Tryz.ntmps89]
    simp (implicitDefEqProofs := false) only [↓reduceIte, go_sem, owrite, Nat.reduceLT, Nat.reduceEqDiff, reduceCtorEq, eq_self]
    refine KCall.ok hd ?_
    simp (implicitDefEqProofs := false) only [↓reduceIte, go_sem, oread, Nat.reduceLT, Nat.reduceEqDiff, reduceCtorEq, eq_self, rowB, c0, wm, wr, bys_len, show ((most : Int) < (n : Int)) = False from eq_false (by omega), show ((r.length : Int) < (n : Int)) = False from eq_false (by omega)]
    refine awp_drawM [false, false, false, false, false, false, false, false, true] K.mixed (by kernel_rfl) (by kernel_rfl) (by kernel_rfl) ?_
    simp (implicitDefEqProofs := false) only [↓reduceIte, go_sem, oread, owrite, Nat.reduceAdd, Nat.reduceLT, Nat.reduceEqDiff, Int.reduceLE, Int.reduceToNat, eq_self, bys_len, bys_one, hnr, hrt, asBytes_bys, drop_bys, hrt2]
    have hext : ∀ x y z : AObj, Ext (H ++ [x, y]) (H ++ [x, y, z]) := fun x y z => by have := Ext.app (H ++ [x, y]) [z]; rwa [List.append_assoc] at this
    refine ⟨by omega, by omega, hext _ _ _, ?_⟩
    refine ⟨_, saved_ret _ _, ?_⟩
    refine AEndC.ret ?_
    simp (implicitDefEqProofs := false) only [↓reduceIte, go_sem, oread, Nat.reduceAdd, Nat.reduceLT, Nat.reduceEqDiff, reduceCtorEq, eq_self, resAll, resAV, bstr_eq, List.take_of_length_le (Nat.le_of_eq (bys_len (r.drop n)))]
end Go.Proofs.YtkapgooedfompaaGreat
namespace Go.Proofs.YtkapgooedfompaaGreat
open Go.Proofs.YtkapgooedfompaaGreatAw Go.RowKit
set_option linter.unusedVariables false
set_option linter.unusedSimpArgs false
/-- The number of a key. -/
def ubitsP (k : Nat) : Nat := if 9223372036854775808 ≤ k then cleanN (k - 9223372036854775808) else cleanN (18446744073709551615 - k)
theorem andNotTop (k : Nat) (hk : k < 18446744073709551616) (h : 9223372036854775808 ≤ k) : IntKind.u64.wrap (andNotI .u64 (k : Int) 9223372036854775808) = ((k - 9223372036854775808 : Nat) : Int) := by
  have h2 : (~~~BitVec.ofInt 64 9223372036854775808) = BitVec.ofNat 64 (2 ^ 63 - 1) := by decide
  have h3 : andNotI .u64 (k : Int) 9223372036854775808 = ((k - 9223372036854775808 : Nat) : Int) := by
    unfold andNotI
    show (((BitVec.ofInt 64 (k : Int) &&& ~~~BitVec.ofInt 64 9223372036854775808).toNat : Nat) : Int) = _
    rw [h2, BitVec.toNat_and, BitVec.ofInt_natCast, BitVec.toNat_ofNat, BitVec.toNat_ofNat, Nat.mod_eq_of_lt hk, Nat.mod_eq_of_lt (by decide), Nat.and_two_pow_sub_one_eq_mod]
    omega
  rw [h3]
  exact wrapU64N _ (by omega)
set_option maxRecDepth 10000 in
theorem fbits_does (k : Nat) (hk : k < 18446744073709551616) (H : AHeap) : Does Tryz.prog 101 [du k] H (.ok (du (ubitsP k))) H := by
  unfold ubitsP
  refine Does.of_awp (hint := (fun _ => false)) Tryz.func101 (by kernel_rfl) rfl [2] (by kernel_rfl) (by decide) (by simp [Tryz.ntmps101]) ?_
  rw [Tryz.ntmps101]
  by_cases h : 9223372036854775808 ≤ k
  · rw [if_pos h]
    simp (implicitDefEqProofs := false) only [↓reduceIte, go_sem, Nat.reduceLT, reduceCtorEq, eq_self, show ((9223372036854775808 : Int) ≤ (k : Int)) = True from eq_true (by omega), andNotTop k hk h]
    refine KCall.ok (fclean_does _ (by omega) _) ?_
    simp (implicitDefEqProofs := false) only [↓reduceIte, go_sem, Nat.reduceLT, eq_self]
    refine AEnd.ret0 ?_
    simp (implicitDefEqProofs := false) only [↓reduceIte, go_sem, Nat.reduceLT, eq_self]
  · rw [if_neg h]
    simp (implicitDefEqProofs := false) only [↓reduceIte, go_sem, Nat.reduceLT, reduceCtorEq, eq_self, show ((9223372036854775808 : Int) ≤ (k : Int)) = False from eq_false (by omega), notU k hk]
    refine KCall.ok (fclean_does _ (by omega) _) ?_
    simp (implicitDefEqProofs := false) only [↓reduceIte, go_sem, Nat.reduceLT, eq_self]
    refine AEnd.ret0 ?_
    simp (implicitDefEqProofs := false) only [↓reduceIte, go_sem, Nat.reduceLT, eq_self]
theorem ubitsP_lt {k : Nat} (hk : k < 18446744073709551616) : ubitsP k < 18446744073709551616 := by
  unfold ubitsP
  split <;> exact cleanN_lt _ (by omega)
/-- What bytes come to, the greatest first. -/
def beN (l : List Nat) : Nat := l.foldl (fun a c => a * 256 + c) 0
theorem beN_snoc (l : List Nat) (c : Nat) : beN (l ++ [c]) = beN l * 256 + c := by simp [beN]
theorem beN_lt : ∀ (k : Nat) (l : List Nat), l.length = k → (∀ c ∈ l, c < 256) → beN l < 256 ^ k := by
  intro k
  induction k with
  | zero => intro l h _; rw [List.length_eq_zero_iff.1 h]; exact Nat.one_pos
  | succ k ih =>
    intro l h hc
    have hne : l ≠ [] := fun e => by rw [e] at h; simp at h
    rw [← List.dropLast_concat_getLast hne, beN_snoc, Nat.pow_succ]
    have h1 := ih l.dropLast (by simp [h]) fun c hm => hc c (List.dropLast_subset l hm)
    have h2 := hc _ (List.getLast_mem hne)
    omega
theorem shlOr (m c : Nat) (hc : c < 256) (hm : m * 256 + c < 18446744073709551616) : IntKind.u64.wrap (orI .u64 (IntKind.u64.wrap (shlI .u64 (m : Int) 8)) (c : Int)) = ((m * 256 + c : Nat) : Int) := by
  have e8 : (2 : Nat) ^ 8 = 256 := rfl
  have hm2 : m * 256 < 18446744073709551616 := Nat.lt_of_le_of_lt (Nat.le_add_right _ c) hm
  have hc2 : c < 18446744073709551616 := Nat.lt_of_le_of_lt (Nat.le_add_left c _) hm
  have h1 := shlN m 8 (by decide) hm2
  have p64 : (2 : Nat) ^ IntKind.u64.bits = 18446744073709551616 := by decide
  have h4 : m * 256 ||| c = m * 256 + c := by
    have := Nat.two_pow_add_eq_or_of_lt (i := 8) (b := c) (by rw [e8]; exact hc) m
    rw [e8, Nat.mul_comm] at this
    exact this.symm
  rw [e8] at h1
  rw [show ((8 : Nat) : Int) = 8 from rfl] at h1
  rw [h1, orI_nat .u64 (m * 256) c (Nat.lt_of_lt_of_eq hm2 p64.symm) (Nat.lt_of_lt_of_eq hc2 p64.symm), h4]
  exact wrapU64N _ hm
def zV : Val := ⟨0, 0, noS⟩
/-- A signed number of so many bits. -/
def toI (n : Nat) : Int := IntKind.i64.wrap (n : Int)
def floatV (b : List Nat) : Val × List Nat × Int :=
  if b.length < 8 then (zV, [], 3)
  else if keyN (ubitsP (beN (b.take 8))) = beN (b.take 8) then (⟨2, toI (ubitsP (beN (b.take 8))), noS⟩, b.drop 8, 0)
  else (zV, [], 4)
set_option maxRecDepth 10000 in
set_option maxHeartbeats 2000000 in
theorem float_does (b : List Nat) (hl : b.length ≤ 140737488351232) (hb : ∀ c ∈ b, c < 256) (H : AHeap) :
    Does Tryz.prog 88 [.d (.list false (bys b))] H (.ok (.tup [(floatV b).1.av, .d (.list false (bys (floatV b).2.1)), iA (floatV b).2.2])) H := by
  have hF : floatV b = if b.length < 8 then (zV, [], 3) else if keyN (ubitsP (beN (b.take 8))) = beN (b.take 8) then (⟨2, toI (ubitsP (beN (b.take 8))), noS⟩, b.drop 8, 0) else (zV, [], 4) := rfl
  by_cases h8 : b.length < 8
  · rw [hF, if_pos h8]
    refine Does.subT (cs := [zV.av, .d (.v (.slice none 0 0)), iA 3]) ?_ (.cons (.refl _) (.cons .nil (.cons (.refl _) .nil)))
    refine Does.of_awpC (hint := fun _ => false) Tryz.func88 (by kernel_rfl) rfl [.cell 2 45, .tmp 3, .tmp 4] (by kernel_rfl) (by simp [Tryz.ntmps88]) ?_
    rw [Tryz.ntmps88]
    simp (implicitDefEqProofs := false) only [↓reduceIte, go_sem, owrite, Nat.reduceAdd, Nat.reduceLT, Nat.reduceEqDiff, reduceCtorEq, eq_self, bys_len, show ((b.length : Int) < 8) = True from eq_true (by omega)]
    refine AEndC.ret ?_
    simp (implicitDefEqProofs := false) only [↓reduceIte, go_sem, oread, Nat.reduceAdd, Nat.reduceLT, Nat.reduceLeDiff, Nat.reduceEqDiff, eq_self, resAll, resAV, zV, noS]
  rw [if_neg h8] at hF
  have h8l : (b.take 8).length = 8 := by rw [List.length_take]; omega
  have hkl := beN_lt 8 (b.take 8) h8l fun c hc => hb c (List.mem_of_mem_take hc)
  have hkl' : beN (b.take 8) < 18446744073709551616 := hkl
  have hub := ubitsP_lt hkl'
  have hfold : ∀ k, k < 8 → ∃ c, (b.take 8)[k]? = some c ∧ c < 256 ∧ beN ((b.take 8).take (k + 1)) = beN ((b.take 8).take k) * 256 + c ∧ beN ((b.take 8).take k) * 256 + c < 18446744073709551616 := fun k hk => by
    have hk' : k < (b.take 8).length := by omega
    refine ⟨(b.take 8)[k], List.getElem?_eq_getElem hk', hb _ (List.mem_of_mem_take (List.getElem_mem hk')), ?_, ?_⟩
    · rw [List.take_succ_eq_append_getElem hk', beN_snoc]
    · rw [← beN_snoc, ← List.take_succ_eq_append_getElem hk']
      have := beN_lt (k + 1) ((b.take 8).take (k + 1)) (by rw [List.length_take]; omega) fun c hc => hb c (List.mem_of_mem_take (List.mem_of_mem_take hc))
      have h2 : 256 ^ (k + 1) ≤ 256 ^ 8 := Nat.pow_le_pow_right (by decide) (by omega)
      omega
  have ht8 : (b.take 8).take 8 = b.take 8 := List.take_of_length_le (by omega)
  have e8 : (bys b).take 8 = bys (b.take 8) := take_bys b 8
  have hg : ∀ (k c : Nat), (b.take 8)[k]? = some c → (bys (b.take 8))[k]? = some [D.v (.int .u8 (c : Int))] := fun k c h => by unfold bys; rw [List.getElem?_map, h]; rfl
  have hbt := bys_len (b.take 8)
  rw [h8l] at hbt
  have hd8 : (bys b).drop 8 = bys (b.drop 8) := drop_bys b 8
  have hdl : (b.drop 8).length = b.length - 8 := List.length_drop
  have hbtl : (bys b).take b.length = bys b := List.take_of_length_le (by rw [bys_len]; exact Nat.le_refl _)
  rw [hF]
  generalize b.take 8 = B at *
  by_cases hk : keyN (ubitsP (beN B)) = beN B
  · rw [if_pos hk]
    refine Does.of_awpC (hint := fun _ => false) Tryz.func88 (by kernel_rfl) rfl [.cell 2 45, .tmp 3, .tmp 4] (by kernel_rfl) (by simp [Tryz.ntmps88]) ?_
    rw [Tryz.ntmps88]
    simp (implicitDefEqProofs := false) only [↓reduceIte, go_sem, Nat.reduceLT, Int.reduceLE, Int.reduceToNat, reduceCtorEq, eq_self, bys_len, show ((b.length : Int) < 8) = False from eq_false (by omega), bys_one, e8, hbt, show ((8 : Int) ≤ (b.length : Int)) = True from eq_true (by omega)]
    refine awp_for (fun k s H' => H' = H ++ [.box 45 3 0 1 [iA 0, iA 0, sA ⟨#[]⟩]] ∧ s 0 = .d (.list false (bys b)) ∧ s 2 = .ptr H.length 0 0 0 ∧ s 5 = du (beN (B.take k)) ∧ s 14 = .d (.list false (bys B)) ∧ s 15 = iA 8 ∧ s 16 = iA k) 8 (by omega) (Weak.refl _ _) ?_ ?_ ?_
    · refine ⟨rfl, ?_⟩
      simp (implicitDefEqProofs := false) only [↓reduceIte, go_sem, Nat.reduceLT, Nat.reduceEqDiff, reduceCtorEq, eq_self]
      rfl
    · rintro k s H' hk8 hw ⟨rfl, t0, t2, t5, t14, t15, t16⟩
      have hk8' : ((k : Int) < 8) = True := eq_true (by omega)
      obtain ⟨c, g1, g2, g3, g4⟩ := hfold k hk8
      have hx := hg k c g1
      have hso := shlOr (beN (B.take k)) c g2 g4
      have wc : IntKind.u64.wrap (c : Int) = (c : Int) := wrapU64N _ (by omega)
      rw [g3]
      generalize beN (B.take k) = m at *
      generalize m * 256 + c = z at *
      simp (implicitDefEqProofs := false) only [↓reduceIte, go_sem, Nat.reduceLT, Nat.reduceEqDiff, Int.reduceLE, eq_self, t5, t14, t15, t16, hk8', hx, wc, hso]
      refine Rnd.same ⟨rfl, ?_⟩
      simp (implicitDefEqProofs := false) only [↓reduceIte, go_sem, Nat.reduceLT, Nat.reduceEqDiff, reduceCtorEq, eq_self, t0, t2, t14, t15, hw]
    · rintro s H' ⟨rfl, t0, t2, t5, t14, t15, t16⟩
      rw [ht8] at t5
      simp (implicitDefEqProofs := false) only [↓reduceIte, go_sem, Nat.reduceLT, Nat.reduceEqDiff, Int.reduceLT, eq_self, t5, t15, t16]
      refine KCall.ok (fbits_does _ hkl' _) ?_
      simp (implicitDefEqProofs := false) only [↓reduceIte, go_sem, Nat.reduceLT, eq_self]
      refine KCall.ok (fkey_does _ hub _) ?_
      simp (implicitDefEqProofs := false) only [↓reduceIte, go_sem, owrite, Nat.reduceAdd, Nat.reduceLT, Nat.reduceLeDiff, Nat.reduceEqDiff, Int.reduceLE, Int.reduceToNat, reduceCtorEq, eq_self, t0, t2, t5, eq_true (congrArg (fun n : Nat => (n : Int)) hk), bys_len, bys_one, hbtl, hd8, show ((8 : Int) ≤ (b.length : Int)) = True from eq_true (by omega)]
      refine ⟨by omega, by omega, ?_⟩
      refine AEndC.ret ?_
      simp (implicitDefEqProofs := false) only [↓reduceIte, go_sem, oread, Nat.reduceAdd, Nat.reduceLT, Nat.reduceLeDiff, Nat.reduceEqDiff, eq_self, resAll, resAV, t2, toI, noS, List.take_of_length_le (Nat.le_of_eq (bys_len (b.drop 8)))]
  · rw [if_neg hk]
    refine Does.subT (cs := [zV.av, .d (.v (.slice none 0 0)), iA 4]) ?_ (.cons (.refl _) (.cons .nil (.cons (.refl _) .nil)))
    refine Does.of_awpC (hint := fun _ => false) Tryz.func88 (by kernel_rfl) rfl [.cell 2 45, .tmp 3, .tmp 4] (by kernel_rfl) (by simp [Tryz.ntmps88]) ?_
    rw [Tryz.ntmps88]
    simp (implicitDefEqProofs := false) only [↓reduceIte, go_sem, Nat.reduceLT, Int.reduceLE, Int.reduceToNat, reduceCtorEq, eq_self, bys_len, show ((b.length : Int) < 8) = False from eq_false (by omega), bys_one, e8, hbt, show ((8 : Int) ≤ (b.length : Int)) = True from eq_true (by omega)]
    refine awp_for (fun k s H' => H' = H ++ [.box 45 3 0 1 [iA 0, iA 0, sA ⟨#[]⟩]] ∧ s 0 = .d (.list false (bys b)) ∧ s 2 = .ptr H.length 0 0 0 ∧ s 5 = du (beN (B.take k)) ∧ s 14 = .d (.list false (bys B)) ∧ s 15 = iA 8 ∧ s 16 = iA k) 8 (by omega) (Weak.refl _ _) ?_ ?_ ?_
    · refine ⟨rfl, ?_⟩
      simp (implicitDefEqProofs := false) only [↓reduceIte, go_sem, Nat.reduceLT, Nat.reduceEqDiff, reduceCtorEq, eq_self]
      rfl
    · rintro k s H' hk8 hw ⟨rfl, t0, t2, t5, t14, t15, t16⟩
      have hk8' : ((k : Int) < 8) = True := eq_true (by omega)
      obtain ⟨c, g1, g2, g3, g4⟩ := hfold k hk8
      have hx := hg k c g1
      have hso := shlOr (beN (B.take k)) c g2 g4
      have wc : IntKind.u64.wrap (c : Int) = (c : Int) := wrapU64N _ (by omega)
      rw [g3]
      generalize beN (B.take k) = m at *
      generalize m * 256 + c = z at *
      simp (implicitDefEqProofs := false) only [↓reduceIte, go_sem, Nat.reduceLT, Nat.reduceEqDiff, Int.reduceLE, eq_self, t5, t14, t15, t16, hk8', hx, wc, hso]
      refine Rnd.same ⟨rfl, ?_⟩
      simp (implicitDefEqProofs := false) only [↓reduceIte, go_sem, Nat.reduceLT, Nat.reduceEqDiff, reduceCtorEq, eq_self, t0, t2, t14, t15, hw]
    · rintro s H' ⟨rfl, t0, t2, t5, t14, t15, t16⟩
      rw [ht8] at t5
      simp (implicitDefEqProofs := false) only [↓reduceIte, go_sem, Nat.reduceLT, Nat.reduceEqDiff, Int.reduceLT, eq_self, t5, t15, t16]
      refine KCall.ok (fbits_does _ hkl' _) ?_
      simp (implicitDefEqProofs := false) only [↓reduceIte, go_sem, Nat.reduceLT, eq_self]
      refine KCall.ok (fkey_does _ hub _) ?_
      simp (implicitDefEqProofs := false) only [↓reduceIte, go_sem, owrite, Nat.reduceAdd, Nat.reduceLT, Nat.reduceEqDiff, eq_self, t2, t5, show (((keyN (ubitsP (beN B)) : Nat) : Int) = ((beN B : Nat) : Int)) = False from eq_false (by omega)]
      refine AEndC.ret ?_
      simp (implicitDefEqProofs := false) only [↓reduceIte, go_sem, oread, Nat.reduceAdd, Nat.reduceLT, Nat.reduceLeDiff, Nat.reduceEqDiff, eq_self, resAll, resAV, t2, zV, noS]
end Go.Proofs.YtkapgooedfompaaGreat
namespace Go.Proofs.YtkapgooedfompaaGreat
open Go.Proofs.YtkapgooedfompaaGreatAw Go.RowKit
set_option linter.unusedVariables false
set_option linter.unusedSimpArgs false
def ofV (b : List Nat) (k : Int) : Val × List Nat × Int :=
  if k = 0 then (zV, b, 0)
  else if k = 1 then (if (getP b).2.2 = 0 then (num10 (zagP (getP b).1), b.drop (getP b).2.1, 0) else (zV, [], (getP b).2.2))
  else if k = 2 then floatV b
  else if k = 3 then (if (toTextP b 1024).2.2 = 0 then (⟨3, 0, bstr (toTextP b 1024).1⟩, (toTextP b 1024).2.1, 0) else (zV, [], (toTextP b 1024).2.2))
  else (zV, [], 1)
set_option maxRecDepth 10000 in
set_option maxHeartbeats 2000000 in
theorem valOf_does (b : List Nat) (k : Int) (hl : b.length ≤ 140737488351232) (hb : ∀ c ∈ b, c < 256) (H : AHeap) :
    Does Tryz.prog 66 [.d (.list false (bys b)), iA k] H (.ok (.tup [(ofV b k).1.av, .d (.list false (bys (ofV b k).2.1)), iA (ofV b k).2.2])) H := by
  have hO : ofV b k = if k = 0 then (zV, b, 0) else if k = 1 then (if (getP b).2.2 = 0 then (num10 (zagP (getP b).1), b.drop (getP b).2.1, 0) else (zV, [], (getP b).2.2)) else if k = 2 then floatV b else if k = 3 then (if (toTextP b 1024).2.2 = 0 then (⟨3, 0, bstr (toTextP b 1024).1⟩, (toTextP b 1024).2.1, 0) else (zV, [], (toTextP b 1024).2.2)) else (zV, [], 1) := rfl
  by_cases h0 : k = 0
  · rw [hO, if_pos h0]
    subst h0
    refine Does.of_awpC (hint := fun _ => false) Tryz.func66 (by kernel_rfl) rfl [.cell 4 45, .tmp 5, .tmp 6] (by kernel_rfl) (by simp [Tryz.ntmps66]) ?_
    rw [Tryz.ntmps66]
    simp (implicitDefEqProofs := false) only [↓reduceIte, go_sem, owrite, Nat.reduceAdd, Nat.reduceLT, Nat.reduceEqDiff, reduceCtorEq, eq_self, bys_one, bys_len]
    refine ⟨by omega, by omega, AEndC.ret ?_⟩
    simp (implicitDefEqProofs := false) only [↓reduceIte, go_sem, oread, Nat.reduceAdd, Nat.reduceLT, Nat.reduceLeDiff, Nat.reduceEqDiff, eq_self, resAll, resAV, zV, noS, List.take_of_length_le (Nat.le_of_eq (bys_len b))]
  rw [if_neg h0] at hO
  by_cases h1 : k = 1
  · rw [if_pos h1] at hO
    subst h1
    have hgl := getP_le b
    have hglt := getP_lt b
    have hgd := fun H => get_does b (by omega) hb H
    generalize getP b = g at *
    obtain ⟨n, j, e⟩ := g
    simp only at hgl hglt hO hgd
    by_cases he : e = 0
    · rw [if_pos he] at hO
      rw [hO]
      subst he
      refine Does.of_awpC (hint := fun _ => false) Tryz.func66 (by kernel_rfl) rfl [.cell 4 45, .tmp 5, .tmp 6] (by kernel_rfl) (by simp [Tryz.ntmps66]) ?_
      rw [Tryz.ntmps66]
      have hbt : (bys b).take b.length = bys b := List.take_of_length_le (by rw [bys_len]; exact Nat.le_refl _)
      have hdl : (b.drop j).length = b.length - j := List.length_drop
      simp (implicitDefEqProofs := false) only [↓reduceIte, go_sem, Nat.reduceLT, Nat.reduceEqDiff, Int.reduceEq, reduceCtorEq, eq_self]
      refine KCall.ok (hgd _) ?_
      simp (implicitDefEqProofs := false) only [↓reduceIte, go_sem, Nat.reduceLT, Nat.reduceEqDiff, eq_self]
      refine awp_drawN [false, false, false, false, false, false, false, true] 7 K.mixed (by kernel_rfl) (by kernel_rfl) (by kernel_rfl) ?_
      simp (implicitDefEqProofs := false) only [↓reduceIte, go_sem, Nat.reduceLT, Nat.reduceEqDiff, eq_self]
      refine KCall.ok (zag_does n hglt _) ?_
      simp (implicitDefEqProofs := false) only [↓reduceIte, go_sem, owrite, Nat.reduceAdd, Nat.reduceLT, Nat.reduceLeDiff, Nat.reduceEqDiff, reduceCtorEq, eq_self, bys_one, bys_len, hbt, drop_bys, hgl, show ((0 : Int) ≤ (j : Int)) = True from eq_true (by omega)]
      refine ⟨by omega, by omega, AEndC.ret ?_⟩
      simp (implicitDefEqProofs := false) only [↓reduceIte, go_sem, oread, Nat.reduceAdd, Nat.reduceLT, Nat.reduceLeDiff, Nat.reduceEqDiff, eq_self, resAll, resAV, num10, noS, List.take_of_length_le (Nat.le_of_eq (bys_len (b.drop j)))]
    · rw [if_neg he] at hO
      rw [hO]
      refine Does.subT (cs := [zV.av, .d (.v (.slice none 0 0)), iA e]) ?_ (.cons (.refl _) (.cons .nil (.cons (.refl _) .nil)))
      refine Does.of_awpC (hint := fun _ => false) Tryz.func66 (by kernel_rfl) rfl [.cell 4 45, .tmp 5, .tmp 6] (by kernel_rfl) (by simp [Tryz.ntmps66]) ?_
      rw [Tryz.ntmps66]
      simp (implicitDefEqProofs := false) only [↓reduceIte, go_sem, Nat.reduceLT, Nat.reduceEqDiff, Int.reduceEq, reduceCtorEq, eq_self]
      refine KCall.ok (hgd _) ?_
      simp (implicitDefEqProofs := false) only [↓reduceIte, go_sem, owrite, Nat.reduceAdd, Nat.reduceLT, Nat.reduceEqDiff, eq_self, he]
      refine AEndC.ret ?_
      simp (implicitDefEqProofs := false) only [↓reduceIte, go_sem, oread, Nat.reduceAdd, Nat.reduceLT, Nat.reduceLeDiff, Nat.reduceEqDiff, eq_self, resAll, resAV, zV, noS]
  rw [if_neg h1] at hO
  by_cases h2 : k = 2
  · rw [if_pos h2] at hO
    subst h2
    rw [hO]
    have hf := fun H => float_does b hl hb H
    generalize floatV b = t at *
    obtain ⟨v, r, e⟩ := t
    refine Does.of_awpC (hint := fun _ => false) Tryz.func66 (by kernel_rfl) rfl [.cell 4 45, .tmp 5, .tmp 6] (by kernel_rfl) (by simp [Tryz.ntmps66]) ?_
    rw [Tryz.ntmps66]
    simp (implicitDefEqProofs := false) only [↓reduceIte, go_sem, Nat.reduceLT, Nat.reduceEqDiff, Int.reduceEq, reduceCtorEq, eq_self]
    refine KCall.ok (hf _) ?_
    simp (implicitDefEqProofs := false) only [↓reduceIte, go_sem, owrite, Nat.reduceAdd, Nat.reduceLT, Nat.reduceEqDiff, eq_self]
    refine AEndC.ret ?_
    simp (implicitDefEqProofs := false) only [↓reduceIte, go_sem, oread, Nat.reduceAdd, Nat.reduceLT, Nat.reduceLeDiff, Nat.reduceEqDiff, eq_self, resAll, resAV]
  rw [if_neg h2] at hO
  by_cases h3 : k = 3
  · rw [if_pos h3] at hO
    subst h3
    have hf := fun H => toText_does b 1024 (by decide) hl hb H
    generalize toTextP b 1024 = t at *
    obtain ⟨v, r, e⟩ := t
    simp only at hO hf
    by_cases he : e = 0
    · rw [if_pos he] at hO
      rw [hO]
      subst he
      refine Does.of_awpC (hint := fun _ => false) Tryz.func66 (by kernel_rfl) rfl [.cell 4 45, .tmp 5, .tmp 6] (by kernel_rfl) (by simp [Tryz.ntmps66]) ?_
      rw [Tryz.ntmps66]
      simp (implicitDefEqProofs := false) only [↓reduceIte, go_sem, Nat.reduceLT, Nat.reduceEqDiff, Int.reduceEq, reduceCtorEq, eq_self]
      refine KCall.ok (hf _) ?_
      simp (implicitDefEqProofs := false) only [↓reduceIte, go_sem, owrite, Nat.reduceAdd, Nat.reduceLT, Nat.reduceLeDiff, Nat.reduceEqDiff, eq_self]
      refine AEndC.ret ?_
      simp (implicitDefEqProofs := false) only [↓reduceIte, go_sem, oread, Nat.reduceAdd, Nat.reduceLT, Nat.reduceLeDiff, Nat.reduceEqDiff, eq_self, resAll, resAV]
    · rw [if_neg he] at hO
      rw [hO]
      refine Does.subT (cs := [zV.av, .d (.v (.slice none 0 0)), iA e]) ?_ (.cons (.refl _) (.cons .nil (.cons (.refl _) .nil)))
      refine Does.of_awpC (hint := fun _ => false) Tryz.func66 (by kernel_rfl) rfl [.cell 4 45, .tmp 5, .tmp 6] (by kernel_rfl) (by simp [Tryz.ntmps66]) ?_
      rw [Tryz.ntmps66]
      simp (implicitDefEqProofs := false) only [↓reduceIte, go_sem, Nat.reduceLT, Nat.reduceEqDiff, Int.reduceEq, reduceCtorEq, eq_self]
      refine KCall.ok (hf _) ?_
      simp (implicitDefEqProofs := false) only [↓reduceIte, go_sem, owrite, Nat.reduceAdd, Nat.reduceLT, Nat.reduceEqDiff, eq_self, he]
      refine AEndC.ret ?_
      simp (implicitDefEqProofs := false) only [↓reduceIte, go_sem, oread, Nat.reduceAdd, Nat.reduceLT, Nat.reduceLeDiff, Nat.reduceEqDiff, eq_self, resAll, resAV, zV, noS]
  rw [if_neg h3] at hO
  rw [hO]
  refine Does.subT (cs := [zV.av, .d (.v (.slice none 0 0)), iA 1]) ?_ (.cons (.refl _) (.cons .nil (.cons (.refl _) .nil)))
  refine Does.of_awpC (hint := fun _ => false) Tryz.func66 (by kernel_rfl) rfl [.cell 4 45, .tmp 5, .tmp 6] (by kernel_rfl) (by simp [Tryz.ntmps66]) ?_
  rw [Tryz.ntmps66]
  simp (implicitDefEqProofs := false) only [↓reduceIte, go_sem, owrite, Nat.reduceAdd, Nat.reduceLT, Nat.reduceEqDiff, eq_self, h0, h1, h2, h3]
  refine AEndC.ret ?_
  simp (implicitDefEqProofs := false) only [↓reduceIte, go_sem, oread, Nat.reduceAdd, Nat.reduceLT, Nat.reduceLeDiff, Nat.reduceEqDiff, eq_self, resAll, resAV, zV, noS]
end Go.Proofs.YtkapgooedfompaaGreat
namespace Go.Proofs.YtkapgooedfompaaGreat
open Go.Proofs.YtkapgooedfompaaGreatAw Go.RowKit
set_option linter.unusedVariables false
set_option linter.unusedSimpArgs false
set_option maxRecDepth 10000 in
theorem rfbits_does (k : Nat) (hk : k < 18446744073709551616) (H : AHeap) : Does Tryz.prog 92 [du k] H (.ok (du (ubitsP k))) H := by
  unfold ubitsP
  refine Does.of_awp (hint := (fun _ => false)) Tryz.func92 (by kernel_rfl) rfl [2] (by kernel_rfl) (by decide) (by simp [Tryz.ntmps92]) ?_
  rw [Tryz.ntmps92]
  by_cases h : 9223372036854775808 ≤ k
  · rw [if_pos h]
    have e1 : IntKind.u64.wrap ((k : Int) - 9223372036854775808) = ((k - 9223372036854775808 : Nat) : Int) := by rw [wrapu64_in _ (by omega) (by omega)]; omega
    simp (implicitDefEqProofs := false) only [↓reduceIte, go_sem, Nat.reduceLT, reduceCtorEq, eq_self, show ((9223372036854775808 : Int) ≤ (k : Int)) = True from eq_true (by omega), e1]
    refine KCall.ok (clean04_does _ (by omega) _) ?_
    simp (implicitDefEqProofs := false) only [↓reduceIte, go_sem, Nat.reduceLT, eq_self]
    refine AEnd.ret0 ?_
    simp (implicitDefEqProofs := false) only [↓reduceIte, go_sem, Nat.reduceLT, eq_self]
  · rw [if_neg h]
    have e1 : IntKind.u64.wrap (18446744073709551615 - (k : Int)) = ((18446744073709551615 - k : Nat) : Int) := by rw [wrapu64_in _ (by omega) (by omega)]; omega
    simp (implicitDefEqProofs := false) only [↓reduceIte, go_sem, Nat.reduceLT, reduceCtorEq, eq_self, show ((9223372036854775808 : Int) ≤ (k : Int)) = False from eq_false (by omega), e1]
    refine KCall.ok (clean04_does _ (by omega) _) ?_
    simp (implicitDefEqProofs := false) only [↓reduceIte, go_sem, Nat.reduceLT, eq_self]
    refine AEnd.ret0 ?_
    simp (implicitDefEqProofs := false) only [↓reduceIte, go_sem, Nat.reduceLT, eq_self]
set_option maxRecDepth 10000 in
theorem rtext_does (s : ByteArray) (hs : s.size ≤ 100000000000000) (H : AHeap) : Does Tryz.prog 61 [sA s] H (.ok (.d (.list false (bys (textP s))))) H := by
  refine Does.of_awp (hint := (fun _ => false)) Tryz.func61 (by kernel_rfl) rfl [2] (by kernel_rfl) (by decide) (by simp [Tryz.ntmps61]) ?_
  rw [Tryz.ntmps61]
  simp (implicitDefEqProofs := false) only [↓reduceIte, go_sem, Nat.reduceLT, reduceCtorEq, eq_self, wrapU64N s.size (by omega)]
  refine KCall.ok (rputOwn_does s.size (by omega) _) ?_
  have hl := putP_len 10 s.size (by omega)
  have hsl := sbytes_len s
  simp (implicitDefEqProofs := false) only [↓reduceIte, go_sem, Nat.reduceLT, Nat.reduceEqDiff, reduceCtorEq, eq_self, strRows_eq, bys_len, bys_one, bys_app]
  refine ⟨by omega, by omega, AEnd.ret ?_⟩
  simp (implicitDefEqProofs := false) only [↓reduceIte, go_sem, Nat.reduceLT, eq_self, textP, List.take_of_length_le (show (bys (putP s.size ++ sbytes s)).length ≤ (putP s.size).length + (sbytes s).length by rw [bys_len, List.length_append]; omega)]
theorem toTextP_get (b : List Nat) (most : Nat) : toTextP b most = if (getP b).2.2 ≠ 0 then ([], [], (getP b).2.2) else if most < (getP b).1 then ([], [], 2) else if b.length - (getP b).2.1 < (getP b).1 then ([], [], 3) else ((b.drop (getP b).2.1).take (getP b).1, (b.drop (getP b).2.1).drop (getP b).1, 0) := by
  obtain ⟨j, hs⟩ := numP_suffix 10 0 b
  unfold toTextP getP
  rcases hn : numP 10 0 b with ⟨_ | n, r⟩
  · rename_i e
    have := numP_err 10 0 b r e hn
    simp only
    rw [if_pos this]
  · rw [hn] at hs
    simp only at hs ⊢
    have hr : b.drop (b.length - r.length) = r := by
      rw [hs, List.length_drop]
      rcases Nat.lt_or_ge b.length j with h | h
      · rw [List.drop_eq_nil_of_le (by omega), List.drop_eq_nil_of_le (by omega)]
      · congr 1; omega
    have hl : b.length - (b.length - r.length) = r.length := by rw [hs, List.length_drop]; omega
    rw [if_neg (show ¬ ((0 : Int) ≠ 0) by simp), hr, hl]
set_option maxRecDepth 10000 in
set_option maxHeartbeats 2000000 in
theorem rtoText_does (b : List Nat) (most : Nat) (hmo : most ≤ 1000000) (hl : b.length ≤ 140737488351232) (hb : ∀ c ∈ b, c < 256) (H : AHeap) :
    Does Tryz.prog 93 [.d (.list false (bys b)), iA most] H (.ok (.tup [sA (bstr (toTextP b most).1), .d (.list false (bys (toTextP b most).2.1)), iA (toTextP b most).2.2])) H := by
  rw [toTextP_get]
  have hgd := fun H => rgetB_does b false hl hb H
  have hgl := getP_le b
  have hglt := getP_lt b
  generalize getP b = g at *
  obtain ⟨n, k, e⟩ := g
  simp only at hgl hglt hgd ⊢
  have wm : IntKind.u64.wrap (most : Int) = (most : Int) := wrapU64N _ (by omega)
  have c0 : ((most : Int) < 0) = False := eq_false (by omega)
  by_cases he : e = 0
  · subst he
    rw [if_neg (by simp)]
    by_cases h1 : most < n
    · rw [if_pos h1]
      refine Does.subT (cs := [sA ⟨#[]⟩, .d (.v (.slice none 0 0)), iA 2]) ?_ (.cons (.refl _) (.cons .nil (.cons (.refl _) .nil)))
      refine Does.of_awp (hint := (fun _ => false)) Tryz.func93 (by kernel_rfl) rfl [4, 5, 6] (by kernel_rfl) (by decide) (by simp [Tryz.ntmps93]) ?_
      rw [Tryz.ntmps93]
      simp (implicitDefEqProofs := false) only [↓reduceIte, go_sem, Nat.reduceLT, reduceCtorEq, eq_self]
      refine KCall.ok (hgd _) ?_
      simp (implicitDefEqProofs := false) only [↓reduceIte, go_sem, Nat.reduceLT, Nat.reduceEqDiff, reduceCtorEq, eq_self, c0, wm, show ((most : Int) < (n : Int)) = True from eq_true (by omega)]
      refine AEnd.ret0 ?_
      simp (implicitDefEqProofs := false) only [↓reduceIte, go_sem, Nat.reduceLT, Nat.reduceEqDiff, eq_self]
    rw [if_neg h1]
    have wr : IntKind.u64.wrap (IntKind.i64.wrap ((b.length : Int) - (k : Int))) = ((b.length - k : Nat) : Int) := by
      rw [wrap64_in _ (by omega) (by omega), wrapu64_in _ (by omega) (by omega)]; omega
    by_cases h2 : b.length - k < n
    · rw [if_pos h2]
      refine Does.subT (cs := [sA ⟨#[]⟩, .d (.v (.slice none 0 0)), iA 3]) ?_ (.cons (.refl _) (.cons .nil (.cons (.refl _) .nil)))
      refine Does.of_awp (hint := (fun _ => false)) Tryz.func93 (by kernel_rfl) rfl [4, 5, 6] (by kernel_rfl) (by decide) (by simp [Tryz.ntmps93]) ?_
      rw [Tryz.ntmps93]
      simp (implicitDefEqProofs := false) only [↓reduceIte, go_sem, Nat.reduceLT, reduceCtorEq, eq_self]
      refine KCall.ok (hgd _) ?_
      simp (implicitDefEqProofs := false) only [↓reduceIte, go_sem, Nat.reduceLT, Nat.reduceEqDiff, reduceCtorEq, eq_self, c0, wm, show ((most : Int) < (n : Int)) = False from eq_false (by omega), bys_len, wr, show (((b.length - k : Nat) : Int) < (n : Int)) = True from eq_true (by omega)]
      refine AEnd.ret0 ?_
      simp (implicitDefEqProofs := false) only [↓reduceIte, go_sem, Nat.reduceLT, Nat.reduceEqDiff, eq_self]
    rw [if_neg h2]
    have wn : IntKind.i64.wrap (n : Int) = (n : Int) := wrap64_in _ (by omega) (by omega)
    obtain ⟨p, hp⟩ : ∃ p, p = k + n := ⟨_, rfl⟩
    have wk : IntKind.i64.wrap ((k : Int) + (n : Int)) = (p : Int) := by rw [wrap64_in _ (by omega) (by omega)]; omega
    have hkp : ((k : Int) ≤ (p : Int)) = True := eq_true (by omega)
    have hk0 : ((0 : Int) ≤ (k : Int)) = True := eq_true (by omega)
    have hp0 : ((0 : Int) ≤ (p : Int)) = True := eq_true (by omega)
    have e1 : ((bys b).take p).drop k = bys ((b.drop k).take n) := by rw [take_bys, drop_bys, hp, List.drop_take, show k + n - k = n by omega]
    have e2 : ((bys b).take b.length).drop p = bys ((b.drop k).drop n) := by rw [take_bys, drop_bys, List.drop_drop, List.take_of_length_le (Nat.le_refl _), hp]
    refine Does.of_awp (hint := (fun _ => false)) Tryz.func93 (by kernel_rfl) rfl [4, 5, 6] (by kernel_rfl) (by decide) (by simp [Tryz.ntmps93]) ?_
    rw [Tryz.ntmps93]
    simp (implicitDefEqProofs := false) only [↓reduceIte, go_sem, Nat.reduceLT, reduceCtorEq, eq_self]
    refine KCall.ok (hgd _) ?_
    simp (implicitDefEqProofs := false) only [↓reduceIte, go_sem, Nat.reduceLT, Nat.reduceEqDiff, reduceCtorEq, eq_self, c0, wm, show ((most : Int) < (n : Int)) = False from eq_false (by omega), bys_len, wr, show (((b.length - k : Nat) : Int) < (n : Int)) = False from eq_false (by omega)]
    refine awp_draw K.mixed (by kernel_rfl) ?_
    simp (implicitDefEqProofs := false) only [↓reduceIte, go_sem, Nat.reduceLT, Nat.reduceEqDiff, reduceCtorEq, eq_self, bys_len, bys_one, wn, wk, hkp, hk0, hp0, e1, e2, asBytes_bys]
    refine ⟨by omega, by omega, AEnd.ret0 ?_⟩
    simp (implicitDefEqProofs := false) only [↓reduceIte, go_sem, Nat.reduceLT, Nat.reduceEqDiff, eq_self, bstr_eq]
  · rw [if_pos he]
    refine Does.subT (cs := [sA ⟨#[]⟩, .d (.v (.slice none 0 0)), iA e]) ?_ (.cons (.refl _) (.cons .nil (.cons (.refl _) .nil)))
    refine Does.of_awp (hint := (fun _ => false)) Tryz.func93 (by kernel_rfl) rfl [4, 5, 6] (by kernel_rfl) (by decide) (by simp [Tryz.ntmps93]) ?_
    rw [Tryz.ntmps93]
    simp (implicitDefEqProofs := false) only [↓reduceIte, go_sem, Nat.reduceLT, reduceCtorEq, eq_self]
    refine KCall.ok (hgd _) ?_
    simp (implicitDefEqProofs := false) only [↓reduceIte, go_sem, Nat.reduceLT, Nat.reduceEqDiff, eq_self, he]
    refine AEnd.ret0 ?_
    simp (implicitDefEqProofs := false) only [↓reduceIte, go_sem, Nat.reduceLT, Nat.reduceEqDiff, eq_self]
end Go.Proofs.YtkapgooedfompaaGreat
namespace Go.Proofs.YtkapgooedfompaaGreat
open Go.Proofs.YtkapgooedfompaaGreatAw Go.RowKit
set_option linter.unusedVariables false
set_option linter.unusedSimpArgs false
theorem beP_drop (n k : Nat) (h : k < 8) : (beP n).drop (7 - k) = n / 256 ^ k % 256 :: (beP n).drop (8 - k) := by
  have hl : 7 - k < (beP n).length := by rw [beP_len]; omega
  rw [List.drop_eq_getElem_cons hl, show 7 - k + 1 = 8 - k by omega]
  simp [beP, show 7 - (7 - k) = k by omega]
/-- Eight bytes, the last ones laid down. -/
def halfP (n k : Nat) : List Nat := List.replicate (8 - k) 0 ++ (beP n).drop (8 - k)
theorem halfP_set (n k : Nat) (h : k < 8) : (bys (halfP n k)).set (7 - k) [.v (.int .u8 ((n / 256 ^ k % 256 : Nat) : Int))] = bys (halfP n (k + 1)) := by
  unfold halfP bys
  rw [show 8 - (k + 1) = 7 - k by omega, beP_drop n k h, show 8 - k = (7 - k) + 1 by omega, List.replicate_succ', List.append_assoc, List.map_append, List.map_append, List.set_append_right _ _ (by simp)]
  simp
theorem halfP_len (n k : Nat) (h : k ≤ 8) : (halfP n k).length = 8 := by unfold halfP; rw [List.length_append, List.length_replicate, List.length_drop, beP_len]; omega
set_option maxRecDepth 10000 in
set_option maxHeartbeats 2000000 in
theorem rvalBytes_does (v : Val) (hi : -9223372036854775808 ≤ v.i ∧ v.i ≤ 9223372036854775807) (hm : mayV v = true) (H : AHeap) :
    Does Tryz.prog 25 [v.av] H (.ok (.tup [.d (.list false (bys (valB v))), iA 0])) H := by
  by_cases h1 : v.kind = 1
  · have e : valB v = putP (zigP v.i) := by unfold valB; rw [if_pos h1]
    rw [e]
    refine Does.of_awp (hint := (fun _ => false)) Tryz.func25 (by kernel_rfl) rfl [2, 3] (by kernel_rfl) (by decide) (by simp [Tryz.ntmps25]) ?_
    rw [Tryz.ntmps25]
    simp (implicitDefEqProofs := false) only [↓reduceIte, go_sem, oread, Nat.reduceAdd, Nat.reduceLT, Nat.reduceEqDiff, eq_self]
    refine KCall.ok (rmay_does v _) ?_
    simp (implicitDefEqProofs := false) only [↓reduceIte, go_sem, oread, Nat.reduceAdd, Nat.reduceLT, Nat.reduceLeDiff, Nat.reduceEqDiff, eq_self, hm, eq_true h1]
    refine KCall.ok (rzig_does v.i hi.1 hi.2 _) ?_
    simp (implicitDefEqProofs := false) only [↓reduceIte, go_sem, Nat.reduceLT, eq_self]
    refine KCall.ok (rput_does _ (zigP_lt hi.1 hi.2) _) ?_
    simp (implicitDefEqProofs := false) only [↓reduceIte, go_sem, Nat.reduceLT, eq_self]
    refine AEnd.ret ?_
    simp (implicitDefEqProofs := false) only [↓reduceIte, go_sem, Nat.reduceLT, Nat.reduceEqDiff, eq_self]
  by_cases h2 : v.kind = 2
  · have e : valB v = beP (keyN (toU v.i)) := by unfold valB; rw [if_neg h1, if_pos h2]
    rw [e]
    have hkl := keyN_lt _ (toU_lt v.i)
    have hwu := wrap_toU v.i
    have hkd := fun H => key04_does (toU v.i) (toU_lt v.i) H
    have h0 : bys (halfP (keyN (toU v.i)) 0) = List.replicate 8 [.v (.int .u8 0)] := by
      unfold halfP
      rw [List.drop_eq_nil_of_le (by rw [beP_len]; exact Nat.le_refl _)]
      rfl
    have h8 : bys (halfP (keyN (toU v.i)) 8) = bys (beP (keyN (toU v.i))) := by unfold halfP; simp
    have hset := halfP_set (keyN (toU v.i))
    have hhl := halfP_len (keyN (toU v.i))
    have hbl := beP_len (keyN (toU v.i))
    generalize hkk : keyN (toU v.i) = q at *
    generalize beP q = B at *
    refine Does.of_awp (hint := (fun t => t == 24)) Tryz.func25 (by kernel_rfl) rfl [2, 3] (by kernel_rfl) (by decide) (by simp [Tryz.ntmps25]) ?_
    rw [Tryz.ntmps25]
    simp (implicitDefEqProofs := false) only [↓reduceIte, go_sem, oread, Nat.reduceAdd, Nat.reduceLT, Nat.reduceEqDiff, Nat.reduceBEq, eq_self]
    refine KCall.ok (rmay_does v _) ?_
    simp (implicitDefEqProofs := false) only [↓reduceIte, go_sem, oread, Nat.reduceAdd, Nat.reduceLT, Nat.reduceLeDiff, Nat.reduceEqDiff, Nat.reduceBEq, eq_self, hm, eq_false h1, eq_true h2, hwu]
    refine KCall.ok (hkd _) ?_
    simp (implicitDefEqProofs := false) only [↓reduceIte, go_sem, Nat.reduceAdd, Nat.reduceLT, Nat.reduceBEq, Int.reduceLE, Int.reduceMul, Int.reduceToNat, eq_self]
    have hp0 : q / 256 ^ 0 = q := by simp
    refine awp_for3 (fun k s H' => H' = H ++ [.box 45 3 0 1 [iA v.kind, iA v.i, sA v.s], .arr 5 1 0 (bys (halfP q k))] ∧ s 4 = du (q / 256 ^ k) ∧ s 5 = .sl (H.length + 1) 0 0 8 ∧ s 6 = iA (7 - k)) 8 (by omega) (Weak.refl _ _) ?_ ?_ ?_
    · refine ⟨by rw [h0], ?_⟩
      simp (implicitDefEqProofs := false) only [↓reduceIte, go_sem, Nat.reduceLT, Nat.reduceEqDiff, Int.reduceSub, eq_self, hp0]
    · rintro k s H' hk hw ⟨rfl, t4, t5, t6⟩
      obtain ⟨j, hj⟩ : ∃ j, j = 7 - k := ⟨_, rfl⟩
      rw [show (7 : Int) - (k : Int) = (j : Int) by omega] at t6
      have hx := hset k hk
      have hl := hhl k (by omega)
      rw [← hj] at hx
      have hd : q / 256 ^ (k + 1) = q / 256 ^ k / 256 := by rw [Nat.div_div_eq_div_mul, Nat.pow_succ]
      have hpl : q / 256 ^ k < 18446744073709551616 := Nat.lt_of_le_of_lt (Nat.div_le_self _ _) hkl
      obtain ⟨c0, hc0⟩ : ∃ c0 : Nat, (bys (halfP q k))[j]? = some [.v (.int .u8 (c0 : Int))] := ⟨(halfP q k)[j]'(by omega), by unfold bys; rw [List.getElem?_map, List.getElem?_eq_getElem (by omega)]; rfl⟩
      rw [hd]
      generalize q / 256 ^ k = p at *
      have m1 : Int.tmod (p : Int) 256 = ((p % 256 : Nat) : Int) := tmodN p 256
      have m2 : Int.tdiv (p : Int) 256 = ((p / 256 : Nat) : Int) := tdivN p 256
      have w1 : IntKind.u64.wrap ((p % 256 : Nat) : Int) = ((p % 256 : Nat) : Int) := wrapU64N _ (by omega)
      have w2 : IntKind.u8.wrap ((p % 256 : Nat) : Int) = ((p % 256 : Nat) : Int) := by simp only [IntKind.wrap, IntKind.signed, IntKind.bits]; simp
      have w3 : IntKind.u64.wrap ((p / 256 : Nat) : Int) = ((p / 256 : Nat) : Int) := wrapU64N _ (by omega)
      have w4 : IntKind.i64.wrap ((j : Int) - 1) = 7 - ((k + 1 : Nat) : Int) := by rw [wrap64_in _ (by omega) (by omega)]; omega
      have c1 : ((0 : Int) ≤ (j : Int)) = True := eq_true (by omega)
      have c2 : ((j : Int) < 8) = True := eq_true (by omega)
      generalize ((p % 256 : Nat) : Int) = y at *
      generalize hz : ((p / 256 : Nat) : Int) = z at *
      generalize (7 - ((k + 1 : Nat) : Int)) = u at *
      simp (implicitDefEqProofs := false) only [↓reduceIte, go_sem, owrite, Nat.reduceAdd, Nat.reduceLT, Nat.reduceEqDiff, Nat.reduceBEq, Int.reduceEq, eq_self, t4, t5, t6, c1, c2, m1, m2, w2, w3, w4, hc0, hx]
      refine Rnd.same ⟨rfl, ?_⟩
      simp (implicitDefEqProofs := false) only [↓reduceIte, go_sem, Nat.reduceLT, Nat.reduceEqDiff, eq_self, t5, du, hz]
    · rintro s H' ⟨rfl, t4, t5, t6⟩
      simp (implicitDefEqProofs := false) only [↓reduceIte, go_sem, Nat.reduceAdd, Nat.reduceLT, Nat.reduceEqDiff, Nat.reduceBEq, Int.reduceLE, Int.reduceSub, Int.reduceNeg, eq_self, t5, t6]
      refine AEnd.ret ?_
      simp (implicitDefEqProofs := false) only [↓reduceIte, go_sem, Nat.reduceLT, Nat.reduceEqDiff, Int.reduceNeg, eq_self, h8, List.take_of_length_le (show (bys B).length ≤ 8 by rw [bys_len]; omega)]
  have hb : mayV v = true → v.kind = 3 ∨ v.kind = 0 := fun h => by
    unfold mayV at h
    rw [if_neg h2, if_neg h1] at h
    by_cases h3 : v.kind = 3
    · exact .inl h3
    · rw [if_neg h3] at h
      by_cases h0 : v.kind = 0
      · exact .inr h0
      · rw [if_neg h0] at h; cases h
  by_cases h3 : v.kind = 3
  · have e : valB v = textP v.s := by unfold valB; rw [if_neg h1, if_neg h2, if_pos h3]
    rw [e]
    have hsz := may_size hm h3
    refine Does.of_awp (hint := (fun _ => false)) Tryz.func25 (by kernel_rfl) rfl [2, 3] (by kernel_rfl) (by decide) (by simp [Tryz.ntmps25]) ?_
    rw [Tryz.ntmps25]
    simp (implicitDefEqProofs := false) only [↓reduceIte, go_sem, oread, Nat.reduceAdd, Nat.reduceLT, Nat.reduceEqDiff, eq_self]
    refine KCall.ok (rmay_does v _) ?_
    simp (implicitDefEqProofs := false) only [↓reduceIte, go_sem, oread, Nat.reduceAdd, Nat.reduceLT, Nat.reduceLeDiff, Nat.reduceEqDiff, eq_self, hm, eq_false h1, eq_false h2, eq_true h3]
    refine KCall.ok (rtext_does v.s (by omega) _) ?_
    simp (implicitDefEqProofs := false) only [↓reduceIte, go_sem, Nat.reduceLT, eq_self]
    refine AEnd.ret ?_
    simp (implicitDefEqProofs := false) only [↓reduceIte, go_sem, Nat.reduceLT, Nat.reduceEqDiff, eq_self]
  · have e : valB v = [] := by unfold valB; rw [if_neg h1, if_neg h2, if_neg h3]
    rw [e]
    refine Does.subT (cs := [.d (.v (.slice none 0 0)), iA 0]) ?_ (.cons .nil (.cons (.refl _) .nil))
    refine Does.of_awp (hint := (fun _ => false)) Tryz.func25 (by kernel_rfl) rfl [2, 3] (by kernel_rfl) (by decide) (by simp [Tryz.ntmps25]) ?_
    rw [Tryz.ntmps25]
    simp (implicitDefEqProofs := false) only [↓reduceIte, go_sem, oread, Nat.reduceAdd, Nat.reduceLT, Nat.reduceEqDiff, eq_self]
    refine KCall.ok (rmay_does v _) ?_
    simp (implicitDefEqProofs := false) only [↓reduceIte, go_sem, oread, Nat.reduceAdd, Nat.reduceLT, Nat.reduceLeDiff, Nat.reduceEqDiff, eq_self, hm, eq_false h1, eq_false h2, eq_false h3]
    refine AEnd.ret ?_
    simp (implicitDefEqProofs := false) only [↓reduceIte, go_sem, Nat.reduceLT, Nat.reduceEqDiff, eq_self]
end Go.Proofs.YtkapgooedfompaaGreat
namespace Go.Proofs.YtkapgooedfompaaGreatAw
open Go.RowKit
set_option linter.unusedVariables false
set_option linter.unusedSimpArgs false
section
variable (P : Program) (hint : Nat → Bool) (n : Nat) (ops : Array Oper)
/-- The region in the order of its text: true: it may change the heap, but for B; false: it leaves it; none: it is looked at in B. -/
def awpMixL (B : AHeap) (Q : Post) : List (Option Bool) → List Oper → (Nat → AV) → AHeap → Prop
  | [], l, s, H => awpList P hint n ops Q l s H
  | _ :: _, [], s, H => awpList P hint n ops Q [] s H
  | some true :: bs, o :: rest, s, H => awpOp P hint n ops (fun _ _ _ => False) o (fun s' H' => Ext B H' ∧ awpMixL B Q bs rest s' H') s H
  | some false :: bs, o :: rest, s, H => awpOp P hint n ops (fun _ _ _ => False) o (fun s' H' => H' = H ∧ awpMixL B Q bs rest s' H') s H
  | none :: bs, o :: rest, s, H => awpOp P hint n ops (fun _ _ _ => False) o (fun s' H' => H' = B ∧ awpMixL B Q bs rest s' H) s B
end
section
variable {P : Program} {hint : Nat → Bool} {n : Nat} {ops : Array Oper} {Q : Post}
theorem awpMixL_steps {B : AHeap} (hdt : ∀ (i : Nat) (o : Oper), ops[i]? = some o → detOp o.op = true) (s0 : Nat → AV) : ∀ (bs : List (Option Bool)) (k : Nat) (rs0 : Nat → AV) (hp0 : Nat → AHeap), k + bs.length ≤ ops.size → awpMixL P hint n ops B Q bs (ops.toList.drop k) (stAt n ops s0 rs0 k) (hp0 k) →
    ∃ (rs : Nat → AV) (hp : Nat → AHeap), (∀ i, i < k → rs i = rs0 i) ∧ (∀ i, i ≤ k → hp i = hp0 i) ∧
      (∀ i o, k ≤ i → i < k + bs.length → ops[i]? = some o → (bs[i - k]? = some (some true) → StepT P hint n ops (hp i) (stAt n ops s0 rs i) o (rs i) (hp (i + 1)) ∧ Ext B (hp (i + 1))) ∧
        (bs[i - k]? = some (some false) → StepT P hint n ops (hp i) (stAt n ops s0 rs i) o (rs i) (hp i) ∧ hp (i + 1) = hp i) ∧
        (bs[i - k]? = some none → StepT P hint n ops B (stAt n ops s0 rs i) o (rs i) B ∧ hp (i + 1) = hp i)) ∧
      awpList P hint n ops Q (ops.toList.drop (k + bs.length)) (stAt n ops s0 rs (k + bs.length)) (hp (k + bs.length))
  | [], k, rs0, hp0, hk, h => ⟨rs0, hp0, fun _ _ => rfl, fun _ _ => rfl, fun i o h1 h2 => by simp at h2; omega, by
      have h : awpList P hint n ops Q (ops.toList.drop k) (stAt n ops s0 rs0 k) (hp0 k) := by
        cases hd : ops.toList.drop k <;> (rw [hd] at h; exact h)
      exact h⟩
  | b :: bs, k, rs0, hp0, hk, h => by
    simp only [List.length_cons] at hk
    have hlt : k < ops.size := by omega
    have hget : ops[k]? = some ops[k] := by simp [hlt]
    have hd : ops.toList.drop k = ops[k] :: ops.toList.drop (k + 1) := by
      rw [List.drop_eq_getElem_cons (by simpa using hlt)]; simp
    rw [hd] at h
    have hdst : dstAt ops k = (ops[k]).dst := by simp [dstAt, hget]
    have step : ∃ r H', ((b = some true → StepT P hint n ops (hp0 k) (stAt n ops s0 rs0 k) ops[k] r H' ∧ Ext B H') ∧ (b = some false → StepT P hint n ops (hp0 k) (stAt n ops s0 rs0 k) ops[k] r (hp0 k) ∧ H' = hp0 k) ∧ (b = none → StepT P hint n ops B (stAt n ops s0 rs0 k) ops[k] r B ∧ H' = hp0 k)) ∧ awpMixL P hint n ops B Q bs (ops.toList.drop (k + 1)) (aput n (stAt n ops s0 rs0 k) (ops[k]).dst r) H' := by
      match b, h with
      | some true, h =>
        obtain ⟨r, H', h1, h2, h3⟩ := step_of (hdt k _ hget) h
        exact ⟨r, H', ⟨fun _ => ⟨h1, h2⟩, fun e => (by cases e), fun e => (by cases e)⟩, h3⟩
      | some false, h =>
        obtain ⟨r, H', h1, rfl, h3⟩ := step_of (hdt k _ hget) h
        exact ⟨r, _, ⟨fun e => (by cases e), fun _ => ⟨h1, rfl⟩, fun e => (by cases e)⟩, h3⟩
      | none, h =>
        obtain ⟨r, H', h1, rfl, h3⟩ := step_of (hdt k _ hget) h
        exact ⟨r, _, ⟨fun e => (by cases e), fun e => (by cases e), fun _ => ⟨h1, rfl⟩⟩, h3⟩
    obtain ⟨r, H', ⟨h1, h2, h3⟩, h4⟩ := step
    let rs1 : Nat → AV := fun i => if i = k then r else rs0 i
    let hp1 : Nat → AHeap := fun i => if i = k + 1 then H' else hp0 i
    have e1 : rs1 k = r := if_pos rfl
    have e2 : hp1 (k + 1) = H' := if_pos rfl
    have hst : ∀ (rs : Nat → AV) i, i ≤ k → (∀ j, j < i → rs j = rs0 j) → stAt n ops s0 rs i = stAt n ops s0 rs0 i := by
      intro rs i
      induction i with
      | zero => intros; rfl
      | succ i ih =>
        intro hi hr
        simp only [stAt, ih (by omega) fun j hj => hr j (by omega), hr i (by omega)]
    have h5 : awpMixL P hint n ops B Q bs (ops.toList.drop (k + 1)) (stAt n ops s0 rs1 (k + 1)) (hp1 (k + 1)) := by
      rw [e2]
      simp only [stAt, e1, hdst]
      rw [hst rs1 k (Nat.le_refl _) fun j hj => if_neg (by omega)]
      exact h4
    obtain ⟨rs, hp, g1, g2, g3, g4⟩ := awpMixL_steps hdt s0 bs (k + 1) rs1 hp1 (by omega) h5
    have f1 : ∀ i, i < k → rs i = rs0 i := fun i hi => by rw [g1 i (by omega)]; exact if_neg (by omega)
    have f2 : ∀ i, i ≤ k → hp i = hp0 i := fun i hi => by rw [g2 i (by omega)]; exact if_neg (by omega)
    have f3 : rs k = r := by rw [g1 k (by omega)]; exact e1
    have f4 : hp (k + 1) = H' := by rw [g2 (k + 1) (by omega)]; exact e2
    refine ⟨rs, hp, f1, f2, fun i o hi hi2 ho => ?_, by rw [List.length_cons, show k + (bs.length + 1) = k + 1 + bs.length from by omega]; exact g4⟩
    rcases Nat.lt_or_ge k i with hki | hki
    · have := g3 i o hki (by simp only [List.length_cons] at hi2; omega) ho
      rw [show i - k = (i - (k + 1)) + 1 from by omega, List.getElem?_cons_succ]
      exact this
    · obtain rfl : i = k := by omega
      rw [hget] at ho
      cases ho
      rw [Nat.sub_self, List.getElem?_cons_zero, f2 i (Nat.le_refl _), f3, f4, hst rs i (Nat.le_refl _) fun j hj => f1 j hj]
      refine ⟨fun e => h1 (Option.some.inj e), fun e => ?_, fun e => h3 (Option.some.inj e)⟩
      obtain ⟨g1, g2⟩ := h2 (Option.some.inj e)
      exact ⟨g1, g2⟩
end
def mixCheckL (hint : Nat → Bool) (ops : Array Oper) (bs : List (Option Bool)) (c0 : Nat) : Bool := bs[c0]? == some (some true) && (List.range bs.length).all fun i => match bs[i]?, ops[i]? with
  | some (some false), some o => floats hint false o || (decide (i < c0) && reachB ops 12 c0 i)
  | some none, some o => floats hint true o
  | some (some true), some _ => decide (c0 ≤ i) && (List.range i).all fun c => bs[c]? == some (some false) || bs[c]? == some none || reachB ops 12 i c
  | _, _ => false
section
variable {P : Program} {hint : Nat → Bool} {n : Nat} {ops : Array Oper} {Q : Post}
/-- A drawn region whose marked operations, all bound one behind the other, change the heap, but for a part B of the objects; operations with the third mark are looked at in that part. -/
theorem awp_drawL (bs : List (Option Bool)) (c0 : Nat) (B : AHeap) {H0 H : AHeap} {id : Nat} {s : Nat → AV} (hm : P.follows .mixedOrders = true) (hc : pureCheck ops = true) (ht : tailCheck ops bs.length = true) (hx : mixCheckL hint ops bs c0 = true) (hB : Ext B H)
    (h : awpMixL P hint n ops B Q bs ops.toList s H) : awp P hint n H0 (.region id ops true) Q s H := by
  obtain ⟨hms, htl⟩ := tailCheck_ok ht
  refine ⟨hm, ?_⟩
  obtain ⟨rs, hp, _, g2, g3, g4⟩ := awpMixL_steps (pureCheck_ok hc).det s bs 0 (fun _ => .top) (fun _ => H) (by omega) h
  have g20 : hp 0 = H := g2 0 (Nat.le_refl _)
  simp only [Nat.zero_add, Nat.sub_zero, Nat.zero_le, true_implies] at g3 g4
  unfold mixCheckL at hx
  rw [Bool.and_eq_true, List.all_eq_true] at hx
  obtain ⟨hx0, hx⟩ := hx
  have hx0 : bs[c0]? = some (some true) := by simpa using hx0
  have hget : ∀ i, i < bs.length → ∃ o, ops[i]? = some o := fun i hi => ⟨ops[i]'(by omega), by simp [show i < ops.size by omega]⟩
  have hbs : ∀ i (hi : i < bs.length), bs[i]? = some bs[i] := fun i hi => List.getElem?_eq_getElem hi
  let ch : Nat → Bool := fun i => bs[i]? == some (some true)
  have chT : ∀ i, ch i = true → bs[i]? = some (some true) := fun i h => by
    have h : (bs[i]? == some (some true)) = true := h
    simpa using h
  have chF : ∀ i, i < bs.length → ch i = false → bs[i]? = some (some false) ∨ bs[i]? = some none := fun i hi h => by
    have h : (bs[i]? == some (some true)) = false := h
    rw [hbs i hi] at h ⊢
    rcases hb : bs[i] with _ | _ | _
    · exact .inr rfl
    · exact .inl rfl
    · rw [hb] at h; simp at h
  have hstay : ∀ i o, i < bs.length → ops[i]? = some o → ch i = false → hp (i + 1) = hp i := fun i o hi ho hci => by
    rcases chF i hi hci with h | h
    · exact ((g3 i o hi ho).2.1 h).2
    · exact ((g3 i o hi ho).2.2 h).2
  have hext : ∀ j, j ≤ bs.length → Ext B (hp j) := by
    intro j
    induction j with
    | zero => intro _; rw [g20]; exact hB
    | succ j ihj =>
      intro hj
      obtain ⟨o, ho⟩ := hget j (by omega)
      cases hcj : ch j with
      | true => exact ((g3 j o (by omega) ho).1 (chT j hcj)).2
      | false => rw [hstay j o (by omega) ho hcj]; exact ihj (by omega)
  have hc0 : ch c0 = true := by show (bs[c0]? == some (some true)) = true; rw [hx0]; rfl
  have hfirst : ∀ i, i < bs.length → i < c0 → ch i = false := by
    intro i hi hlt
    cases hci : ch i with
    | false => rfl
    | true =>
      exfalso
      obtain ⟨o, ho⟩ := hget i hi
      have := hx i (List.mem_range.2 hi)
      rw [chT i hci, ho] at this
      simp only [Bool.and_eq_true, decide_eq_true_eq] at this
      omega
  have hbase : ∀ i, i ≤ bs.length → i ≤ c0 → hp i = H := by
    intro i
    induction i with
    | zero => intros; exact g20
    | succ i ihi =>
      intro hi hcf
      obtain ⟨o, ho⟩ := hget i (by omega)
      rw [hstay i o (by omega) ho (hfirst i (by omega) (by omega))]
      exact ihi (by omega) (by omega)
  refine awpAny_mix (pureCheck_ok hc) bs.length hms htl s rs hp ch ?_ ?_ ?_ ?_ g4 ops.size (Array.replicate ops.size false) s H (by simp) ?_ ?_ ?_ ?_ ?_ ⟨0, Nat.zero_le _, g20.symm, fun c hcm hct => ?_⟩
  · intro c c' h1 h2 h3 h4
    have := hx c' (List.mem_range.2 h2)
    obtain ⟨o, ho⟩ := hget c' h2
    rw [chT c' h4, ho] at this
    simp only [Bool.and_eq_true, List.all_eq_true] at this
    have := this.2 c (List.mem_range.2 h1)
    rw [chT c h3] at this
    simpa using this
  · intro i hi hci
    obtain ⟨o, ho⟩ := hget i hi
    exact hstay i o hi ho hci
  · intro i o hi ho hci
    exact ((g3 i o hi ho).1 (chT i hci)).1
  · intro i o hi ho hci j hj hnr
    have hfl := hx i (List.mem_range.2 hi)
    rcases chF i hi hci with hk | hk
    · rw [hk, ho] at hfl
      simp only [Bool.or_eq_true, Bool.and_eq_true, decide_eq_true_eq] at hfl
      have hs := ((g3 i o hi ho).2.1 hk).1
      rcases hfl with hfl | ⟨hlt, hre⟩
      · exact floats_stepT hfl (fun hf => by cases hf) hs
      · have hjc : j ≤ c0 := by
          rcases Nat.lt_or_ge c0 j with h1 | h1
          · have := hnr c0 h1 hc0
            rw [hre] at this; cases this
          · exact h1
        rw [hbase j hj hjc]
        rw [hbase i (by omega) (by omega)] at hs
        exact hs
    · rw [hk, ho] at hfl
      exact floats_stepT (first := true) hfl (fun _ => hext j hj) ((g3 i o hi ho).2.2 hk).1
  · exact Nat.le_trans List.countP_le_length (by simp)
  · intro t j hj
    have hjl := dstAt_lt hj
    rw [if_neg (by simp [Array.getD, hjl])]
  · intro t _; rfl
  · intro j oj i hoj hl
    have hjl := (Array.getElem?_eq_some_iff.1 hoj).1
    simp [Array.getD, hjl] at hl
  · intro i hi hi2
    simp [Array.getD, hi2]
  · have : c < ops.size := by omega
    simp [Array.getD, this]
end
section
variable (P : Program) (hint : Nat → Bool) (n : Nat) (ops : Array Oper) (Q : Post) (rest : List Oper) (s : Nat → AV) (H B : AHeap) (bs : List (Option Bool))
def KMixL (b : Option Bool) (d : Option Tmp) (H0 : AHeap) : AV → AHeap → Prop := fun r H' => (match b with | some true => Ext B H' ∧ awpMixL P hint n ops B Q bs rest (aput n s d r) H' | some false => H' = H0 ∧ awpMixL P hint n ops B Q bs rest (aput n s d r) H' | none => H' = B ∧ awpMixL P hint n ops B Q bs rest (aput n s d r) H0)
theorem KMixL_true (d : Option Tmp) (H0 : AHeap) (r : AV) : KMixL P hint n ops Q rest s B bs (some true) d H0 r H = (Ext B H ∧ awpMixL P hint n ops B Q bs rest (aput n s d r) H) := rfl
theorem KMixL_false (d : Option Tmp) (H0 : AHeap) (r : AV) : KMixL P hint n ops Q rest s B bs (some false) d H0 r H = (H = H0 ∧ awpMixL P hint n ops B Q bs rest (aput n s d r) H) := rfl
theorem KMixL_none (d : Option Tmp) (H0 : AHeap) (r : AV) : KMixL P hint n ops Q rest s B bs none d H0 r H = (H = B ∧ awpMixL P hint n ops B Q bs rest (aput n s d r) H0) := rfl
theorem awpMixL_end (l : List Oper) : awpMixL P hint n ops B Q [] l s H = awpList P hint n ops Q l s H := by cases l <;> rfl
theorem awpMixL_some (b : Bool) (d : Option Tmp) (op : Op) (ty : TypeId) (p : String) (af : Array Edge) : awpMixL P hint n ops B Q (some b :: bs) (⟨d, op, ty, p, af, none⟩ :: rest) s H = astep P hint s H ⟨d, op, ty, p, af, none⟩ (KMixL P hint n ops Q rest s B bs (some b) d H) KNo := by
  cases b <;> simp only [awpMixL, awpOp] <;> rfl
theorem awpMixL_none (d : Option Tmp) (op : Op) (ty : TypeId) (p : String) (af : Array Edge) : awpMixL P hint n ops B Q (none :: bs) (⟨d, op, ty, p, af, none⟩ :: rest) s H = astep P hint s B ⟨d, op, ty, p, af, none⟩ (KMixL P hint n ops Q rest s B bs none d H) KNo := by
  simp only [awpMixL, awpOp] <;> rfl
theorem awpMixL_mk (l : List Oper) : awpMixL P hint n ops B Q bs l.toArray.toList s H = awpMixL P hint n ops B Q bs l s H := rfl
theorem Ext.appT (T : AHeap) : Ext B (B ++ T) = True := eq_true (Ext.app B T)
end
@[congr] theorem cg_mixL {P : Program} {hint : Nat → Bool} {n : Nat} {ops : Array Oper} {Q : Post} {bs : List (Option Bool)} {l : List Oper} {s : Nat → AV} {B H H' : AHeap} (h : nf H = H') : awpMixL P hint n ops B Q bs l s H = awpMixL P hint n ops B Q bs l s H' := by rw [← h]; rfl
@[congr] theorem cg_KMixL {P : Program} {hint : Nat → Bool} {n : Nat} {ops : Array Oper} {Q : Post} {rest : List Oper} {s : Nat → AV} {bs : List (Option Bool)} {b : Option Bool} {d : Option Tmp} {B H0 H H' : AHeap} {r r' : AV} (g : nf r = r') (h : nf H = H') : KMixL P hint n ops Q rest s B bs b d H0 r H = KMixL P hint n ops Q rest s B bs b d H0 r' H' := by rw [← g, ← h]; rfl
attribute [go_sem] Ext.appT KMixL_true KMixL_false KMixL_none awpMixL_end awpMixL_some awpMixL_none awpMixL_mk
end Go.Proofs.YtkapgooedfompaaGreatAw
namespace Go.Proofs.YtkapgooedfompaaGreat
open Go.Proofs.YtkapgooedfompaaGreatAw Go.RowKit
set_option linter.unusedVariables false
set_option linter.unusedSimpArgs false
set_option maxRecDepth 10000 in
set_option maxHeartbeats 2000000 in
theorem rofV_does (b : List Nat) (k : Int) (hl : b.length ≤ 140737488351232) (hb : ∀ c ∈ b, c < 256) (H : AHeap) :
    Does Tryz.prog 72 [.d (.list false (bys b)), iA k] H (.ok (.tup [(ofV b k).1.av, .d (.list false (bys (ofV b k).2.1)), iA (ofV b k).2.2])) H := by
  have hO : ofV b k = if k = 0 then (zV, b, 0) else if k = 1 then (if (getP b).2.2 = 0 then (num10 (zagP (getP b).1), b.drop (getP b).2.1, 0) else (zV, [], (getP b).2.2)) else if k = 2 then floatV b else if k = 3 then (if (toTextP b 1024).2.2 = 0 then (⟨3, 0, bstr (toTextP b 1024).1⟩, (toTextP b 1024).2.1, 0) else (zV, [], (toTextP b 1024).2.2)) else (zV, [], 1) := rfl
  by_cases h0 : k = 0
  · rw [hO, if_pos h0]
    subst h0
    refine Does.of_awpC (hint := fun _ => false) Tryz.func72 (by kernel_rfl) rfl [.cell 4 45, .tmp 5, .tmp 6] (by kernel_rfl) (by simp [Tryz.ntmps72]) ?_
    rw [Tryz.ntmps72]
    simp (implicitDefEqProofs := false) only [↓reduceIte, go_sem, owrite, Nat.reduceAdd, Nat.reduceLT, Nat.reduceEqDiff, reduceCtorEq, eq_self]
    refine AEndC.ret ?_
    simp (implicitDefEqProofs := false) only [↓reduceIte, go_sem, oread, Nat.reduceAdd, Nat.reduceLT, Nat.reduceLeDiff, Nat.reduceEqDiff, eq_self, resAll, resAV, zV, noS]
  rw [if_neg h0] at hO
  by_cases h1 : k = 1
  · rw [if_pos h1] at hO
    subst h1
    have hgl := getP_le b
    have hglt := getP_lt b
    have hgd := fun H => rgetB_does b false (by omega) hb H
    generalize getP b = g at *
    obtain ⟨n, j, e⟩ := g
    simp only at hgl hglt hO hgd
    by_cases he : e = 0
    · rw [if_pos he] at hO
      rw [hO]
      subst he
      refine Does.of_awpC (hint := fun _ => false) Tryz.func72 (by kernel_rfl) rfl [.cell 4 45, .tmp 5, .tmp 6] (by kernel_rfl) (by simp [Tryz.ntmps72]) ?_
      rw [Tryz.ntmps72]
      have hbt : (bys b).take b.length = bys b := List.take_of_length_le (by rw [bys_len]; exact Nat.le_refl _)
      have hdl : (b.drop j).length = b.length - j := List.length_drop
      simp (implicitDefEqProofs := false) only [↓reduceIte, go_sem, Nat.reduceLT, Nat.reduceEqDiff, Int.reduceEq, reduceCtorEq, eq_self]
      refine KCall.ok (hgd _) ?_
      simp (implicitDefEqProofs := false) only [↓reduceIte, go_sem, Nat.reduceLT, Nat.reduceEqDiff, eq_self]
      refine awp_drawL [some false, some false, some false, some false, some false, none, some true] 6 H K.mixed (by kernel_rfl) (by kernel_rfl) (by kernel_rfl) (Ext.app H _) ?_
      simp (implicitDefEqProofs := false) only [↓reduceIte, go_sem, Nat.reduceLT, Nat.reduceEqDiff, eq_self]
      refine KCall.ok (rzag_does n hglt _) ?_
      simp (implicitDefEqProofs := false) only [↓reduceIte, go_sem, owrite, Nat.reduceAdd, Nat.reduceLT, Nat.reduceLeDiff, Nat.reduceEqDiff, reduceCtorEq, eq_self, bys_one, bys_len, hbt, drop_bys, hgl, show ((0 : Int) ≤ (j : Int)) = True from eq_true (by omega)]
      refine AEndC.ret ?_
      simp (implicitDefEqProofs := false) only [↓reduceIte, go_sem, oread, Nat.reduceAdd, Nat.reduceLT, Nat.reduceLeDiff, Nat.reduceEqDiff, eq_self, resAll, resAV, num10, noS]
    · rw [if_neg he] at hO
      rw [hO]
      refine Does.subT (cs := [zV.av, .d (.v (.slice none 0 0)), iA e]) ?_ (.cons (.refl _) (.cons .nil (.cons (.refl _) .nil)))
      refine Does.of_awpC (hint := fun _ => false) Tryz.func72 (by kernel_rfl) rfl [.cell 4 45, .tmp 5, .tmp 6] (by kernel_rfl) (by simp [Tryz.ntmps72]) ?_
      rw [Tryz.ntmps72]
      simp (implicitDefEqProofs := false) only [↓reduceIte, go_sem, Nat.reduceLT, Nat.reduceEqDiff, Int.reduceEq, reduceCtorEq, eq_self]
      refine KCall.ok (hgd _) ?_
      simp (implicitDefEqProofs := false) only [↓reduceIte, go_sem, owrite, Nat.reduceAdd, Nat.reduceLT, Nat.reduceEqDiff, eq_self, he]
      refine AEndC.ret ?_
      simp (implicitDefEqProofs := false) only [↓reduceIte, go_sem, oread, Nat.reduceAdd, Nat.reduceLT, Nat.reduceLeDiff, Nat.reduceEqDiff, eq_self, resAll, resAV, zV, noS]
  rw [if_neg h1] at hO
  by_cases h2 : k = 2
  · rw [if_pos h2] at hO
    subst h2
    have hF : floatV b = if b.length < 8 then (zV, [], 3) else if keyN (ubitsP (beN (b.take 8))) = beN (b.take 8) then (⟨2, toI (ubitsP (beN (b.take 8))), noS⟩, b.drop 8, 0) else (zV, [], 4) := rfl
    rw [hO]
    by_cases h8 : b.length < 8
    · rw [hF, if_pos h8]
      refine Does.subT (cs := [zV.av, .d (.v (.slice none 0 0)), iA 3]) ?_ (.cons (.refl _) (.cons .nil (.cons (.refl _) .nil)))
      refine Does.of_awpC (hint := fun _ => false) Tryz.func72 (by kernel_rfl) rfl [.cell 4 45, .tmp 5, .tmp 6] (by kernel_rfl) (by simp [Tryz.ntmps72]) ?_
      rw [Tryz.ntmps72]
      simp (implicitDefEqProofs := false) only [↓reduceIte, go_sem, owrite, Nat.reduceAdd, Nat.reduceLT, Nat.reduceEqDiff, Int.reduceEq, reduceCtorEq, eq_self, bys_len, show ((b.length : Int) < 8) = True from eq_true (by omega)]
      refine AEndC.ret ?_
      simp (implicitDefEqProofs := false) only [↓reduceIte, go_sem, oread, Nat.reduceAdd, Nat.reduceLT, Nat.reduceLeDiff, Nat.reduceEqDiff, eq_self, resAll, resAV, zV, noS]
    rw [if_neg h8] at hF
    have h8l : (b.take 8).length = 8 := by rw [List.length_take]; omega
    have hkl := beN_lt 8 (b.take 8) h8l fun c hc => hb c (List.mem_of_mem_take hc)
    have hkl' : beN (b.take 8) < 18446744073709551616 := hkl
    have hub := ubitsP_lt hkl'
    have hfold : ∀ k, k < 8 → ∃ c, (bys b)[k]? = some [.v (.int .u8 (c : Int))] ∧ c < 256 ∧ beN (b.take (k + 1)) = beN (b.take k) * 256 + c ∧ beN (b.take k) * 256 + c < 18446744073709551616 := fun k hk => by
      have hk' : k < b.length := by omega
      refine ⟨b[k], by unfold bys; rw [List.getElem?_map, List.getElem?_eq_getElem hk']; rfl, hb _ (List.getElem_mem hk'), ?_, ?_⟩
      · rw [List.take_succ_eq_append_getElem hk', beN_snoc]
      · rw [← beN_snoc, ← List.take_succ_eq_append_getElem hk']
        have := beN_lt (k + 1) (b.take (k + 1)) (by rw [List.length_take]; omega) fun c hc => hb c (List.mem_of_mem_take hc)
        have h2 : 256 ^ (k + 1) ≤ 256 ^ 8 := Nat.pow_le_pow_right (by decide) (by omega)
        omega
    have hd8 : (bys b).drop 8 = bys (b.drop 8) := drop_bys b 8
    have hdl : (b.drop 8).length = b.length - 8 := List.length_drop
    have hbtl : (bys b).take b.length = bys b := List.take_of_length_le (by rw [bys_len]; exact Nat.le_refl _)
    rw [hF]
    have hkd := fun H => rfbits_does _ hkl' H
    have hyd := fun H => key04_does _ hub H
    by_cases hk : keyN (ubitsP (beN (b.take 8))) = beN (b.take 8)
    · rw [if_pos hk]
      refine Does.of_awpC (hint := fun _ => false) Tryz.func72 (by kernel_rfl) rfl [.cell 4 45, .tmp 5, .tmp 6] (by kernel_rfl) (by simp [Tryz.ntmps72]) ?_
      rw [Tryz.ntmps72]
      simp (implicitDefEqProofs := false) only [↓reduceIte, go_sem, Nat.reduceLT, Nat.reduceEqDiff, Int.reduceEq, reduceCtorEq, eq_self, bys_len, show ((b.length : Int) < 8) = False from eq_false (by omega)]
      refine awp_for3 (fun k s H' => H' = H ++ [.box 45 3 0 1 [iA 0, iA 0, sA ⟨#[]⟩]] ∧ s 0 = .d (.list false (bys b)) ∧ s 4 = .ptr H.length 0 0 0 ∧ s 10 = du (beN (b.take k)) ∧ s 11 = iA k) 8 (by omega) (Weak.refl _ _) ?_ ?_ ?_
      · refine ⟨rfl, ?_⟩
        simp (implicitDefEqProofs := false) only [↓reduceIte, go_sem, Nat.reduceLT, Nat.reduceEqDiff, reduceCtorEq, eq_self]
        rfl
      · rintro k s H' hk8 hw ⟨rfl, t0, t4, t10, t11⟩
        have hk8' : ((k : Int) < 8) = True := eq_true (by omega)
        obtain ⟨c, g1, g2, g3, g4⟩ := hfold k hk8
        have wc : IntKind.u64.wrap (c : Int) = (c : Int) := wrapU64N _ (by omega)
        have wm : IntKind.u64.wrap ((beN (b.take k) : Int) * 256) = ((beN (b.take k) * 256 : Nat) : Int) := by rw [wrapu64_in _ (by omega) (by omega)]; omega
        have wa : IntKind.u64.wrap (((beN (b.take k) * 256 : Nat) : Int) + (c : Int)) = ((beN (b.take k) * 256 + c : Nat) : Int) := by rw [wrapu64_in _ (by omega) (by omega)]; omega
        rw [g3]
        generalize beN (b.take k) = m at *
        generalize hy : ((m * 256 : Nat) : Int) = y at *
        simp (implicitDefEqProofs := false) only [↓reduceIte, go_sem, Nat.reduceLT, Nat.reduceEqDiff, reduceCtorEq, eq_self, t0, t10, t11, hk8', g1, wc, wm, wa]
        refine Rnd.same ⟨rfl, ?_⟩
        simp (implicitDefEqProofs := false) only [↓reduceIte, go_sem, Nat.reduceLT, Nat.reduceEqDiff, reduceCtorEq, eq_self, t0, t4, hw, du]
      · rintro s H' ⟨rfl, t0, t4, t10, t11⟩
        simp (implicitDefEqProofs := false) only [↓reduceIte, go_sem, Nat.reduceLT, Nat.reduceEqDiff, Int.reduceLT, eq_self, t10, t11]
        refine KCall.ok (hkd _) ?_
        simp (implicitDefEqProofs := false) only [↓reduceIte, go_sem, Nat.reduceLT, eq_self]
        refine KCall.ok (hyd _) ?_
        simp (implicitDefEqProofs := false) only [↓reduceIte, go_sem, Nat.reduceLT, Nat.reduceEqDiff, eq_self, t10, eq_true (congrArg (fun n : Nat => (n : Int)) hk)]
        refine awp_drawL [some false, some false, some false, some false, none, some true] 5 H K.mixed (by kernel_rfl) (by kernel_rfl) (by kernel_rfl) (Ext.app H _) ?_
        simp (implicitDefEqProofs := false) only [↓reduceIte, go_sem, owrite, Nat.reduceAdd, Nat.reduceLT, Nat.reduceLeDiff, Nat.reduceEqDiff, Int.reduceLE, Int.reduceToNat, reduceCtorEq, eq_self, t0, t4, bys_len, bys_one, hbtl, hd8, show ((8 : Int) ≤ (b.length : Int)) = True from eq_true (by omega)]
        refine AEndC.ret ?_
        simp (implicitDefEqProofs := false) only [↓reduceIte, go_sem, oread, Nat.reduceAdd, Nat.reduceLT, Nat.reduceLeDiff, Nat.reduceEqDiff, eq_self, resAll, resAV, t4, toI, noS]
    · rw [if_neg hk]
      refine Does.subT (cs := [zV.av, .d (.v (.slice none 0 0)), iA 4]) ?_ (.cons (.refl _) (.cons .nil (.cons (.refl _) .nil)))
      refine Does.of_awpC (hint := fun _ => false) Tryz.func72 (by kernel_rfl) rfl [.cell 4 45, .tmp 5, .tmp 6] (by kernel_rfl) (by simp [Tryz.ntmps72]) ?_
      rw [Tryz.ntmps72]
      simp (implicitDefEqProofs := false) only [↓reduceIte, go_sem, Nat.reduceLT, Nat.reduceEqDiff, Int.reduceEq, reduceCtorEq, eq_self, bys_len, show ((b.length : Int) < 8) = False from eq_false (by omega)]
      refine awp_for3 (fun k s H' => H' = H ++ [.box 45 3 0 1 [iA 0, iA 0, sA ⟨#[]⟩]] ∧ s 0 = .d (.list false (bys b)) ∧ s 4 = .ptr H.length 0 0 0 ∧ s 10 = du (beN (b.take k)) ∧ s 11 = iA k) 8 (by omega) (Weak.refl _ _) ?_ ?_ ?_
      · refine ⟨rfl, ?_⟩
        simp (implicitDefEqProofs := false) only [↓reduceIte, go_sem, Nat.reduceLT, Nat.reduceEqDiff, reduceCtorEq, eq_self]
        rfl
      · rintro k s H' hk8 hw ⟨rfl, t0, t4, t10, t11⟩
        have hk8' : ((k : Int) < 8) = True := eq_true (by omega)
        obtain ⟨c, g1, g2, g3, g4⟩ := hfold k hk8
        have wc : IntKind.u64.wrap (c : Int) = (c : Int) := wrapU64N _ (by omega)
        have wm : IntKind.u64.wrap ((beN (b.take k) : Int) * 256) = ((beN (b.take k) * 256 : Nat) : Int) := by rw [wrapu64_in _ (by omega) (by omega)]; omega
        have wa : IntKind.u64.wrap (((beN (b.take k) * 256 : Nat) : Int) + (c : Int)) = ((beN (b.take k) * 256 + c : Nat) : Int) := by rw [wrapu64_in _ (by omega) (by omega)]; omega
        rw [g3]
        generalize beN (b.take k) = m at *
        generalize hy : ((m * 256 : Nat) : Int) = y at *
        simp (implicitDefEqProofs := false) only [↓reduceIte, go_sem, Nat.reduceLT, Nat.reduceEqDiff, reduceCtorEq, eq_self, t0, t10, t11, hk8', g1, wc, wm, wa]
        refine Rnd.same ⟨rfl, ?_⟩
        simp (implicitDefEqProofs := false) only [↓reduceIte, go_sem, Nat.reduceLT, Nat.reduceEqDiff, reduceCtorEq, eq_self, t0, t4, hw, du]
      · rintro s H' ⟨rfl, t0, t4, t10, t11⟩
        simp (implicitDefEqProofs := false) only [↓reduceIte, go_sem, Nat.reduceLT, Nat.reduceEqDiff, Int.reduceLT, eq_self, t10, t11]
        refine KCall.ok (hkd _) ?_
        simp (implicitDefEqProofs := false) only [↓reduceIte, go_sem, Nat.reduceLT, eq_self]
        refine KCall.ok (hyd _) ?_
        simp (implicitDefEqProofs := false) only [↓reduceIte, go_sem, owrite, Nat.reduceAdd, Nat.reduceLT, Nat.reduceEqDiff, eq_self, t4, t10, show (((keyN (ubitsP (beN (b.take 8))) : Nat) : Int) = ((beN (b.take 8) : Nat) : Int)) = False from eq_false (by omega)]
        refine AEndC.ret ?_
        simp (implicitDefEqProofs := false) only [↓reduceIte, go_sem, oread, Nat.reduceAdd, Nat.reduceLT, Nat.reduceLeDiff, Nat.reduceEqDiff, eq_self, resAll, resAV, t4, zV, noS]
  rw [if_neg h2] at hO
  by_cases h3 : k = 3
  · rw [if_pos h3] at hO
    subst h3
    have hf := fun H => rtoText_does b 1024 (by decide) hl hb H
    generalize toTextP b 1024 = t at *
    obtain ⟨v, r, e⟩ := t
    simp only at hO hf
    by_cases he : e = 0
    · rw [if_pos he] at hO
      rw [hO]
      subst he
      refine Does.of_awpC (hint := fun _ => false) Tryz.func72 (by kernel_rfl) rfl [.cell 4 45, .tmp 5, .tmp 6] (by kernel_rfl) (by simp [Tryz.ntmps72]) ?_
      rw [Tryz.ntmps72]
      simp (implicitDefEqProofs := false) only [↓reduceIte, go_sem, Nat.reduceLT, Nat.reduceEqDiff, Int.reduceEq, reduceCtorEq, eq_self]
      refine KCall.ok (hf _) ?_
      simp (implicitDefEqProofs := false) only [↓reduceIte, go_sem, owrite, Nat.reduceAdd, Nat.reduceLT, Nat.reduceLeDiff, Nat.reduceEqDiff, eq_self]
      refine AEndC.ret ?_
      simp (implicitDefEqProofs := false) only [↓reduceIte, go_sem, oread, Nat.reduceAdd, Nat.reduceLT, Nat.reduceLeDiff, Nat.reduceEqDiff, eq_self, resAll, resAV]
    · rw [if_neg he] at hO
      rw [hO]
      refine Does.subT (cs := [zV.av, .d (.v (.slice none 0 0)), iA e]) ?_ (.cons (.refl _) (.cons .nil (.cons (.refl _) .nil)))
      refine Does.of_awpC (hint := fun _ => false) Tryz.func72 (by kernel_rfl) rfl [.cell 4 45, .tmp 5, .tmp 6] (by kernel_rfl) (by simp [Tryz.ntmps72]) ?_
      rw [Tryz.ntmps72]
      simp (implicitDefEqProofs := false) only [↓reduceIte, go_sem, Nat.reduceLT, Nat.reduceEqDiff, Int.reduceEq, reduceCtorEq, eq_self]
      refine KCall.ok (hf _) ?_
      simp (implicitDefEqProofs := false) only [↓reduceIte, go_sem, owrite, Nat.reduceAdd, Nat.reduceLT, Nat.reduceEqDiff, eq_self, he]
      refine AEndC.ret ?_
      simp (implicitDefEqProofs := false) only [↓reduceIte, go_sem, oread, Nat.reduceAdd, Nat.reduceLT, Nat.reduceLeDiff, Nat.reduceEqDiff, eq_self, resAll, resAV, zV, noS]
  rw [if_neg h3] at hO
  rw [hO]
  refine Does.subT (cs := [zV.av, .d (.v (.slice none 0 0)), iA 1]) ?_ (.cons (.refl _) (.cons .nil (.cons (.refl _) .nil)))
  refine Does.of_awpC (hint := fun _ => false) Tryz.func72 (by kernel_rfl) rfl [.cell 4 45, .tmp 5, .tmp 6] (by kernel_rfl) (by simp [Tryz.ntmps72]) ?_
  rw [Tryz.ntmps72]
  simp (implicitDefEqProofs := false) only [↓reduceIte, go_sem, owrite, Nat.reduceAdd, Nat.reduceLT, Nat.reduceEqDiff, eq_self, h0, h1, h2, h3]
  refine AEndC.ret ?_
  simp (implicitDefEqProofs := false) only [↓reduceIte, go_sem, oread, Nat.reduceAdd, Nat.reduceLT, Nat.reduceLeDiff, Nat.reduceEqDiff, eq_self, resAll, resAV, zV, noS]
end Go.Proofs.YtkapgooedfompaaGreat
namespace Go.Proofs.YtkapgooedfompaaGreat
set_option linter.unusedVariables false
namespace St
variable {α : Type}
/-- Which of two is ahead: a strict order in which what is not ahead of one another is alike. -/
structure Ord (lt : α → α → Bool) : Prop where
  asym : ∀ x y, lt x y = true → lt y x = false
  ntrans : ∀ x y z, lt x z = true → lt x y = true ∨ lt y z = true
variable {lt : α → α → Bool} {l : List α}
theorem Ord.irr (h : Ord lt) (x : α) : lt x x = false := by
  cases e : lt x x with
  | false => rfl
  | true => rw [h.asym x x e] at e; cases e
theorem Ord.trans (h : Ord lt) {x y z : α} (h1 : lt x y = true) (h2 : lt y z = true) : lt x z = true := by
  rcases h.ntrans x z y h1 with h3 | h3
  · exact h3
  · rw [h.asym y z h2] at h3; cases h3
theorem Ord.le_trans (h : Ord lt) {x y z : α} (h1 : lt y x = false) (h2 : lt z y = false) : lt z x = false := by
  cases e : lt z x with
  | false => rfl
  | true =>
    rcases h.ntrans z y x e with h3 | h3
    · rw [h2] at h3; cases h3
    · rw [h1] at h3; cases h3
theorem Ord.lt_le (h : Ord lt) {x y z : α} (h1 : lt x y = true) (h2 : lt z y = false) : lt x z = true := by
  rcases h.ntrans x z y h1 with h3 | h3
  · exact h3
  · rw [h2] at h3; cases h3
theorem Ord.le_lt (h : Ord lt) {x y z : α} (h1 : lt y x = false) (h2 : lt y z = true) : lt x z = true := by
  rcases h.ntrans y x z h2 with h3 | h3
  · rw [h1] at h3; cases h3
  · exact h3
def Sorted (lt : α → α → Bool) (l : List α) : Prop := l.Pairwise fun x y => lt y x = false
def eqv (lt : α → α → Bool) (x y : α) : Bool := !lt x y && !lt y x
theorem eqv_iff {x y : α} : eqv lt x y = true ↔ lt x y = false ∧ lt y x = false := by simp [eqv]
def StEq (lt : α → α → Bool) (l m : List α) : Prop := ∀ x, l.filter (eqv lt x) = m.filter (eqv lt x)
theorem StEq.refl (l : List α) : StEq lt l l := fun _ => rfl
theorem StEq.symm {l m : List α} (h : StEq lt l m) : StEq lt m l := fun x => (h x).symm
theorem StEq.trans {l m n : List α} (h : StEq lt l m) (g : StEq lt m n) : StEq lt l n := fun x => (h x).trans (g x)
theorem StEq.app {l l' m m' : List α} (h : StEq lt l l') (g : StEq lt m m') : StEq lt (l ++ m) (l' ++ m') := fun x => by rw [List.filter_append, List.filter_append, h x, g x]
theorem eqv_self (ho : Ord lt) (x : α) : eqv lt x x = true := eqv_iff.2 ⟨ho.irr x, ho.irr x⟩
theorem StEq.mem (ho : Ord lt) {l m : List α} (h : StEq lt l m) {x : α} (hx : x ∈ l) : x ∈ m := by
  have : x ∈ l.filter (eqv lt x) := List.mem_filter.2 ⟨hx, eqv_self ho x⟩
  rw [h x] at this
  exact (List.mem_filter.1 this).1
theorem StEq.mem_iff (ho : Ord lt) {l m : List α} (h : StEq lt l m) {x : α} : x ∈ l ↔ x ∈ m := ⟨h.mem ho, h.symm.mem ho⟩
/-- Neighbours of which all of the one are ahead of all of the other change places. -/
theorem StEq.swap (ho : Ord lt) {u v : List α} (h : ∀ x ∈ u, ∀ y ∈ v, lt y x = true) : StEq lt (u ++ v) (v ++ u) := by
  intro c
  rw [List.filter_append, List.filter_append]
  by_cases hu : ∃ x ∈ u, eqv lt c x = true
  · obtain ⟨x, hx, hc⟩ := hu
    have : v.filter (eqv lt c) = [] := by
      rw [List.filter_eq_nil_iff]
      intro y hy hcy
      have h1 := eqv_iff.1 hc
      have h2 := eqv_iff.1 hcy
      have h3 := h x hx y hy
      rcases ho.ntrans y c x h3 with h4 | h4
      · rw [h2.2] at h4; cases h4
      · rw [h1.1] at h4; cases h4
    rw [this]; simp
  · have : u.filter (eqv lt c) = [] := by
      rw [List.filter_eq_nil_iff]
      intro x hx hc
      exact hu ⟨x, hx, hc⟩
    rw [this]; simp
theorem uniq (ho : Ord lt) : ∀ {l m : List α}, Sorted lt l → Sorted lt m → StEq lt l m → l = m
  | [], [], _, _, _ => rfl
  | [], b :: t, _, _, h => by have := h.symm.mem ho (List.mem_cons_self (a := b) (l := t)); simp at this
  | a :: t, [], _, _, h => by have := h.mem ho (List.mem_cons_self (a := a) (l := t)); simp at this
  | a :: t, b :: t', hl, hm, h => by
    have ha : a ∈ b :: t' := h.mem ho (List.mem_cons_self ..)
    have hb : b ∈ a :: t := h.symm.mem ho (List.mem_cons_self ..)
    have h1 : lt a b = false := by
      rcases List.mem_cons.1 ha with rfl | ha
      · exact ho.irr _
      · exact (List.pairwise_cons.1 hm).1 a ha
    have h2 : lt b a = false := by
      rcases List.mem_cons.1 hb with rfl | hb
      · exact ho.irr _
      · exact (List.pairwise_cons.1 hl).1 b hb
    have e1 : eqv lt a a = true := eqv_self ho a
    have e2 : eqv lt a b = true := eqv_iff.2 ⟨h1, h2⟩
    have h3 := h a
    rw [List.filter_cons_of_pos e1, List.filter_cons_of_pos e2] at h3
    obtain rfl : a = b := (List.cons.inj h3).1
    have : t = t' := uniq ho (List.pairwise_cons.1 hl).2 (List.pairwise_cons.1 hm).2 fun x => by
      have h4 := h x
      by_cases hx : eqv lt x a = true
      · rw [List.filter_cons_of_pos hx, List.filter_cons_of_pos hx] at h4
        exact (List.cons.inj h4).2
      · rw [List.filter_cons_of_neg hx, List.filter_cons_of_neg hx] at h4
        exact h4
    rw [this]
def ins (lt : α → α → Bool) (x : α) : List α → List α
  | [] => [x]
  | y :: t => if lt y x then y :: ins lt x t else x :: y :: t
def sortS (lt : α → α → Bool) (l : List α) : List α := l.foldr (ins lt) []
theorem ins_mem {x z : α} : ∀ {l : List α}, z ∈ ins lt x l ↔ z = x ∨ z ∈ l
  | [] => by simp [ins]
  | y :: t => by
    unfold ins
    split
    · rw [List.mem_cons, ins_mem, List.mem_cons]
      constructor
      · rintro (h | h | h)
        · exact .inr (.inl h)
        · exact .inl h
        · exact .inr (.inr h)
      · rintro (h | h | h)
        · exact .inr (.inl h)
        · exact .inl h
        · exact .inr (.inr h)
    · simp
theorem ins_sorted (ho : Ord lt) (x : α) : ∀ {l : List α}, Sorted lt l → Sorted lt (ins lt x l)
  | [], _ => by simp [ins, Sorted]
  | y :: t, h => by
    have h' := List.pairwise_cons.1 h
    unfold ins
    split
    · rename_i hy
      refine List.pairwise_cons.2 ⟨fun z hz => ?_, ins_sorted ho x h'.2⟩
      rcases ins_mem.1 hz with rfl | hz
      · exact ho.asym _ _ hy
      · exact h'.1 z hz
    · rename_i hy
      have hy : lt y x = false := by simpa using hy
      refine List.pairwise_cons.2 ⟨fun z hz => ?_, h⟩
      rcases List.mem_cons.1 hz with rfl | hz
      · exact hy
      · exact ho.le_trans hy (h'.1 z hz)
theorem ins_steq (ho : Ord lt) (x : α) : ∀ l : List α, StEq lt (ins lt x l) (x :: l)
  | [] => .refl _
  | y :: t => by
    unfold ins
    split
    · rename_i hy
      have h1 : StEq lt ([y] ++ ins lt x t) ([y] ++ (x :: t)) := StEq.app (.refl _) (ins_steq ho x t)
      refine h1.trans ?_
      have h2 : StEq lt ([y] ++ [x]) ([x] ++ [y]) := (StEq.swap ho (u := [x]) (v := [y]) (by simpa using hy)).symm
      have := StEq.app h2 (.refl t)
      simpa using this
    · exact .refl _
theorem sortS_sorted (ho : Ord lt) : ∀ l : List α, Sorted lt (sortS lt l)
  | [] => List.Pairwise.nil
  | x :: l => ins_sorted ho x (sortS_sorted ho l)
theorem sortS_steq (ho : Ord lt) : ∀ l : List α, StEq lt (sortS lt l) l
  | [] => .refl _
  | x :: l => (ins_steq ho x _).trans (StEq.app (l := [x]) (.refl _) (sortS_steq ho l))
theorem ins_len (x : α) : ∀ l : List α, (ins lt x l).length = l.length + 1
  | [] => rfl
  | y :: t => by unfold ins; split <;> simp [ins_len x t]
theorem sortS_len : ∀ l : List α, (sortS lt l).length = l.length
  | [] => rfl
  | x :: l => by
    show (ins lt x (sortS lt l)).length = _
    rw [ins_len, sortS_len l]; rfl
theorem sortS_mem (ho : Ord lt) {l : List α} {x : α} : x ∈ sortS lt l ↔ x ∈ l := (sortS_steq ho l).mem_iff ho
theorem sortS_eq (ho : Ord lt) {l m : List α} (h1 : Sorted lt m) (h2 : StEq lt m l) : sortS lt l = m := uniq ho (sortS_sorted ho l) h1 ((sortS_steq ho l).trans h2.symm)
theorem sortS_self (ho : Ord lt) {l : List α} (h : Sorted lt l) : sortS lt l = l := sortS_eq ho h (.refl _)
theorem Sorted.app {l m : List α} (hl : Sorted lt l) (hm : Sorted lt m) (h : ∀ x ∈ l, ∀ y ∈ m, lt y x = false) : Sorted lt (l ++ m) := List.pairwise_append.2 ⟨hl, hm, h⟩
theorem Sorted.left {l m : List α} (h : Sorted lt (l ++ m)) : Sorted lt l := (List.pairwise_append.1 h).1
theorem Sorted.right {l m : List α} (h : Sorted lt (l ++ m)) : Sorted lt m := (List.pairwise_append.1 h).2.1
theorem Sorted.cross {l m : List α} (h : Sorted lt (l ++ m)) : ∀ x ∈ l, ∀ y ∈ m, lt y x = false := (List.pairwise_append.1 h).2.2
/-- Insertion: what stands behind is all greater, what stands ahead is not. -/
theorem insert_eq (ho : Ord lt) {A B l : List α} {x : α} (hS : A ++ B = sortS lt l) (hB : ∀ y ∈ B, lt x y = true) (hA : ∀ y ∈ A, lt x y = false) : A ++ x :: B = sortS lt (l ++ [x]) := by
  refine (sortS_eq ho ?_ ?_).symm
  · have hs := sortS_sorted ho l
    rw [← hS] at hs
    refine Sorted.app hs.left (List.pairwise_cons.2 ⟨fun y hy => ho.asym _ _ (hB y hy), hs.right⟩) ?_
    intro y hy z hz
    rcases List.mem_cons.1 hz with rfl | hz
    · exact hA y hy
    · exact hs.cross y hy z hz
  · have h1 : StEq lt (x :: B) (B ++ [x]) := (StEq.swap ho (u := B) (v := [x]) (by simpa using hB)).symm
    have h2 : StEq lt (A ++ x :: B) ((A ++ B) ++ [x]) := by rw [List.append_assoc]; exact StEq.app (.refl A) h1
    refine h2.trans (StEq.app ?_ (.refl _))
    rw [hS]
    exact sortS_steq ho l
theorem sym_ok (ho : Ord lt) {A U V B : List α} (h1 : Sorted lt (A ++ U)) (h2 : Sorted lt (V ++ B)) (h3 : ∀ u ∈ U, ∀ v ∈ V, lt v u = true) (h4 : ∀ x ∈ A, ∀ y ∈ B, lt y x = false) :
    sortS lt (A ++ V) ++ sortS lt (U ++ B) = sortS lt ((A ++ U) ++ (V ++ B)) := by
  refine (sortS_eq ho ?_ ?_).symm
  · refine Sorted.app (sortS_sorted ho _) (sortS_sorted ho _) fun x hx y hy => ?_
    rw [sortS_mem ho, List.mem_append] at hx hy
    rcases hx with hx | hx <;> rcases hy with hy | hy
    · exact h1.cross x hx y hy
    · exact h4 x hx y hy
    · exact ho.asym _ _ (h3 y hy x hx)
    · exact h2.cross x hx y hy
  · refine (StEq.app (sortS_steq ho _) (sortS_steq ho _)).trans ?_
    have := StEq.app (StEq.app (.refl A) (StEq.swap ho h3).symm) (.refl B)
    simpa [List.append_assoc] using this
theorem Sorted.get (h : Sorted lt l) {i j : Nat} (hi : i < j) {x y : α} (hx : l[i]? = some x) (hy : l[j]? = some y) : lt y x = false := by
  obtain ⟨h1, rfl⟩ := List.getElem?_eq_some_iff.1 hx
  obtain ⟨h2, rfl⟩ := List.getElem?_eq_some_iff.1 hy
  exact List.pairwise_iff_getElem.1 h i j h1 h2 hi
theorem Sorted.get_le (ho : Ord lt) (h : Sorted lt l) {i j : Nat} (hi : i ≤ j) {x y : α} (hx : l[i]? = some x) (hy : l[j]? = some y) : lt y x = false := by
  rcases Nat.lt_or_ge i j with h1 | h1
  · exact h.get h1 hx hy
  · obtain rfl : i = j := by omega
    rw [hx] at hy; cases hy
    exact ho.irr _
/-- Two sorted lists, cut where the search ended. -/
theorem merge_cut (ho : Ord lt) {X Y : List α} (hX : Sorted lt X) (hY : Sorted lt Y) {s e : Nat} (hs : s ≤ X.length) (he : e ≤ Y.length)
    (hu : s = X.length ∨ e = 0 ∨ ∃ x y, X[s]? = some x ∧ Y[e - 1]? = some y ∧ lt y x = true) (hl : s = 0 ∨ e = Y.length ∨ ∃ x y, X[s - 1]? = some x ∧ Y[e]? = some y ∧ lt y x = false) :
    sortS lt (X.take s ++ Y.take e) ++ sortS lt (X.drop s ++ Y.drop e) = sortS lt (X ++ Y) := by
  have key := sym_ok ho (A := X.take s) (U := X.drop s) (V := Y.take e) (B := Y.drop e) (by rw [List.take_append_drop]; exact hX) (by rw [List.take_append_drop]; exact hY) ?_ ?_
  · rwa [List.take_append_drop, List.take_append_drop] at key
  · intro u hu' v hv'
    obtain ⟨i, hi⟩ := List.getElem?_of_mem hu'
    obtain ⟨j, hj⟩ := List.getElem?_of_mem hv'
    rw [List.getElem?_drop] at hi
    have hj' := (List.getElem?_eq_some_iff.1 hj).1
    simp only [List.length_take] at hj'
    rw [List.getElem?_take, if_pos (by omega)] at hj
    have hi' := (List.getElem?_eq_some_iff.1 hi).1
    rcases hu with h | h | ⟨x, y, hx, hy, h⟩
    · omega
    · omega
    · have h5 := hX.get_le ho (show s ≤ s + i by omega) hx hi
      have h6 := hY.get_le ho (show j ≤ e - 1 by omega) hj hy
      exact ho.lt_le (ho.le_lt h6 h) h5
  · intro x hx' y hy'
    obtain ⟨i, hi⟩ := List.getElem?_of_mem hx'
    obtain ⟨j, hj⟩ := List.getElem?_of_mem hy'
    rw [List.getElem?_drop] at hj
    have hi' := (List.getElem?_eq_some_iff.1 hi).1
    simp only [List.length_take] at hi'
    rw [List.getElem?_take, if_pos (by omega)] at hi
    have hj' := (List.getElem?_eq_some_iff.1 hj).1
    rcases hl with h | h | ⟨x0, y0, hx, hy, h⟩
    · omega
    · omega
    · have h5 := hX.get_le ho (show i ≤ s - 1 by omega) hi hx
      have h6 := hY.get_le ho (show e ≤ e + j by omega) hy hj
      exact ho.le_trans h5 (ho.le_trans h h6)
/-- One element into a sorted list, at the first place that is not ahead of it. -/
theorem merge_one (ho : Ord lt) {x : α} {Y : List α} (hY : Sorted lt Y) {e : Nat} (he : e ≤ Y.length) (hu : e = 0 ∨ ∃ y, Y[e - 1]? = some y ∧ lt y x = true) (hl : e = Y.length ∨ ∃ y, Y[e]? = some y ∧ lt y x = false) :
    Y.take e ++ x :: Y.drop e = sortS lt (x :: Y) := by
  have key := merge_cut ho (X := [x]) (s := 0) (by simp [Sorted]) hY (by simp) he (by rcases hu with h | ⟨y, h1, h2⟩; exact .inr (.inl h); exact .inr (.inr ⟨x, y, rfl, h1, h2⟩)) (.inl rfl)
  have h1 : Sorted lt (Y.take e) := by have := hY; rw [← List.take_append_drop e Y] at this; exact this.left
  have h2 : Sorted lt (x :: Y.drop e) := by
    have h3 : Sorted lt (Y.drop e) := by have := hY; rw [← List.take_append_drop e Y] at this; exact this.right
    refine List.pairwise_cons.2 ⟨fun y hy => ?_, h3⟩
    obtain ⟨j, hj⟩ := List.getElem?_of_mem hy
    rw [List.getElem?_drop] at hj
    rcases hl with h | ⟨y0, hy0, h⟩
    · have := (List.getElem?_eq_some_iff.1 hj).1; omega
    · exact ho.le_trans h (hY.get_le ho (Nat.le_add_right _ _) hy0 hj)
  simp only [List.take_zero, List.nil_append, List.drop_zero, List.singleton_append] at key
  rw [sortS_self ho h1, sortS_self ho h2] at key
  exact key
/-- The last element into a sorted list, at the first place that it is ahead of. -/
theorem merge_last (ho : Ord lt) {x : α} {X : List α} (hX : Sorted lt X) {s : Nat} (hs : s ≤ X.length) (hu : s = X.length ∨ ∃ y, X[s]? = some y ∧ lt x y = true) (hl : s = 0 ∨ ∃ y, X[s - 1]? = some y ∧ lt x y = false) :
    X.take s ++ x :: X.drop s = sortS lt (X ++ [x]) := by
  refine insert_eq ho (by rw [List.take_append_drop, sortS_self ho hX]) (fun y hy => ?_) fun y hy => ?_
  · obtain ⟨j, hj⟩ := List.getElem?_of_mem hy
    rw [List.getElem?_drop] at hj
    rcases hu with h | ⟨y0, h1, h2⟩
    · have := (List.getElem?_eq_some_iff.1 hj).1; omega
    · exact ho.lt_le h2 (hX.get_le ho (Nat.le_add_right _ _) h1 hj)
  · obtain ⟨j, hj⟩ := List.getElem?_of_mem hy
    have hj' := (List.getElem?_eq_some_iff.1 hj).1
    simp only [List.length_take] at hj'
    rw [List.getElem?_take, if_pos (by omega)] at hj
    rcases hl with h | ⟨y0, h1, h2⟩
    · omega
    · exact ho.le_trans (hX.get_le ho (show j ≤ s - 1 by omega) hj h1) h2
def Blocks (lt : α → α → Bool) (s : Nat) (l : List α) : Prop := ∀ k, Sorted lt ((l.drop (k * s)).take s)
theorem Blocks.all {s : Nat} {l : List α} (h : Blocks lt s l) (hs : l.length ≤ s) : Sorted lt l := by
  have := h 0
  rwa [Nat.zero_mul, List.drop_zero, List.take_of_length_le hs] at this
end St
end Go.Proofs.YtkapgooedfompaaGreat
namespace Go.Proofs.YtkapgooedfompaaGreat
open Go.Proofs.YtkapgooedfompaaGreatAw Go.RowKit
set_option linter.unusedVariables false
set_option linter.unusedSimpArgs false
structure Tri {α : Type} (c : α → α → Int) : Prop where
  anti : ∀ x y, c x y < 0 ↔ 0 < c y x
  ntrans : ∀ x y z, c x z < 0 → c x y < 0 ∨ c y z < 0
def ltT {α : Type} (c : α → α → Int) (x y : α) : Bool := decide (c x y < 0)
theorem Tri.ord {α : Type} {c : α → α → Int} (h : Tri c) : St.Ord (ltT c) where
  asym x y hx := by
    simp only [ltT, decide_eq_true_eq, decide_eq_false_iff_not] at hx ⊢
    have := (h.anti x y).1 hx
    omega
  ntrans x y z hx := by
    simp only [ltT, decide_eq_true_eq] at hx ⊢
    exact h.ntrans x y z hx
theorem Tri.zero {α : Type} {c : α → α → Int} (h : Tri c) (x y : α) : c x y = 0 ↔ c y x = 0 := by
  have h1 := h.anti x y
  have h2 := h.anti y x
  omega
theorem Tri.self {α : Type} {c : α → α → Int} (h : Tri c) (x : α) : c x x = 0 := by
  have h1 := h.anti x x
  omega
theorem Tri.le_trans {α : Type} {c : α → α → Int} (h : Tri c) {x y z : α} (h1 : c x y ≤ 0) (h2 : c y z ≤ 0) : c x z ≤ 0 := by
  have a1 := h.anti y x
  have a2 := h.anti z y
  have a3 := h.anti z x
  have := h.ntrans z y x
  omega
theorem Tri.zero_trans {α : Type} {c : α → α → Int} (h : Tri c) {x y z : α} (h1 : c x y = 0) (h2 : c y z = 0) : c x z = 0 := by
  have a1 := h.le_trans (x := x) (y := y) (z := z) (by omega) (by omega)
  have a2 := h.le_trans (x := z) (y := y) (z := x) (by have := (h.zero y z).1 h2; omega) (by have := (h.zero x y).1 h1; omega)
  have a3 := h.anti x z
  have a4 := h.anti z x
  omega
/-- First by the one, then, where it tells nothing, by the other. -/
theorem Tri.lex {α : Type} {c d e : α → α → Int} (h : Tri c) (h1 : ∀ x y, c x y ≠ 0 → e x y = c x y) (h2 : ∀ x y, c x y = 0 → e x y = d x y) (da : ∀ x y, c x y = 0 → (d x y < 0 ↔ 0 < d y x)) (dn : ∀ x y z, c x y = 0 → c y z = 0 → d x z < 0 → d x y < 0 ∨ d y z < 0) : Tri e where
  anti x y := by
    by_cases hc : c x y = 0
    · rw [h2 x y hc, h2 y x ((h.zero x y).1 hc)]
      exact da x y hc
    · rw [h1 x y hc, h1 y x fun h0 => hc ((h.zero x y).2 h0)]
      exact h.anti x y
  ntrans x y z hx := by
    by_cases hxy : c x y = 0
    · by_cases hyz : c y z = 0
      · have hxz := h.zero_trans hxy hyz
        rw [h2 x z hxz] at hx
        rw [h2 x y hxy, h2 y z hyz]
        exact dn x y z hxy hyz hx
      · have hxz : c x z ≠ 0 := fun h0 => hyz (h.zero_trans ((h.zero x y).1 hxy) h0)
        rw [h1 x z hxz] at hx
        rw [h1 y z hyz]
        rcases h.ntrans x y z hx with h3 | h3
        · omega
        · exact .inr h3
    · by_cases hyz : c y z = 0
      · have hxz : c x z ≠ 0 := fun h0 => hxy (h.zero_trans h0 ((h.zero y z).1 hyz))
        rw [h1 x z hxz] at hx
        rw [h1 x y hxy]
        rcases h.ntrans x y z hx with h3 | h3
        · exact .inl h3
        · omega
      · rw [h1 x y hxy, h1 y z hyz]
        by_cases hxz : c x z = 0
        · have a1 := h.anti x y
          have a2 := h.anti y x
          have a3 := h.anti y z
          have a4 := h.anti z y
          have n1 := h.ntrans y x z
          have n2 := h.ntrans y z x
          have n3 := h.ntrans z x y
          have z1 := (h.zero x z).1 hxz
          omega
        · rw [h1 x z hxz] at hx
          exact h.ntrans x y z hx
theorem ordI_tri {α : Type} {lt : α → α → Bool} {c : α → α → Int} (ho : St.Ord lt) (h1 : ∀ x y, lt x y = true → c x y < 0) (h2 : ∀ x y, lt x y = false → lt y x = true → 0 < c x y) (h3 : ∀ x y, lt x y = false → lt y x = false → c x y = 0) : Tri c where
  anti x y := by
    cases hx : lt x y with
    | true => have := h1 x y hx; have := h2 y x (ho.asym x y hx) hx; omega
    | false =>
      cases hy : lt y x with
      | true => have := h1 y x hy; have := h2 x y hx hy; omega
      | false => have := h3 x y hx hy; have := h3 y x hy hx; omega
  ntrans x y z hx := by
    have hl : lt x z = true := by
      cases e : lt x z with
      | true => rfl
      | false =>
        cases e2 : lt z x with
        | true => have := h2 x z e e2; omega
        | false => have := h3 x z e e2; omega
    rcases ho.ntrans x y z hl with h | h
    · exact .inl (h1 x y h)
    · exact .inr (h1 y z h)
theorem cmpI_tri : Tri cmpI where
  anti x y := by
    unfold cmpI ordI
    by_cases h1 : x < y <;> by_cases h2 : y < x <;> simp [h1, h2] <;> omega
  ntrans x y z := by
    unfold cmpI ordI
    by_cases h1 : x < y <;> by_cases h2 : y < x <;> by_cases h3 : y < z <;> by_cases h4 : z < y <;> by_cases h5 : x < z <;> by_cases h6 : z < x <;> simp [h1, h2, h3, h4, h5, h6] <;> omega
theorem cmpI_zero {a b : Int} : cmpI a b = 0 ↔ a = b := by
  unfold cmpI ordI
  by_cases h1 : a < b <;> by_cases h2 : b < a <;> simp [h1, h2] <;> omega
theorem cmpF_eq (a b : Nat) : cmpF a b = cmpI (keyN a) (keyN b) := by
  unfold cmpF cmpI ordI
  simp [Int.ofNat_lt]
theorem bytesLess_irr : ∀ l : List UInt8, Op.bytesLess l l = false
  | [] => rfl
  | a :: l => by simp [Op.bytesLess, bytesLess_irr l]
theorem bytesLess_asym : ∀ l m : List UInt8, Op.bytesLess l m = true → Op.bytesLess m l = false
  | _, [], h => by simp [Op.bytesLess] at h
  | [], _ :: _, _ => rfl
  | a :: l, b :: m, h => by
    simp only [Op.bytesLess, Bool.or_eq_true, decide_eq_true_eq, Bool.and_eq_true, beq_iff_eq] at h
    simp only [Op.bytesLess, Bool.or_eq_false_iff, decide_eq_false_iff_not, Bool.and_eq_false_iff, beq_eq_false_iff_ne]
    rcases h with h | ⟨rfl, h⟩
    · exact ⟨fun h2 => UInt8.lt_asymm h h2, .inl fun e => by subst e; exact UInt8.lt_irrefl _ h⟩
    · exact ⟨UInt8.lt_irrefl _, .inr (bytesLess_asym l m h)⟩
theorem bytesLess_tri : ∀ l m : List UInt8, Op.bytesLess l m = false → Op.bytesLess m l = false → l = m
  | [], [], _, _ => rfl
  | [], _ :: _, h, _ => by simp [Op.bytesLess] at h
  | _ :: _, [], _, h => by simp [Op.bytesLess] at h
  | a :: l, b :: m, h1, h2 => by
    simp only [Op.bytesLess, Bool.or_eq_false_iff, decide_eq_false_iff_not, Bool.and_eq_false_iff, beq_eq_false_iff_ne] at h1 h2
    have e : a = b := UInt8.le_antisymm (UInt8.not_lt.1 h2.1) (UInt8.not_lt.1 h1.1)
    subst e
    rcases h1.2 with h | h
    · exact absurd rfl h
    · rcases h2.2 with g | g
      · exact absurd rfl g
      · rw [bytesLess_tri l m h g]
theorem bytesLess_trans : ∀ l m n : List UInt8, Op.bytesLess l m = true → Op.bytesLess m n = true → Op.bytesLess l n = true
  | _, _, [], _, h => by simp [Op.bytesLess] at h
  | [], _, _ :: _, _, _ => rfl
  | _ :: _, [], _ :: _, h, _ => by simp [Op.bytesLess] at h
  | a :: l, b :: m, c :: n, h1, h2 => by
    simp only [Op.bytesLess, Bool.or_eq_true, decide_eq_true_eq, Bool.and_eq_true, beq_iff_eq] at h1 h2 ⊢
    rcases h1 with h1 | ⟨rfl, h1⟩
    · rcases h2 with h2 | ⟨rfl, h2⟩
      · exact .inl (UInt8.lt_trans h1 h2)
      · exact .inl h1
    · rcases h2 with h2 | ⟨rfl, h2⟩
      · exact .inl h2
      · exact .inr ⟨rfl, bytesLess_trans l m n h1 h2⟩
theorem lessS_ord : St.Ord lessS where
  asym x y h := bytesLess_asym _ _ h
  ntrans x y z h := by
    unfold lessS at *
    cases h1 : Op.bytesLess x.toList y.toList with
    | true => exact .inl rfl
    | false =>
      right
      cases h2 : Op.bytesLess y.toList x.toList with
      | true => exact bytesLess_trans _ _ _ h2 h
      | false => rw [← bytesLess_tri _ _ h1 h2]; exact h
theorem cmpS_tri : Tri cmpS := by
  refine ordI_tri lessS_ord (fun x y h => ?_) (fun x y h g => ?_) fun x y h g => ?_
  · unfold cmpS ordI; simp [h]
  · unfold cmpS ordI
    have : (x.toList == y.toList) = false := by
      rw [beq_eq_false_iff_ne]
      intro e
      unfold lessS at g
      rw [e, bytesLess_irr] at g; cases g
    simp [h, this]
  · unfold cmpS ordI
    have e := bytesLess_tri _ _ h g
    simp [h, e]
def keyV (v : Val) : Int := keyN (toU v.i)
theorem Tri.comap {α β : Type} {c : α → α → Int} (h : Tri c) (f : β → α) : Tri (fun x y => c (f x) (f y)) := ⟨fun x y => h.anti _ _, fun x y z => h.ntrans _ _ _⟩
/-- What is asked of two values of one kind. -/
def cmpK (k : Int) (a b : Val) : Int := if k = 1 then cmpI a.i b.i else if k = 2 then cmpI (keyV a) (keyV b) else if k = 3 then cmpS a.s b.s else 0
theorem cmpV_eq (a b : Val) : cmpV a b = if cmpI a.kind b.kind ≠ 0 then cmpI a.kind b.kind else cmpK a.kind a b := by
  unfold cmpV cmpK
  simp only [cmpF_eq, ← show ∀ v : Val, keyV v = keyN (toU v.i) from fun _ => rfl]
  by_cases h : a.kind = b.kind
  · simp [h, cmpI_zero]
  · simp [h, cmpI_zero]
theorem zero_tri {α : Type} : Tri (fun _ _ : α => (0 : Int)) := ⟨fun _ _ => by simp, fun _ _ _ h => by simp at h⟩
theorem cmpK_tri (k : Int) : Tri (cmpK k) := by
  by_cases k1 : k = 1
  · have : cmpK k = fun a b => cmpI a.i b.i := by funext a b; unfold cmpK; rw [if_pos k1]
    rw [this]; exact cmpI_tri.comap Val.i
  · by_cases k2 : k = 2
    · have : cmpK k = fun a b => cmpI (keyV a) (keyV b) := by funext a b; unfold cmpK; rw [if_neg k1, if_pos k2]
      rw [this]; exact cmpI_tri.comap keyV
    · by_cases k3 : k = 3
      · have : cmpK k = fun a b => cmpS a.s b.s := by funext a b; unfold cmpK; rw [if_neg k1, if_neg k2, if_pos k3]
        rw [this]; exact cmpS_tri.comap Val.s
      · have : cmpK k = fun a b => 0 := by funext a b; unfold cmpK; rw [if_neg k1, if_neg k2, if_neg k3]
        rw [this]; exact zero_tri
theorem cmpV_tri : Tri cmpV := by
  refine Tri.lex (c := fun a b => cmpI a.kind b.kind) (d := fun a b => cmpK a.kind a b) (cmpI_tri.comap Val.kind) (fun x y h => by rw [cmpV_eq, if_pos h]) (fun x y h => by rw [cmpV_eq, if_neg (by simpa using h)]) (fun x y h => ?_) fun x y z h1 h2 => ?_
  · have h := cmpI_zero.1 h
    rw [h]
    exact (cmpK_tri _).anti x y
  · have h1 := cmpI_zero.1 h1
    rw [h1]
    exact (cmpK_tri _).ntrans x y z
end Go.Proofs.YtkapgooedfompaaGreat
namespace Go.Proofs.YtkapgooedfompaaGreat
set_option linter.unusedVariables false
namespace St
variable {α : Type} {eq : α → α → Bool}
def cgo (eq : α → α → Bool) : α → List α → List α
  | _, [] => []
  | p, y :: t => if eq y p = true then cgo eq y t else y :: cgo eq y t
def compactP (eq : α → α → Bool) : List α → List α
  | [] => []
  | x :: t => x :: cgo eq x t
theorem cgo_snoc : ∀ (p : α) (t : List α) (x : α), cgo eq p (t ++ [x]) = cgo eq p t ++ (if eq x ((p :: t).getLast (by simp)) = true then [] else [x])
  | p, [], x => by cases h : eq x p <;> simp [cgo, h]
  | p, y :: t, x => by
    simp only [List.cons_append, cgo, cgo_snoc y t x]
    have e : (p :: y :: t).getLast (by simp) = (y :: t).getLast (by simp) := List.getLast_cons (by simp)
    rw [e]
    by_cases h : eq y p = true
    · simp [h]
    · simp [h]
theorem compactP_snoc {M : List α} {x y : α} {k : Nat} (hk : M.length = k + 1) (hy : M[k]? = some y) : compactP eq (M ++ [x]) = compactP eq M ++ (if eq x y = true then [] else [x]) := by
  cases M with
  | nil => simp at hk
  | cons p t =>
    simp only [List.cons_append, compactP, cgo_snoc]
    have : (p :: t).getLast (by simp) = y := by
      rw [List.getLast_eq_getElem]
      have h := List.getElem?_eq_some_iff.1 hy
      obtain ⟨h1, h2⟩ := h
      simp only [List.length_cons] at hk
      simp only [List.length_cons, show t.length + 1 - 1 = k by omega]
      exact h2
    rw [this]
theorem cgo_len (p : α) (t : List α) : (cgo eq p t).length ≤ t.length := by
  induction t generalizing p with
  | nil => simp [cgo]
  | cons y t ih => unfold cgo; split <;> simp; exact Nat.le_succ_of_le (ih y); exact ih y
theorem compactP_len (l : List α) : (compactP eq l).length ≤ l.length := by
  cases l with
  | nil => simp [compactP]
  | cons x t => simpa [compactP] using cgo_len x t
end St
end Go.Proofs.YtkapgooedfompaaGreat
namespace Go.Proofs.YtkapgooedfompaaGreat
open Go.Proofs.YtkapgooedfompaaGreatAw Go.RowKit
set_option linter.unusedVariables false
set_option linter.unusedSimpArgs false
theorem cgo_mem {α : Type} {eq : α → α → Bool} : ∀ {t : List α} {p x : α}, x ∈ St.cgo eq p t → x ∈ t
  | [], _, _, h => by simp [St.cgo] at h
  | y :: t, p, x, h => by
    unfold St.cgo at h
    split at h
    · exact List.mem_cons_of_mem _ (cgo_mem h)
    · rcases List.mem_cons.1 h with rfl | h
      · exact List.mem_cons_self ..
      · exact List.mem_cons_of_mem _ (cgo_mem h)
theorem compactP_mem {α : Type} {eq : α → α → Bool} {l : List α} {x : α} (h : x ∈ St.compactP eq l) : x ∈ l := by
  cases l with
  | nil => simp [St.compactP] at h
  | cons y t =>
    rcases List.mem_cons.1 h with rfl | h
    · exact List.mem_cons_self ..
    · exact List.mem_cons_of_mem _ (cgo_mem h)
theorem cgo_sorted {α : Type} {c : α → α → Int} (ht : Tri c) : ∀ {t : List α} {p : α}, St.Sorted (ltT c) (p :: t) → (p :: St.cgo (fun a b => decide (c a b = 0)) p t).Pairwise (fun x y => ltT c x y = true) ∧ ∀ x ∈ t, ∃ y ∈ p :: St.cgo (fun a b => decide (c a b = 0)) p t, c x y = 0
  | [], p, _ => by simp [St.cgo]
  | y :: t, p, h => by
    have h1 := List.pairwise_cons.1 h
    have h2 := List.pairwise_cons.1 h1.2
    have hp : ltT c y p = false := h1.1 y (by simp)
    unfold St.cgo
    by_cases he : c y p = 0
    · rw [if_pos (by simpa using he)]
      have hs : St.Sorted (ltT c) (p :: t) := List.pairwise_cons.2 ⟨fun z hz => h1.1 z (by simp [hz]), h2.2⟩
      -- the neighbour's own walk goes on from y: alike to p
      have key : ∀ (t : List α) (y p : α), c y p = 0 → St.cgo (fun a b => decide (c a b = 0)) y t = St.cgo (fun a b => decide (c a b = 0)) p t := by
        intro t
        cases t with
        | nil => intros; rfl
        | cons z t =>
          intro y p h
          unfold St.cgo
          have : decide (c z y = 0) = decide (c z p = 0) := by
            rw [Bool.eq_iff_iff, decide_eq_true_eq, decide_eq_true_eq]
            exact ⟨fun g => ht.zero_trans g h, fun g => ht.zero_trans g ((ht.zero y p).1 h)⟩
          rw [this]
      rw [key t y p he]
      obtain ⟨i1, i2⟩ := cgo_sorted ht hs
      refine ⟨i1, fun x hx => ?_⟩
      rcases List.mem_cons.1 hx with rfl | hx
      · exact ⟨p, by simp, he⟩
      · exact i2 x hx
    · rw [if_neg (by simpa using he)]
      obtain ⟨i1, i2⟩ := cgo_sorted ht h1.2
      have hlt : ltT c p y = true := by
        simp only [ltT, decide_eq_true_eq, decide_eq_false_iff_not] at hp ⊢
        have := ht.anti p y
        omega
      refine ⟨List.pairwise_cons.2 ⟨fun z hz => ?_, i1⟩, fun x hx => ?_⟩
      · rcases List.mem_cons.1 hz with rfl | hz
        · exact hlt
        · exact ht.ord.trans hlt ((List.pairwise_cons.1 i1).1 z hz)
      · rcases List.mem_cons.1 hx with rfl | hx
        · exact ⟨x, by simp, ht.self x⟩
        · obtain ⟨z, hz, hc⟩ := i2 x hx
          exact ⟨z, List.mem_cons_of_mem _ hz, hc⟩
theorem compact_sorted {α : Type} {c : α → α → Int} (ht : Tri c) {l : List α} (h : St.Sorted (ltT c) l) : (St.compactP (fun a b => decide (c a b = 0)) l).Pairwise (fun x y => ltT c x y = true) ∧ ∀ x ∈ l, ∃ y ∈ St.compactP (fun a b => decide (c a b = 0)) l, c x y = 0 := by
  cases l with
  | nil => simp [St.compactP]
  | cons p t =>
    obtain ⟨h1, h2⟩ := cgo_sorted ht h
    refine ⟨h1, fun x hx => ?_⟩
    rcases List.mem_cons.1 hx with rfl | hx
    · exact ⟨x, by simp [St.compactP], ht.self x⟩
    · exact h2 x hx
theorem compact_rise {α : Type} {c : α → α → Int} (ht : Tri c) : ∀ {l : List α}, l.Pairwise (fun x y => ltT c x y = true) → St.compactP (fun a b => decide (c a b = 0)) l = l := by
  intro l h
  cases l with
  | nil => rfl
  | cons p t =>
    simp only [St.compactP]
    congr 1
    induction t generalizing p with
    | nil => rfl
    | cons y t ih =>
      have h1 := List.pairwise_cons.1 h
      unfold St.cgo
      have : ¬ c y p = 0 := fun e => by
        have h3 := h1.1 y (by simp)
        simp only [ltT, decide_eq_true_eq] at h3
        have := (ht.zero y p).1 e
        omega
      rw [if_neg (by simpa using this)]
      congr 1
      exact ih y h1.2
theorem rise_sorted {α : Type} {c : α → α → Int} (ht : Tri c) {l : List α} (h : l.Pairwise (fun x y => ltT c x y = true)) : St.Sorted (ltT c) l := h.imp fun {x y} hx => ht.ord.asym x y hx
/-- Words: what is sorted, each once. -/
def wordsP {α : Type} (c : α → α → Int) (l : List α) : List α := St.compactP (fun a b => decide (c a b = 0)) (St.sortS (ltT c) l)
theorem words_rise {α : Type} {c : α → α → Int} (ht : Tri c) (l : List α) : (wordsP c l).Pairwise (fun x y => ltT c x y = true) := (compact_sorted ht (St.sortS_sorted ht.ord l)).1
theorem words_mem {α : Type} {c : α → α → Int} (ht : Tri c) {l : List α} {x : α} (h : x ∈ wordsP c l) : x ∈ l := (St.sortS_mem ht.ord).1 (compactP_mem h)
theorem words_has {α : Type} {c : α → α → Int} (ht : Tri c) {l : List α} {x : α} (h : x ∈ l) : ∃ y ∈ wordsP c l, c x y = 0 := (compact_sorted ht (St.sortS_sorted ht.ord l)).2 x ((St.sortS_mem ht.ord).2 h)
end Go.Proofs.YtkapgooedfompaaGreat
namespace Go.Proofs.YtkapgooedfompaaGreat
open Go.Proofs.YtkapgooedfompaaGreatAw Go.RowKit
set_option linter.unusedVariables false
set_option linter.unusedSimpArgs false
def belowP (words : List Val) (v : Val) : Nat := words.countP fun w => decide (cmpV w v < 0)
theorem belowP_snoc (l : List Val) (x v : Val) : belowP (l ++ [x]) v = if cmpV x v < 0 then belowP l v + 1 else belowP l v := by
  unfold belowP
  rw [List.countP_append]
  by_cases h : cmpV x v < 0 <;> simp [h]
theorem belowP_le (l : List Val) (v : Val) : belowP l v ≤ l.length := List.countP_le_length
set_option maxRecDepth 10000 in
set_option maxHeartbeats 1000000 in
theorem below09_does (words : List Val) (v : Val) (nn : Bool) (H : AHeap) (hl : words.length ≤ 1000000000000) (hs : ∀ k ∈ words, k.s.size ≤ 9223372036854775807) : Does Tryz.prog 43 [.d (.list nn (words.map Val.enc)), v.av] H (.ok (iA (belowP words v))) H := by
  refine Does.of_awp (hint := (fun _ => false)) Tryz.func43 (by kernel_rfl) rfl [4] (by kernel_rfl) (by decide) (by simp [Tryz.ntmps43]) ?_
  rw [Tryz.ntmps43]
  simp (implicitDefEqProofs := false) only [↓reduceIte, go_sem, Nat.reduceAdd, Nat.reduceLT, eq_self]
  refine awp_for3 (fun k s H' => H' = H ++ [.box 45 3 0 1 [iA v.kind, iA v.i, sA v.s]] ∧ s 0 = .d (.list nn (words.map Val.enc)) ∧ s 3 = .ptr H.length 0 0 0 ∧ s 5 = iA (belowP (words.take k) v) ∧ s 6 = iA k) words.length (by omega) (Weak.refl _ _) ?_ ?_ ?_
  · refine ⟨rfl, ?_⟩
    simp (implicitDefEqProofs := false) only [↓reduceIte, go_sem, Nat.reduceLT, Nat.reduceEqDiff, reduceCtorEq, eq_self]
    rfl
  · rintro k s H' hk hw ⟨rfl, t0, t3, t5, t6⟩
    have hx := List.getElem?_eq_getElem hk
    have e1 := List.take_succ_eq_append_getElem hk
    have e2 := belowP_snoc (words.take k) words[k] v
    rw [← e1] at e2
    have hb := belowP_le (words.take k) v
    rw [List.length_take] at hb
    have hxs := hs _ (List.getElem_mem hk)
    generalize words[k] = x at hx e2 hxs
    obtain ⟨n, hn⟩ : ∃ n, n = belowP (words.take k) v := ⟨_, rfl⟩
    rw [← hn] at t5 e2 hb
    simp (implicitDefEqProofs := false) only [↓reduceIte, go_sem, Nat.reduceLT, Nat.reduceEqDiff, reduceCtorEq, eq_self, t0, t6, hk]
    refine awp_draw K.mixed (by kernel_rfl) ?_
    simp (implicitDefEqProofs := false) only [↓reduceIte, go_sem, oread, Nat.reduceAdd, Nat.reduceLT, Nat.reduceEqDiff, reduceCtorEq, eq_self, t0, t3, t6, hx, Val.enc]
    refine KCall.ok (vcmp05_does x v hxs _) ?_
    have hw2 : IntKind.i64.wrap ((n : Int) + 1) = (n : Int) + 1 := wrap64_in _ (by omega) (by omega)
    by_cases hc : cmpV x v < 0
    · rw [if_pos hc] at e2
      simp (implicitDefEqProofs := false) only [↓reduceIte, go_sem, Nat.reduceLT, Nat.reduceEqDiff, eq_self, hc, t5, hw2, t6]
      refine Rnd.same ⟨rfl, ?_⟩
      simp (implicitDefEqProofs := false) only [↓reduceIte, go_sem, Nat.reduceLT, Nat.reduceEqDiff, reduceCtorEq, eq_self, t0, t3, hw, e2]
    · rw [if_neg hc] at e2
      simp (implicitDefEqProofs := false) only [↓reduceIte, go_sem, Nat.reduceLT, Nat.reduceEqDiff, eq_self, hc, t6]
      refine Rnd.same ⟨rfl, ?_⟩
      simp (implicitDefEqProofs := false) only [↓reduceIte, go_sem, Nat.reduceLT, Nat.reduceEqDiff, reduceCtorEq, eq_self, t0, t3, t5, hw, e2]
  · rintro s H' ⟨rfl, t0, t3, t5, t6⟩
    rw [List.take_length] at t5
    simp (implicitDefEqProofs := false) only [↓reduceIte, go_sem, Nat.reduceLT, Nat.reduceEqDiff, reduceCtorEq, eq_self, t0, t5, t6]
    refine AEnd.ret ?_
    simp (implicitDefEqProofs := false) only [↓reduceIte, go_sem, Nat.reduceLT, eq_self]
end Go.Proofs.YtkapgooedfompaaGreat
namespace Go.Proofs.YtkapgooedfompaaGreat
open Go.Proofs.YtkapgooedfompaaGreatAw Go.RowKit
set_option linter.unusedVariables false
set_option linter.unusedSimpArgs false
/-- The first one of its class. -/
def Fst {α : Type} (c : α → α → Int) (l : List α) (x : α) : Prop := (l.filter (St.eqv (ltT c) x)).head? = some x
theorem eqv_zero {α : Type} {c : α → α → Int} (ht : Tri c) (x y : α) : St.eqv (ltT c) x y = true ↔ c x y = 0 := by
  rw [St.eqv_iff]
  have h1 := ht.anti x y
  have h2 := ht.anti y x
  simp only [ltT, decide_eq_false_iff_not]
  omega
theorem Fst.mem {α : Type} {c : α → α → Int} {l : List α} {x : α} (h : Fst c l x) : x ∈ l := (List.mem_filter.1 (List.mem_of_mem_head? h)).1
theorem Fst.cons {α : Type} {c : α → α → Int} (ht : Tri c) (p : α) (l : List α) (x : α) : Fst c (p :: l) x ↔ x = p ∨ (c x p ≠ 0 ∧ Fst c l x) := by
  unfold Fst
  by_cases h : c x p = 0
  · rw [List.filter_cons_of_pos ((eqv_zero ht x p).2 h), List.head?_cons]
    constructor
    · intro e; left; exact (Option.some.inj e).symm
    · rintro (e | e)
      · rw [e]
      · exact absurd h e.1
  · rw [List.filter_cons_of_neg (by rw [eqv_zero ht]; exact h)]
    constructor
    · intro e; exact .inr ⟨h, e⟩
    · rintro (e | e)
      · subst e; exact absurd (ht.self x) h
      · exact e.2
theorem cgo_fst {α : Type} {c : α → α → Int} (ht : Tri c) : ∀ (t : List α) (p : α), St.Sorted (ltT c) (p :: t) → ∀ x, x ∈ p :: St.cgo (fun a b => decide (c a b = 0)) p t ↔ Fst c (p :: t) x
  | [], p, _, x => by
    rw [Fst.cons ht]
    simp [St.cgo, Fst]
  | y :: t, p, hs, x => by
    have hs2 : St.Sorted (ltT c) (y :: t) := (List.pairwise_cons.1 hs).2
    have ih := cgo_fst ht t y hs2 x
    have hpy : ltT c y p = false := (List.pairwise_cons.1 hs).1 y (by simp)
    have hr := (cgo_sorted ht hs2).1
    rw [Fst.cons ht, Fst.cons ht] at *
    have hrest : x ∈ St.cgo (fun a b => decide (c a b = 0)) y t → c y x < 0 := fun h => by
      have := (List.pairwise_cons.1 hr).1 x h
      simpa [ltT] using this
    have hpy' : ¬ c y p < 0 := by simpa [ltT] using hpy
    have hanti := ht.anti y p
    by_cases he : c y p = 0
    · have e : St.cgo (fun a b => decide (c a b = 0)) p (y :: t) = St.cgo (fun a b => decide (c a b = 0)) y t := by simp [St.cgo, he]
      rw [e, List.mem_cons]
      constructor
      · rintro (h | h)
        · exact .inl h
        · have h1 := hrest h
          have h2 := ih.1 (by simp [h])
          refine .inr ⟨fun h0 => ?_, h2⟩
          have := ht.zero_trans he ((ht.zero x p).1 h0)
          omega
      · rintro (h | ⟨h1, h2⟩)
        · exact .inl h
        · have h3 := ih.2 h2
          rcases List.mem_cons.1 h3 with h4 | h4
          · subst h4; exact absurd he h1
          · exact .inr h4
    · have e : St.cgo (fun a b => decide (c a b = 0)) p (y :: t) = y :: St.cgo (fun a b => decide (c a b = 0)) y t := by simp [St.cgo, he]
      rw [e, List.mem_cons, ih]
      constructor
      · rintro (h | h)
        · exact .inl h
        · refine .inr ⟨fun h0 => ?_, h⟩
          have h3 := ih.2 h
          rcases List.mem_cons.1 h3 with h4 | h4
          · subst h4; exact he h0
          · have h5 := hrest h4
            rcases ht.ntrans y p x h5 with h6 | h6
            · omega
            · have := (ht.zero x p).1 h0; omega
      · rintro (h | ⟨_, h⟩)
        · exact .inl h
        · exact .inr h
theorem compact_fst {α : Type} {c : α → α → Int} (ht : Tri c) {l : List α} (h : St.Sorted (ltT c) l) (x : α) : x ∈ St.compactP (fun a b => decide (c a b = 0)) l ↔ Fst c l x := by
  cases l with
  | nil => simp [St.compactP, Fst]
  | cons p t => exact cgo_fst ht t p h x
theorem words_fst {α : Type} {c : α → α → Int} (ht : Tri c) (l : List α) (x : α) : x ∈ wordsP c l ↔ Fst c l x := by
  unfold wordsP
  rw [compact_fst ht (St.sortS_sorted ht.ord l)]
  unfold Fst
  rw [St.sortS_steq ht.ord l x]
/-- Rising lists of the same ones are the same. -/
theorem rise_ext {α : Type} {c : α → α → Int} (ht : Tri c) : ∀ {X Y : List α}, X.Pairwise (fun x y => c x y < 0) → Y.Pairwise (fun x y => c x y < 0) → (∀ x, x ∈ X ↔ x ∈ Y) → X = Y
  | [], [], _, _, _ => rfl
  | [], y :: Y, _, _, h => by have := (h y).2 (by simp); simp at this
  | x :: X, [], _, _, h => by have := (h x).1 (by simp); simp at this
  | x :: X, y :: Y, hX, hY, h => by
    rw [List.pairwise_cons] at hX hY
    have irr : ∀ z, ¬ c z z < 0 := fun z => by have := ht.self z; omega
    have e : x = y := by
      rcases List.mem_cons.1 ((h x).1 (by simp)) with h1 | h1
      · exact h1
      · rcases List.mem_cons.1 ((h y).2 (by simp)) with h2 | h2
        · exact h2.symm
        · have a := hY.1 x h1
          have b := hX.1 y h2
          have := (ht.anti x y).1 b
          omega
    subst e
    rw [rise_ext ht hX.2 hY.2 fun z => ?_]
    have hz := h z
    simp only [List.mem_cons] at hz
    constructor
    · intro hm
      rcases hz.1 (.inr hm) with e | e
      · subst e; exact absurd (hX.1 z hm) (irr z)
      · exact e
    · intro hm
      rcases hz.2 (.inr hm) with e | e
      · subst e; exact absurd (hY.1 z hm) (irr z)
      · exact e
def insW (W : List Val) (v : Val) : List Val := match W[belowP W v]? with
  | some w => if cmpV w v = 0 then W else W.take (belowP W v) ++ v :: W.drop (belowP W v)
  | none => W.take (belowP W v) ++ v :: W.drop (belowP W v)
def wordsR (l : List Val) : List Val := l.foldl insW []
theorem below_cut (v : Val) : ∀ {W : List Val}, W.Pairwise (fun x y => cmpV x y < 0) → (∀ x ∈ W.take (belowP W v), cmpV x v < 0) ∧ (∀ x ∈ W.drop (belowP W v), ¬ cmpV x v < 0)
  | [], _ => by simp
  | w :: W, h => by
    rw [List.pairwise_cons] at h
    have ih := below_cut v h.2
    by_cases hw : cmpV w v < 0
    · have e : belowP (w :: W) v = belowP W v + 1 := by simp [belowP, hw]
      rw [e, List.take_succ_cons, List.drop_succ_cons]
      refine ⟨fun x hx => ?_, ih.2⟩
      rcases List.mem_cons.1 hx with rfl | hx
      · exact hw
      · exact ih.1 x hx
    · have hall : ∀ x ∈ W, ¬ cmpV x v < 0 := fun x hx hlt => by
        rcases cmpV_tri.ntrans w v x (h.1 x hx) with h1 | h1
        · exact hw h1
        · have := (cmpV_tri.anti x v).1 hlt; omega
      have e : belowP (w :: W) v = 0 := by
        unfold belowP
        rw [List.countP_eq_zero]
        intro x hx
        rcases List.mem_cons.1 hx with rfl | hx
        · simpa using hw
        · simpa using hall x hx
      rw [e]
      refine ⟨fun x hx => by simp at hx, fun x hx => ?_⟩
      rcases List.mem_cons.1 hx with rfl | hx
      · exact hw
      · exact hall x hx
structure WordsI (l W : List Val) : Prop where
  rise : W.Pairwise fun x y => cmpV x y < 0
  mem : ∀ x, x ∈ W ↔ Fst cmpV l x
theorem WordsI.has {l W : List Val} (h : WordsI l W) {v : Val} (hv : v ∈ l) : ∃ w ∈ W, cmpV v w = 0 := by
  have hne : l.filter (St.eqv (ltT cmpV) v) ≠ [] := fun h0 => by
    have : v ∈ l.filter (St.eqv (ltT cmpV) v) := List.mem_filter.2 ⟨hv, (eqv_zero cmpV_tri v v).2 (cmpV_tri.self v)⟩
    rw [h0] at this; simp at this
  obtain ⟨w, hw⟩ : ∃ w, (l.filter (St.eqv (ltT cmpV) v)).head? = some w := by
    cases hf : l.filter (St.eqv (ltT cmpV) v) with
    | nil => exact absurd hf hne
    | cons a b => exact ⟨a, rfl⟩
  have hwm := List.mem_of_mem_head? hw
  have hvw := (eqv_zero cmpV_tri v w).1 (List.mem_filter.1 hwm).2
  refine ⟨w, (h.mem w).2 ?_, hvw⟩
  unfold Fst
  have e : St.eqv (ltT cmpV) w = St.eqv (ltT cmpV) v := by
    funext z
    rw [Bool.eq_iff_iff, eqv_zero cmpV_tri, eqv_zero cmpV_tri]
    exact ⟨fun h => cmpV_tri.zero_trans hvw h, fun h => cmpV_tri.zero_trans ((cmpV_tri.zero v w).1 hvw) h⟩
  rw [e]; exact hw
theorem fst_snoc_old {l : List Val} {v w : Val} (hw : w ∈ l) (hc : cmpV w v = 0) (x : Val) : Fst cmpV (l ++ [v]) x ↔ Fst cmpV l x := by
  unfold Fst
  rw [List.filter_append]
  by_cases h : cmpV x v = 0
  · have hx : w ∈ l.filter (St.eqv (ltT cmpV) x) := List.mem_filter.2 ⟨hw, (eqv_zero cmpV_tri x w).2 (cmpV_tri.zero_trans h ((cmpV_tri.zero w v).1 hc))⟩
    cases hf : l.filter (St.eqv (ltT cmpV) x) with
    | nil => rw [hf] at hx; simp at hx
    | cons a b => simp
  · rw [List.filter_cons_of_neg (by rw [eqv_zero cmpV_tri]; exact h), List.filter_nil, List.append_nil]
theorem fst_snoc_new {l : List Val} {v : Val} (hn : ∀ w ∈ l, cmpV w v ≠ 0) (x : Val) : Fst cmpV (l ++ [v]) x ↔ Fst cmpV l x ∨ x = v := by
  have e0 : ∀ y, cmpV y v = 0 → l.filter (St.eqv (ltT cmpV) y) = [] := fun y hy => by
    rw [List.filter_eq_nil_iff]
    intro w hw h0
    exact hn w hw (cmpV_tri.zero_trans ((cmpV_tri.zero y w).1 ((eqv_zero cmpV_tri y w).1 h0)) hy)
  unfold Fst
  rw [List.filter_append]
  by_cases h : cmpV x v = 0
  · rw [e0 x h, List.filter_cons_of_pos ((eqv_zero cmpV_tri x v).2 h)]
    simp
    exact eq_comm
  · rw [List.filter_cons_of_neg (by rw [eqv_zero cmpV_tri]; exact h), List.filter_nil, List.append_nil]
    constructor
    · exact .inl
    · rintro (h1 | h1)
      · exact h1
      · subst h1; exact absurd (cmpV_tri.self x) h
theorem insW_ok {l W : List Val} (h : WordsI l W) (v : Val) : WordsI (l ++ [v]) (insW W v) := by
  have hcut := below_cut v h.rise
  by_cases hx : ∃ w ∈ W, cmpV w v = 0
  · obtain ⟨w, hw, hc⟩ := hx
    have hwl := ((h.mem w).1 hw).mem
    have hat : ∃ u, W[belowP W v]? = some u ∧ cmpV u v = 0 := by
      have hd : w ∈ W.drop (belowP W v) := by
        rw [← List.take_append_drop (belowP W v) W, List.mem_append] at hw
        rcases hw with h1 | h1
        · have := hcut.1 w h1; omega
        · exact h1
      cases hdr : W.drop (belowP W v) with
      | nil => rw [hdr] at hd; simp at hd
      | cons u U =>
        have hu : W[belowP W v]? = some u := by
          have := congrArg (fun L => L[0]?) hdr
          simpa [List.getElem?_drop] using this
        refine ⟨u, hu, ?_⟩
        have h1 := hcut.2 u (by rw [hdr]; simp)
        have hp : (u :: U).Pairwise fun x y => cmpV x y < 0 := by rw [← hdr]; exact h.rise.drop
        rw [hdr] at hd
        rcases List.mem_cons.1 hd with e | e
        · subst e; exact hc
        · have h2 := (List.pairwise_cons.1 hp).1 w e
          have := (cmpV_tri.zero w v).1 hc
          rcases cmpV_tri.ntrans u v w h2 with h3 | h3
          · exact absurd h3 h1
          · omega
    obtain ⟨u, hu, hcu⟩ := hat
    have e : insW W v = W := by simp [insW, hu, hcu]
    rw [e]
    exact ⟨h.rise, fun x => by rw [h.mem x, fst_snoc_old hwl hc]⟩
  · have hn : ∀ w ∈ W, cmpV w v ≠ 0 := fun w hw hc => hx ⟨w, hw, hc⟩
    have e : insW W v = W.take (belowP W v) ++ v :: W.drop (belowP W v) := by
      unfold insW
      split
      · rename_i w hw; rw [if_neg (hn w (List.mem_of_getElem? hw))]
      · rfl
    have hnl : ∀ w ∈ l, cmpV w v ≠ 0 := fun w hw hc => by
      obtain ⟨u, hu, huc⟩ := h.has hw
      exact hn u hu (cmpV_tri.zero_trans ((cmpV_tri.zero w u).1 huc) hc)
    rw [e]
    refine ⟨?_, fun x => ?_⟩
    · have h0 := h.rise
      rw [← List.take_append_drop (belowP W v) W, List.pairwise_append] at h0
      rw [List.pairwise_append, List.pairwise_cons]
      have hgt : ∀ x ∈ W.drop (belowP W v), cmpV v x < 0 := fun x hx => by
        have h1 := hcut.2 x hx
        have h2 := hn x (List.mem_of_mem_drop hx)
        exact (cmpV_tri.anti v x).2 (by omega)
      refine ⟨h0.1, ⟨hgt, h0.2.1⟩, fun x hx y hy => ?_⟩
      rcases List.mem_cons.1 hy with rfl | hy
      · exact hcut.1 x hx
      · exact h0.2.2 x hx y hy
    · rw [fst_snoc_new hnl, ← h.mem x, List.mem_append, List.mem_cons]
      have := @List.mem_append _ x (W.take (belowP W v)) (W.drop (belowP W v))
      rw [List.take_append_drop] at this
      rw [this]
      constructor
      · rintro (h1 | h1 | h1)
        · exact .inl (.inl h1)
        · exact .inr h1
        · exact .inl (.inr h1)
      · rintro ((h1 | h1) | h1)
        · exact .inl h1
        · exact .inr (.inr h1)
        · exact .inr (.inl h1)
theorem wordsR_snoc (l : List Val) (v : Val) : wordsR (l ++ [v]) = insW (wordsR l) v := by simp [wordsR]
theorem fold_ok : ∀ (m l W : List Val), WordsI l W → WordsI (l ++ m) (m.foldl insW W)
  | [], l, W, h => by rw [List.append_nil]; exact h
  | v :: m, l, W, h => by
    have := fold_ok m (l ++ [v]) (insW W v) (insW_ok h v)
    rwa [List.append_assoc] at this
theorem wordsR_ok (l : List Val) : WordsI l (wordsR l) := fold_ok l [] [] ⟨List.Pairwise.nil, fun x => by simp [Fst]⟩
theorem wordsR_eq (l : List Val) : wordsR l = wordsP cmpV l :=
  rise_ext cmpV_tri (wordsR_ok l).rise ((words_rise cmpV_tri l).imp fun h => by simpa [ltT] using h) fun x => by rw [(wordsR_ok l).mem, words_fst cmpV_tri]
theorem wordsR_len (l : List Val) : (wordsR l).length ≤ l.length := by
  rw [wordsR_eq]
  have h := St.compactP_len (eq := fun a b => decide (cmpV a b = 0)) (St.sortS (ltT cmpV) l)
  rwa [St.sortS_len] at h
theorem wordsR_mem {l : List Val} {x : Val} (h : x ∈ wordsR l) : x ∈ l := ((wordsR_ok l).mem x |>.1 h).mem
end Go.Proofs.YtkapgooedfompaaGreat
namespace Go.Proofs.YtkapgooedfompaaGreat
open Go.Proofs.YtkapgooedfompaaGreatAw Go.RowKit
set_option linter.unusedVariables false
set_option linter.unusedSimpArgs false
set_option maxRecDepth 10000 in
set_option maxHeartbeats 2000000 in
theorem same05_does (l m : List Val) (n1 n2 : Bool) (H : AHeap) (hl : l.length ≤ 1000000000000) : Does Tryz.prog 12 [.d (.list n1 (l.map Val.enc)), .d (.list n2 (m.map Val.enc))] H (.ok (bA (decide (l = m)))) H := by
  refine Does.of_awp (hint := (fun _ => false)) Tryz.func12 (by kernel_rfl) rfl [4] (by kernel_rfl) (by decide) (by simp [Tryz.ntmps12]) ?_
  rw [Tryz.ntmps12]
  simp (implicitDefEqProofs := false) only [↓reduceIte, go_sem, Nat.reduceLT, Nat.reduceEqDiff, reduceCtorEq, eq_self]
  by_cases hlm : l.length = m.length
  · refine awp_F (by simp (implicitDefEqProofs := false) only [go_sem, eq_self, hlm]) ?_
    simp (implicitDefEqProofs := false) only [go_sem]
    refine awp_for3 (fun k s H' => H' = H ∧ l.take k = m.take k ∧ s 0 = .d (.list n1 (l.map Val.enc)) ∧ s 1 = .d (.list n2 (m.map Val.enc)) ∧ s 5 = iA k) l.length (by omega) (Weak.refl _ _) ?_ ?_ ?_
    · simp (implicitDefEqProofs := false) only [↓reduceIte, go_sem, Nat.reduceLT, Nat.reduceEqDiff, reduceCtorEq, eq_self, List.take_zero]
    · rintro k s H' hk hw ⟨rfl, hp, h0, h1, h5⟩
      have hx := List.getElem?_eq_getElem hk
      have hy := List.getElem?_eq_getElem (show k < m.length by omega)
      have e1 := List.take_succ_eq_append_getElem hk
      have e2 := List.take_succ_eq_append_getElem (show k < m.length by omega)
      have e3 : ∀ (g : l = m), l[k] = m[k]'(by omega) := by intro g; subst g; rfl
      generalize l[k] = x at hx e1 e3
      generalize m[k]'(by omega) = y at hy e2 e3
      have hk2 : k < m.length := by omega
      simp (implicitDefEqProofs := false) only [↓reduceIte, go_sem, Nat.reduceLT, Nat.reduceEqDiff, reduceCtorEq, eq_self, h0, h5, hk]
      refine awp_draw K.mixed (by kernel_rfl) ?_
      simp (implicitDefEqProofs := false) only [↓reduceIte, go_sem, Nat.reduceAdd, Nat.reduceLT, Nat.reduceEqDiff, reduceCtorEq, eq_self, h0, h1, h5, hx, hy, Val.enc, sameV_eq]
      by_cases hxy : x = y
      · refine awp_F (by simp (implicitDefEqProofs := false) only [go_sem, eq_self, hxy]) ?_
        simp (implicitDefEqProofs := false) only [↓reduceIte, go_sem, Nat.reduceLT, Nat.reduceEqDiff, eq_self, h5]
        refine Rnd.same ⟨rfl, by rw [e1, e2, hp, hxy], ?_⟩
        simp (implicitDefEqProofs := false) only [↓reduceIte, go_sem, Nat.reduceLT, Nat.reduceEqDiff, reduceCtorEq, eq_self, h0, h1, hw]
      · refine awp_T (by simp (implicitDefEqProofs := false) only [go_sem, eq_self, hxy]) ?_
        simp (implicitDefEqProofs := false) only [go_sem]
        refine AEnd.ret0 ?_
        simp (implicitDefEqProofs := false) only [↓reduceIte, go_sem, Nat.reduceLT, eq_self, show ¬ l = m from fun g => hxy (e3 g)]
    · rintro s H' ⟨rfl, hp, h0, h1, h5⟩
      simp (implicitDefEqProofs := false) only [↓reduceIte, go_sem, Nat.reduceLT, Nat.reduceEqDiff, reduceCtorEq, eq_self, h0, h5]
      refine AEnd.ret0 ?_
      rw [List.take_length, hlm, List.take_length] at hp
      simp (implicitDefEqProofs := false) only [↓reduceIte, go_sem, Nat.reduceLT, eq_self, hp]
  · simp (implicitDefEqProofs := false) only [go_sem, show ((l.length : Int) = (m.length : Int)) = False from eq_false (by omega)]
    refine AEnd.ret0 ?_
    simp (implicitDefEqProofs := false) only [↓reduceIte, go_sem, Nat.reduceLT, eq_self, show ¬ l = m from fun g => hlm (by rw [g])]
end Go.Proofs.YtkapgooedfompaaGreat
namespace Go.Proofs.YtkapgooedfompaaGreatAw
open Go.RowKit
set_option linter.unusedVariables false
theorem Weak.nilL {H0 : AHeap} (s : Nat → AV) (H : AHeap) (t : Nat) (h : s t = .d (.v (.slice none 0 0))) : Weak H0 s H (fun u => if u = t then .d (.list false []) else s u) H :=
  .imp _ _ _ fun φ N w u v hv => by
    by_cases hu : u = t
    · subst hu
      rw [if_pos rfl]
      rw [h] at hv
      exact Sub.ra .nil hv
    · rw [if_neg hu]; exact hv
end Go.Proofs.YtkapgooedfompaaGreatAw
namespace Go.Proofs.YtkapgooedfompaaGreat
open Go.Proofs.YtkapgooedfompaaGreatAw Go.RowKit
set_option linter.unusedVariables false
set_option linter.unusedSimpArgs false
theorem vals3 (l : List Val) : (∀ c ∈ l.map Val.enc, c.length = 3) = True := eq_true fun c hc => by obtain ⟨a, _, rfl⟩ := List.mem_map.1 hc; rfl
set_option maxRecDepth 10000 in
set_option maxHeartbeats 2000000 in
theorem words09_does (l : List Val) (nn : Bool) (hl : l.length ≤ 1000000000) (hs : ∀ k ∈ l, k.s.size ≤ 9223372036854775807) (H : AHeap) :
    Does Tryz.prog 15 [.d (.list nn (l.map Val.enc))] H (.ok (.d (.list false ((wordsP cmpV l).map Val.enc)))) H := by
  refine Does.of_awp (hint := (fun t => t == 35)) Tryz.func15 (by kernel_rfl) rfl [2] (by kernel_rfl) (by decide) (by simp [Tryz.ntmps15]) ?_
  rw [Tryz.ntmps15]
  simp (implicitDefEqProofs := false) only [go_sem, Nat.reduceAdd, Nat.reduceBEq]
  rw [← wordsR_eq]
  refine awp_for3 (fun k s H' => H' = H ∧ s 0 = .d (.list nn (l.map Val.enc)) ∧ s 3 = .d (.list false ((wordsR (l.take k)).map Val.enc)) ∧ s 4 = iA k) l.length (by omega) (Weak.nilL _ _ 3 (by simp (implicitDefEqProofs := false) only [↓reduceIte, go_sem, Nat.reduceLT, Nat.reduceEqDiff, eq_self])) ?_ ?_ ?_
  · refine ⟨rfl, ?_⟩
    simp (implicitDefEqProofs := false) only [↓reduceIte, go_sem, Nat.reduceLT, Nat.reduceEqDiff, reduceCtorEq, eq_self]
    rfl
  · rintro k s H' hk hw ⟨rfl, t0, t3, t4⟩
    have hx := List.getElem?_eq_getElem hk
    have e1 := wordsR_snoc (l.take k) l[k]
    rw [← List.take_succ_eq_append_getElem hk] at e1
    have hle := wordsR_len (l.take k)
    have hle2 := wordsR_len (l.take (k + 1))
    rw [List.length_take] at hle hle2
    have hxs := hs _ (List.getElem_mem hk)
    have hWs : ∀ w ∈ wordsR (l.take k), w.s.size ≤ 9223372036854775807 := fun w hw => hs w (List.mem_of_mem_take (wordsR_mem hw))
    rw [e1] at hle2 ⊢
    generalize wordsR (l.take k) = W at *
    generalize l[k] = x at *
    have hb := belowP_le W x
    have e2 : insW W x = match W[belowP W x]? with | some w => if cmpV w x = 0 then W else W.take (belowP W x) ++ x :: W.drop (belowP W x) | none => W.take (belowP W x) ++ x :: W.drop (belowP W x) := rfl
    have hbd := below09_does W x false H' (by omega) hWs
    generalize belowP W x = a at *
    simp (implicitDefEqProofs := false) only [↓reduceIte, go_sem, Nat.reduceAdd, Nat.reduceLT, Nat.reduceEqDiff, reduceCtorEq, eq_self, t0, t3, t4, hk, List.length_map, hx, Val.enc]
    refine KCall.ok hbd ?_
    simp (implicitDefEqProofs := false) only [↓reduceIte, go_sem, Nat.reduceAdd, Nat.reduceLT, Nat.reduceBEq, eq_self]
    obtain ⟨P, hP⟩ : ∃ P, P = W.take a := ⟨_, rfl⟩
    obtain ⟨Q, hQ⟩ : ∃ Q, Q = W.drop a := ⟨_, rfl⟩
    have hPl : P.length = a := by rw [hP, List.length_take]; omega
    have hQl : Q.length = W.length - a := by rw [hQ, List.length_drop]
    have f1 : List.take a (List.map Val.enc W) = P.map Val.enc := by rw [hP, List.map_take]
    have f2 : List.take W.length (List.map Val.enc W) = List.map Val.enc W := List.take_of_length_le (by simp)
    have f3 : List.drop a (List.map Val.enc W) = Q.map Val.enc := by rw [hQ, List.map_drop]
    have f4 : P.map Val.enc ++ [D.v (.int .i64 x.kind), D.v (.int .i64 x.i), D.v (.string x.s)] :: Q.map Val.enc = (P ++ x :: Q).map Val.enc := by simp [Val.enc]
    have f5 : ((P ++ x :: Q).map Val.enc).take (a + 1 + Q.length) = (P ++ x :: Q).map Val.enc := List.take_of_length_le (by simp; omega)
    rw [← hP, ← hQ] at e2
    by_cases ha : a < W.length
    · have hy := List.getElem?_eq_getElem ha
      have hys := hWs _ (List.getElem_mem ha)
      rw [hy] at e2
      generalize W[a] = y at *
      refine awp_draw K.mixed (by kernel_rfl) ?_
      simp (implicitDefEqProofs := false) only [↓reduceIte, go_sem, Nat.reduceAdd, Nat.reduceLT, Nat.reduceEqDiff, reduceCtorEq, eq_self, t0, t3, t4, List.length_map, hx, Val.enc, ha, hy]
      refine KCall.ok (vcmp05_does y x hys _) ?_
      by_cases hc : cmpV y x = 0
      · simp only [hc, if_true] at e2
        simp (implicitDefEqProofs := false) only [↓reduceIte, go_sem, Nat.reduceAdd, Nat.reduceLT, Nat.reduceEqDiff, Nat.reduceBEq, eq_self, hc, t4]
        refine Rnd.same ⟨rfl, ?_⟩
        simp (implicitDefEqProofs := false) only [↓reduceIte, go_sem, Nat.reduceLT, Nat.reduceEqDiff, reduceCtorEq, eq_self, t0, t3, hw, e2]
      · simp only [hc, if_false] at e2
        simp (implicitDefEqProofs := false) only [↓reduceIte, go_sem, Nat.reduceAdd, Nat.reduceLT, Nat.reduceEqDiff, Nat.reduceBEq, eq_self, hc]
        simp (implicitDefEqProofs := false) only [↓reduceIte, go_sem, Nat.reduceAdd, Nat.reduceLT, Nat.reduceLeDiff, Nat.reduceEqDiff, Nat.reduceBEq, Int.reduceLE, Int.reduceToNat, reduceCtorEq, eq_self, t0, t3, t4, List.length_map, vals3, hb, hx, Val.enc, f1, f2, f3, hPl]
        refine ⟨by omega, by omega, by omega, by omega, by omega, by omega, ?_⟩
        refine Rnd.cut [] _ 0 rfl rfl (by simp (implicitDefEqProofs := false) only [go_sem, eq_self]) ?_
        refine ⟨List.append_nil _, ?_⟩
        simp (implicitDefEqProofs := false) only [↓reduceIte, go_sem, Nat.reduceLT, Nat.reduceEqDiff, reduceCtorEq, eq_self, t0, hw, e2, f4, f5]
    · rw [List.getElem?_eq_none (by omega)] at e2
      simp only at e2
      refine awp_draw K.mixed (by kernel_rfl) ?_
      simp (implicitDefEqProofs := false) only [↓reduceIte, go_sem, Nat.reduceAdd, Nat.reduceLT, Nat.reduceEqDiff, Nat.reduceBEq, Int.reduceLE, Int.reduceToNat, reduceCtorEq, eq_self, t0, t3, t4, List.length_map, ha]
      simp (implicitDefEqProofs := false) only [↓reduceIte, go_sem, Nat.reduceAdd, Nat.reduceLT, Nat.reduceLeDiff, Nat.reduceEqDiff, Nat.reduceBEq, eq_self, t3, t4, List.length_map, vals3, hb, hx, Val.enc, f1, f2, f3, hPl]
      refine ⟨by omega, by omega, by omega, by omega, by omega, by omega, ?_⟩
      refine Rnd.cut [] _ 0 rfl rfl (by simp (implicitDefEqProofs := false) only [go_sem, eq_self]) ?_
      refine ⟨List.append_nil _, ?_⟩
      simp (implicitDefEqProofs := false) only [↓reduceIte, go_sem, Nat.reduceLT, Nat.reduceEqDiff, reduceCtorEq, eq_self, t0, hw, e2, f4, f5]
  · rintro s H' ⟨rfl, t0, t3, t4⟩
    rw [show l.take l.length = l from List.take_length] at t3
    simp (implicitDefEqProofs := false) only [↓reduceIte, go_sem, Nat.reduceAdd, Nat.reduceLT, Nat.reduceEqDiff, Nat.reduceBEq, reduceCtorEq, eq_self, t0, t3, t4, List.length_map]
    refine AEnd.ret0 ?_
    simp (implicitDefEqProofs := false) only [↓reduceIte, go_sem, Nat.reduceLT, eq_self]
end Go.Proofs.YtkapgooedfompaaGreat
namespace Go.Proofs.YtkapgooedfompaaGreat
open Go.Proofs.YtkapgooedfompaaGreatAw Go.RowKit
set_option linter.unusedVariables false
set_option linter.unusedSimpArgs false
set_option maxRecDepth 10000 in
set_option maxHeartbeats 1000000 in
theorem below_does (words : List Val) (v : Val) (nn : Bool) (H : AHeap) (hl : words.length ≤ 1000000000000) : Does Tryz.prog 17 [.d (.list nn (words.map Val.enc)), v.av] H (.ok (iA (belowP words v))) H := by
  refine Does.of_awp (hint := (fun _ => false)) Tryz.func17 (by kernel_rfl) rfl [4] (by kernel_rfl) (by decide) (by simp [Tryz.ntmps17]) ?_
  rw [Tryz.ntmps17]
  simp (implicitDefEqProofs := false) only [↓reduceIte, go_sem, Nat.reduceAdd, Nat.reduceLT, reduceCtorEq, eq_self]
  refine awp_for (fun k s H' => H' = H ++ [.box 45 3 0 1 [iA v.kind, iA v.i, sA v.s]] ∧ s 3 = .ptr H.length 0 0 0 ∧ s 5 = iA (belowP (words.take k) v) ∧ s 8 = .d (.list nn (words.map Val.enc)) ∧ s 9 = iA words.length ∧ s 10 = iA k) words.length (by omega) (Weak.refl _ _) ?_ ?_ ?_
  · refine ⟨rfl, ?_⟩
    simp (implicitDefEqProofs := false) only [↓reduceIte, go_sem, Nat.reduceLT, Nat.reduceEqDiff, eq_self]
    rfl
  · rintro k s H' hk hw ⟨rfl, t3, t5, t8, t9, t10⟩
    have hx := List.getElem?_eq_getElem hk
    have e1 := List.take_succ_eq_append_getElem hk
    have e2 := belowP_snoc (words.take k) words[k] v
    rw [← e1] at e2
    have hb := belowP_le (words.take k) v
    rw [List.length_take] at hb
    generalize words[k] = x at hx e2
    obtain ⟨n, hn⟩ : ∃ n, n = belowP (words.take k) v := ⟨_, rfl⟩
    rw [← hn] at t5 e2 hb
    simp (implicitDefEqProofs := false) only [↓reduceIte, go_sem, oread, owrite, Nat.reduceAdd, Nat.reduceLT, Nat.reduceEqDiff, eq_self, t8, t9, t10, hk, hx, Val.enc]
    simp (implicitDefEqProofs := false) only [↓reduceIte, go_sem, oread, Nat.reduceAdd, Nat.reduceLT, Nat.reduceEqDiff, eq_self, t3]
    refine KCall.ok (vcmp_does x v _) ?_
    have hw2 : IntKind.i64.wrap ((n : Int) + 1) = (n : Int) + 1 := wrap64_in _ (by omega) (by omega)
    by_cases hc : cmpV x v < 0
    · rw [if_pos hc] at e2
      simp (implicitDefEqProofs := false) only [↓reduceIte, go_sem, Nat.reduceLT, Nat.reduceEqDiff, eq_self, hc, t5, hw2, t10]
      refine Rnd.cut [.box 45 3 0 1 [iA v.kind, iA v.i, sA v.s]] [.box 45 3 0 1 [iA x.kind, iA x.i, sA x.s]] 1 rfl rfl (by simp (implicitDefEqProofs := false) only [go_sem, eq_self]) ?_
      refine ⟨rfl, ?_⟩
      simp (implicitDefEqProofs := false) only [↓reduceIte, go_sem, Nat.reduceLT, Nat.reduceEqDiff, eq_self, t3, t8, t9, hw, e2, Nat.lt_succ_self]
    · rw [if_neg hc] at e2
      simp (implicitDefEqProofs := false) only [↓reduceIte, go_sem, Nat.reduceLT, Nat.reduceEqDiff, eq_self, hc, t10]
      refine Rnd.cut [.box 45 3 0 1 [iA v.kind, iA v.i, sA v.s]] [.box 45 3 0 1 [iA x.kind, iA x.i, sA x.s]] 1 rfl rfl (by simp (implicitDefEqProofs := false) only [go_sem, eq_self]) ?_
      refine ⟨rfl, ?_⟩
      simp (implicitDefEqProofs := false) only [↓reduceIte, go_sem, Nat.reduceLT, Nat.reduceEqDiff, eq_self, t3, t5, t8, t9, hw, e2, Nat.lt_succ_self]
  · rintro s H' ⟨rfl, t3, t5, t8, t9, t10⟩
    rw [List.take_length] at t5
    simp (implicitDefEqProofs := false) only [↓reduceIte, go_sem, Nat.reduceLT, Nat.reduceEqDiff, eq_self, t5, t9, t10]
    refine AEnd.ret ?_
    simp (implicitDefEqProofs := false) only [↓reduceIte, go_sem, Nat.reduceLT, eq_self]
end Go.Proofs.YtkapgooedfompaaGreat

/- leb.Get, leb.Zag: what they do. bits.From, Left, Get, Unpack: what they do. bits.Unpack: what it does. What numbers of bytes come to: plain facts. leb.ToText: what it does. flt.Bits, val.float, val.Of: what they do. val.Of: what it does. dict.read: what it does. dict.ToCodes, dict.Of: what they do. dict.Of: what it does. What is laid down is read, and the other way round: plain facts about bytes. Zig and zag. Wrapping as a step of whole rounds. Values' bytes: what is laid down is read, and the other way round (plain). Dict's bytes: what is laid down is read, and the other way round (plain). Arguments: bytes and numbers. The law DictBack: what it does. -/
import Derived.Test.YtkapgooedfompaaM05
namespace Go.Proofs.Ytkapgooedfompaa
open Go.Proofs.YtkapgooedfompaaAw Go.RowKit
set_option linter.unusedVariables false
set_option linter.unusedSimpArgs false
abbrev eV (e : Int) : Value := .iface 28 (.int .i64 e)
/-- The box of a row of bytes. -/
def rowB (b : List Nat) : AObj := .box 97 1 0 1 [.d (.list false (bys b))]
theorem next_short (H : AHeap) (id : Nat) (ho : H[id]? = some (rowB [])) : Does Try.prog 81 [.ptr id 0 0 0] H (.panic (eV 3)) H := by
  refine Does.of_awp (hint := (fun _ => false)) Try.func81 (by kernel_rfl) rfl [2] (by kernel_rfl) (by decide) (by simp [Try.ntmps81]) ?_
  rw [Try.ntmps81]
  simp (implicitDefEqProofs := false) only [↓reduceIte, go_sem, oread, owrite, Nat.reduceAdd, Nat.reduceSub, Nat.reduceMul, Nat.reduceLT, Nat.reduceLeDiff, Nat.reduceEqDiff, Nat.reduceBEq, Int.reduceLE, Int.reduceLT, Int.reduceEq, Int.reduceNe, Int.reduceAdd, Int.reduceSub, Int.reduceMul, Int.reduceNeg, Int.reduceToNat, Int.reduceNatCast, reduceCtorEq, eq_self, ho, rowB, bys_nil]
  exact ⟨_, .refl _ _, rfl⟩
set_option maxRecDepth 10000 in
theorem next_does (H : AHeap) (id : Nat) (c : Nat) (b : List Nat) (hl : b.length < 1000000000000000) (ho : H[id]? = some (rowB (c :: b))) : Does Try.prog 81 [.ptr id 0 0 0] H (.ok (.d (.v (.int .u8 c)))) (H.set id (rowB b)) := by
  refine Does.of_awp (hint := (fun _ => false)) Try.func81 (by kernel_rfl) rfl [2] (by kernel_rfl) (by decide) (by simp [Try.ntmps81]) ?_
  rw [Try.ntmps81]
  have hne : ((b.length : Int) + 1 = 0) = False := eq_false (by omega)
  have hid : id < H.length := (List.getElem?_eq_some_iff.1 ho).1
  have hget : (bys (c :: b))[0]? = some [.v (.int .u8 c)] := rfl
  simp (implicitDefEqProofs := false) only [↓reduceIte, go_sem, oread, owrite, Nat.reduceAdd, Nat.reduceSub, Nat.reduceMul, Nat.reduceLT, Nat.reduceLeDiff, Nat.reduceEqDiff, Nat.reduceBEq, Int.reduceLE, Int.reduceLT, Int.reduceEq, Int.reduceNe, Int.reduceAdd, Int.reduceSub, Int.reduceMul, Int.reduceNeg, Int.reduceToNat, Int.reduceNatCast, reduceCtorEq, eq_self, ho, rowB, bys_len, hne, hget, Int.toNat_zero, Nat.zero_mul]
  refine awp_drawK 14 K.mixed (by kernel_rfl) (by kernel_rfl) ?_
  simp (implicitDefEqProofs := false) only [↓reduceIte, go_sem, oread, owrite, Nat.reduceAdd, Nat.reduceSub, Nat.reduceMul, Nat.reduceLT, Nat.reduceLeDiff, Nat.reduceEqDiff, Nat.reduceBEq, Int.reduceLE, Int.reduceLT, Int.reduceEq, Int.reduceNe, Int.reduceAdd, Int.reduceSub, Int.reduceMul, Int.reduceNeg, Int.reduceToNat, Int.reduceNatCast, reduceCtorEq, eq_self, ho, rowB, bys_len, bys_one]
  have hd : List.drop 1 (List.take (b.length + 1 : Int).toNat (bys (c :: b))) = bys b := by
    rw [List.take_of_length_le (by rw [bys_len, List.length_cons]; omega)]; rfl
  rw [hd]
  refine ⟨by omega, by omega, by omega, _, Weak.refl _ _, ?_⟩
  simp (implicitDefEqProofs := false) only [↓reduceIte, go_sem, oread, owrite, Nat.reduceAdd, Nat.reduceSub, Nat.reduceMul, Nat.reduceLT, Nat.reduceLeDiff, Nat.reduceEqDiff, Nat.reduceBEq, Int.reduceLE, Int.reduceLT, Int.reduceEq, Int.reduceNe, Int.reduceAdd, Int.reduceSub, Int.reduceMul, Int.reduceNeg, Int.reduceToNat, Int.reduceNatCast, reduceCtorEq, eq_self]
/-- What number reads, from place 10 - k on. -/
def numP : Nat → Nat → List Nat → Except Int Nat × List Nat
  | 0, _, b => (.error 4, b)
  | _ + 1, _, [] => (.error 3, [])
  | k + 1, acc, c :: b =>
    if (k = 0 ∧ 1 < c) ∨ (k < 9 ∧ c = 0) then (.error 4, b)
    else if c < 128 then (.ok (acc + c % 128 * 128 ^ (9 - k)), b)
    else numP k (acc + c % 128 * 128 ^ (9 - k)) b
theorem andNot128 : ∀ m : Nat, m < 256 → IntKind.u64.wrap (IntKind.u8.wrap (andNotI .u8 (m : Int) 128)) = ((m % 128 : Nat) : Int) := by decide +kernel
theorem shlN (m j : Nat) (hj : j ≤ 63) (hm : m * 2 ^ j < 18446744073709551616) : IntKind.u64.wrap (shlI .u64 (m : Int) (j : Int)) = ((m * 2 ^ j : Nat) : Int) := by
  have h1 : min j 64 = j := by omega
  have h3 : shlI .u64 (m : Int) (j : Int) = ((m * 2 ^ j : Nat) : Int) := by
    simp only [shlI, IntKind.bits, Int.toNat_natCast, h1]
    push_cast
    rfl
  rw [h3]
  exact wrapU64N _ hm
theorem orN (a m j : Nat) (ha : a < 2 ^ j) (hm : a + m * 2 ^ j < 18446744073709551616) : IntKind.u64.wrap (orI .u64 (a : Int) ((m * 2 ^ j : Nat) : Int)) = ((a + m * 2 ^ j : Nat) : Int) := by
  rw [orI_nat .u64 a (m * 2 ^ j) (by simp only [IntKind.bits]; omega) (by simp only [IntKind.bits]; omega)]
  have h4 : a ||| m * 2 ^ j = a + m * 2 ^ j := by
    rw [Nat.or_comm, Nat.mul_comm, ← Nat.two_pow_add_eq_or_of_lt ha]
    omega
  rw [h4]
  exact wrapU64N _ hm
theorem pow128 (i : Nat) : 128 ^ i = 2 ^ (7 * i) := by rw [Nat.pow_mul]
set_option maxRecDepth 10000 in
set_option maxHeartbeats 1000000 in
theorem number_does (H : AHeap) (id : Nat) (b : List Nat) (hl : b.length < 1000000000000000) (hb : ∀ c ∈ b, c < 256) (ho : H[id]? = some (rowB b)) :
    Does Try.prog 71 [.ptr id 0 0 0] H (match (numP 10 0 b).1 with | .ok n => .ok (uA n) | .error e => .panic (eV e)) (H.set id (rowB (numP 10 0 b).2)) := by
  have hid : id < H.length := (List.getElem?_eq_some_iff.1 ho).1
  have hself : H = H.set id (rowB b) := by
    apply List.ext_getElem?
    intro j
    by_cases hj : j = id
    · subst hj; rw [ho, List.getElem?_set_self hid]
    · rw [List.getElem?_set_ne (Ne.symm hj)]
  refine Does.of_awp (hint := (fun _ => false)) Try.func71 (by kernel_rfl) rfl [2] (by kernel_rfl) (by decide) (by simp [Try.ntmps71]) ?_
  rw [Try.ntmps71]
  simp (implicitDefEqProofs := false) only [↓reduceIte, go_sem, oread, owrite, Nat.reduceAdd, Nat.reduceSub, Nat.reduceMul, Nat.reduceLT, Nat.reduceLeDiff, Nat.reduceEqDiff, Nat.reduceBEq, Int.reduceLE, Int.reduceLT, Int.reduceEq, Int.reduceNe, Int.reduceAdd, Int.reduceSub, Int.reduceMul, Int.reduceNeg, Int.reduceToNat, Int.reduceNatCast, reduceCtorEq, eq_self]
  refine awp_loop _ _ _ _ (fun (x : Nat × Nat × List Nat) s H' => x.1 ≤ 10 ∧ x.2.1 < 128 ^ (10 - x.1) ∧ x.2.2.length < 1000000000000000 ∧ (∀ c ∈ x.2.2, c < 256) ∧ H' = H.set id (rowB x.2.2) ∧ numP 10 0 b = numP x.1 x.2.1 x.2.2 ∧ s 0 = .ptr id 0 0 0 ∧ s 3 = uA x.2.1 ∧ s 4 = iA ((10 - x.1 : Nat) : Int)) (fun x => x.1) (10, 0, b) (Weak.refl _ _) ?_ ?_
  · refine ⟨Nat.le_refl _, Nat.zero_lt_one, hl, hb, hself, rfl, ?_⟩
    simp (implicitDefEqProofs := false) only [↓reduceIte, go_sem, oread, owrite, Nat.reduceAdd, Nat.reduceSub, Nat.reduceMul, Nat.reduceLT, Nat.reduceLeDiff, Nat.reduceEqDiff, Nat.reduceBEq, Int.reduceLE, Int.reduceLT, Int.reduceEq, Int.reduceNe, Int.reduceAdd, Int.reduceSub, Int.reduceMul, Int.reduceNeg, Int.reduceToNat, Int.reduceNatCast, reduceCtorEq, eq_self]
  · rintro ⟨k, acc, r⟩ s H' ⟨h1, h2, h3, h4, rfl, h5, t0, t3, t4⟩
    simp only at h1 h2 h3 h4 h5 t0 t3 t4
    rw [h5]
    have hget : (H.set id (rowB r))[id]? = some (rowB r) := List.getElem?_set_self hid
    cases k with
    | zero =>
      simp (implicitDefEqProofs := false) only [↓reduceIte, go_sem, oread, owrite, Nat.reduceAdd, Nat.reduceSub, Nat.reduceMul, Nat.reduceLT, Nat.reduceLeDiff, Nat.reduceEqDiff, Nat.reduceBEq, Int.reduceLE, Int.reduceLT, Int.reduceEq, Int.reduceNe, Int.reduceAdd, Int.reduceSub, Int.reduceMul, Int.reduceNeg, Int.reduceToNat, Int.reduceNatCast, reduceCtorEq, eq_self, t0, t3, t4]
      exact ⟨_, .refl _ _, rfl⟩
    | succ k =>
      obtain ⟨i, hi⟩ : ∃ i, i = 9 - k := ⟨_, rfl⟩
      have hi2 : 10 - (k + 1) = i := by omega
      rw [hi2] at t4 h2
      have hne : ((i : Int) = 10) = False := eq_false (by omega)
      simp (implicitDefEqProofs := false) only [↓reduceIte, go_sem, oread, owrite, Nat.reduceAdd, Nat.reduceSub, Nat.reduceMul, Nat.reduceLT, Nat.reduceLeDiff, Nat.reduceEqDiff, Nat.reduceBEq, Int.reduceLE, Int.reduceLT, Int.reduceEq, Int.reduceNe, Int.reduceAdd, Int.reduceSub, Int.reduceMul, Int.reduceNeg, Int.reduceToNat, Int.reduceNatCast, reduceCtorEq, eq_self, t0, t3, t4, hne]
      cases r with
      | nil =>
        refine KCall.panic (next_short _ id hget) ?_
        simp (implicitDefEqProofs := false) only [↓reduceIte, go_sem, oread, owrite, Nat.reduceAdd, Nat.reduceSub, Nat.reduceMul, Nat.reduceLT, Nat.reduceLeDiff, Nat.reduceEqDiff, Nat.reduceBEq, Int.reduceLE, Int.reduceLT, Int.reduceEq, Int.reduceNe, Int.reduceAdd, Int.reduceSub, Int.reduceMul, Int.reduceNeg, Int.reduceToNat, Int.reduceNatCast, reduceCtorEq, eq_self]
        exact ⟨_, .refl _ _, rfl⟩
      | cons c r =>
        refine KCall.ok (next_does _ id c r (by simp at h3; omega) hget) ?_
        have hc : c < 256 := h4 c (by simp)
        by_cases hbad : (k = 0 ∧ 1 < c) ∨ (k < 9 ∧ c = 0)
        · rw [show numP (k + 1) acc (c :: r) = (.error 4, r) by simp [numP, hbad]]
          have fin : ∀ s, AEnd [2] H (ARes.panic (eV 4)) (List.set H id (rowB r)) (AX.panic (Value.iface 28 (Value.int IntKind.i64 4))) s (List.set H id (rowB r)) := fun s => ⟨_, .refl _ _, rfl⟩
          by_cases h9 : k = 0
          · have e1 : ((i : Int) = 9) = True := eq_true (by omega)
            by_cases hc1 : 1 < c
            · have e2 : (1 < (c : Int)) = True := eq_true (by omega)
              simp (implicitDefEqProofs := false) only [↓reduceIte, go_sem, oread, owrite, Nat.reduceAdd, Nat.reduceSub, Nat.reduceMul, Nat.reduceLT, Nat.reduceLeDiff, Nat.reduceEqDiff, Nat.reduceBEq, Int.reduceLE, Int.reduceLT, Int.reduceEq, Int.reduceNe, Int.reduceAdd, Int.reduceSub, Int.reduceMul, Int.reduceNeg, Int.reduceToNat, Int.reduceNatCast, reduceCtorEq, eq_self, List.set_set, t4, e1, e2]
              exact fin _
            · have e2 : (1 < (c : Int)) = False := eq_false (by omega)
              have e3 : (0 < (i : Int)) = True := eq_true (by omega)
              have e4 : ((c : Int) = 0) = True := eq_true (by omega)
              simp (implicitDefEqProofs := false) only [↓reduceIte, go_sem, oread, owrite, Nat.reduceAdd, Nat.reduceSub, Nat.reduceMul, Nat.reduceLT, Nat.reduceLeDiff, Nat.reduceEqDiff, Nat.reduceBEq, Int.reduceLE, Int.reduceLT, Int.reduceEq, Int.reduceNe, Int.reduceAdd, Int.reduceSub, Int.reduceMul, Int.reduceNeg, Int.reduceToNat, Int.reduceNatCast, reduceCtorEq, eq_self, List.set_set, t4, e1, e2, e3, e4]
              exact fin _
          · have e1 : ((i : Int) = 9) = False := eq_false (by omega)
            have e3 : (0 < (i : Int)) = True := eq_true (by omega)
            have e4 : ((c : Int) = 0) = True := eq_true (by omega)
            simp (implicitDefEqProofs := false) only [↓reduceIte, go_sem, oread, owrite, Nat.reduceAdd, Nat.reduceSub, Nat.reduceMul, Nat.reduceLT, Nat.reduceLeDiff, Nat.reduceEqDiff, Nat.reduceBEq, Int.reduceLE, Int.reduceLT, Int.reduceEq, Int.reduceNe, Int.reduceAdd, Int.reduceSub, Int.reduceMul, Int.reduceNeg, Int.reduceToNat, Int.reduceNatCast, reduceCtorEq, eq_self, List.set_set, t4, e1, e3, e4]
            exact fin _
        · have hstep : numP (k + 1) acc (c :: r) = if c < 128 then (.ok (acc + c % 128 * 128 ^ i), r) else numP k (acc + c % 128 * 128 ^ i) r := by
            rw [hi]; simp only [numP, if_neg hbad]
          rw [hstep]
          have hpart := andNot128 c hc
          obtain ⟨j, hj⟩ : ∃ j, j = 7 * i := ⟨_, rfl⟩
          have hp2 := pow128 i
          rw [← hj] at hp2
          have hm : c % 128 * 2 ^ j + 2 ^ j ≤ 18446744073709551616 := by
            by_cases h9 : k = 0
            · have : j = 63 := by omega
              subst this
              have : c ≤ 1 := by omega
              have : c % 128 ≤ 1 := by omega
              omega
            · have h56 : 2 ^ j ≤ 2 ^ 56 := Nat.pow_le_pow_right (by decide) (by omega)
              have : c % 128 < 128 := Nat.mod_lt _ (by decide)
              have : c % 128 * 2 ^ j ≤ 127 * 2 ^ j := Nat.mul_le_mul_right _ (by omega)
              omega
          rw [hp2] at h2
          rw [hp2]
          have e5 : IntKind.i64.wrap (7 * (i : Int)) = (j : Int) := by rw [wrap64_in _ (by omega) (by omega)]; omega
          have e6 : IntKind.u64.wrap (j : Int) = (j : Int) := wrapU64N _ (by omega)
          have e7 := shlN (c % 128) j (by omega) (by omega)
          have e8 := orN acc (c % 128) j h2 (by omega)
          have hA : acc + c % 128 * 2 ^ j < 2 ^ j * 128 := by
            have : c % 128 < 128 := Nat.mod_lt _ (by decide)
            have : c % 128 * 2 ^ j ≤ 127 * 2 ^ j := Nat.mul_le_mul_right _ (by omega)
            omega
          generalize c % 128 = m at *
          generalize m * 2 ^ j = P at *
          generalize acc + P = A at *
          have hw2 : IntKind.i64.wrap ((i : Int) + 1) = ((10 - k : Nat) : Int) := by rw [wrap64_in _ (by omega) (by omega)]; omega
          have fin : ∀ s, s 2 = uA A → AEnd [2] H (ARes.ok (uA A)) (List.set H id (rowB r)) AX.ret s (List.set H id (rowB r)) := fun s hs => ⟨_, .refl _ _, by simp only [ares, hs]⟩
          have nxt : ∀ s, s 0 = .ptr id 0 0 0 → s 3 = uA A → s 4 = iA ((10 - k : Nat) : Int) → ∃ s'' H'' , ∃ y : Nat × Nat × List Nat, Weak H s (List.set H id (rowB r)) s'' H'' ∧ (y.1 ≤ 10 ∧ y.2.1 < 128 ^ (10 - y.1) ∧ y.2.2.length < 1000000000000000 ∧ (∀ c ∈ y.2.2, c < 256) ∧ H'' = H.set id (rowB y.2.2) ∧ numP k A r = numP y.1 y.2.1 y.2.2 ∧ s'' 0 = .ptr id 0 0 0 ∧ s'' 3 = uA y.2.1 ∧ s'' 4 = iA ((10 - y.1 : Nat) : Int)) ∧ y.1 < k + 1 := by
            intro s g0 g3 g4
            refine ⟨s, _, (k, A, r), .refl _ _, ⟨by simp only; omega, ?_, by simp at h3; simp only; omega, fun c hc => h4 c (by simp [hc]), rfl, rfl, g0, g3, g4⟩, Nat.lt_succ_self _⟩
            show A < 128 ^ (10 - k)
            rw [show 10 - k = i + 1 by omega, Nat.pow_succ, pow128, ← hj]
            exact hA
          by_cases hlt : c < 128
          · rw [if_pos hlt]
            have hlt' : ((c : Int) < 128) = True := eq_true (by omega)
            by_cases h9 : k = 0
            · have e1 : ((i : Int) = 9) = True := eq_true (by omega)
              have e2 : (1 < (c : Int)) = False := eq_false (by omega)
              have e3 : (0 < (i : Int)) = True := eq_true (by omega)
              have e4 : ((c : Int) = 0) = False := eq_false (by omega)
              simp (implicitDefEqProofs := false) only [↓reduceIte, go_sem, oread, owrite, Nat.reduceAdd, Nat.reduceSub, Nat.reduceMul, Nat.reduceLT, Nat.reduceLeDiff, Nat.reduceEqDiff, Nat.reduceBEq, Int.reduceLE, Int.reduceLT, Int.reduceEq, Int.reduceNe, Int.reduceAdd, Int.reduceSub, Int.reduceMul, Int.reduceNeg, Int.reduceToNat, Int.reduceNatCast, reduceCtorEq, eq_self, List.set_set, t0, t3, t4, e1, e2, e3, e4, hpart, e5, e6, e7, e8, hlt', hw2]
              exact fin _ (by simp (implicitDefEqProofs := false) only [↓reduceIte, go_sem, oread, owrite, Nat.reduceAdd, Nat.reduceSub, Nat.reduceMul, Nat.reduceLT, Nat.reduceLeDiff, Nat.reduceEqDiff, Nat.reduceBEq, Int.reduceLE, Int.reduceLT, Int.reduceEq, Int.reduceNe, Int.reduceAdd, Int.reduceSub, Int.reduceMul, Int.reduceNeg, Int.reduceToNat, Int.reduceNatCast, reduceCtorEq, eq_self])
            · have e1 : ((i : Int) = 9) = False := eq_false (by omega)
              by_cases h0 : i = 0
              · have e3 : (0 < (i : Int)) = False := eq_false (by omega)
                simp (implicitDefEqProofs := false) only [↓reduceIte, go_sem, oread, owrite, Nat.reduceAdd, Nat.reduceSub, Nat.reduceMul, Nat.reduceLT, Nat.reduceLeDiff, Nat.reduceEqDiff, Nat.reduceBEq, Int.reduceLE, Int.reduceLT, Int.reduceEq, Int.reduceNe, Int.reduceAdd, Int.reduceSub, Int.reduceMul, Int.reduceNeg, Int.reduceToNat, Int.reduceNatCast, reduceCtorEq, eq_self, List.set_set, t0, t3, t4, e1, e3, hpart, e5, e6, e7, e8, hlt', hw2]
                exact fin _ (by simp (implicitDefEqProofs := false) only [↓reduceIte, go_sem, oread, owrite, Nat.reduceAdd, Nat.reduceSub, Nat.reduceMul, Nat.reduceLT, Nat.reduceLeDiff, Nat.reduceEqDiff, Nat.reduceBEq, Int.reduceLE, Int.reduceLT, Int.reduceEq, Int.reduceNe, Int.reduceAdd, Int.reduceSub, Int.reduceMul, Int.reduceNeg, Int.reduceToNat, Int.reduceNatCast, reduceCtorEq, eq_self])
              · have e3 : (0 < (i : Int)) = True := eq_true (by omega)
                have e4 : ((c : Int) = 0) = False := eq_false (by omega)
                simp (implicitDefEqProofs := false) only [↓reduceIte, go_sem, oread, owrite, Nat.reduceAdd, Nat.reduceSub, Nat.reduceMul, Nat.reduceLT, Nat.reduceLeDiff, Nat.reduceEqDiff, Nat.reduceBEq, Int.reduceLE, Int.reduceLT, Int.reduceEq, Int.reduceNe, Int.reduceAdd, Int.reduceSub, Int.reduceMul, Int.reduceNeg, Int.reduceToNat, Int.reduceNatCast, reduceCtorEq, eq_self, List.set_set, t0, t3, t4, e1, e3, e4, hpart, e5, e6, e7, e8, hlt', hw2]
                exact fin _ (by simp (implicitDefEqProofs := false) only [↓reduceIte, go_sem, oread, owrite, Nat.reduceAdd, Nat.reduceSub, Nat.reduceMul, Nat.reduceLT, Nat.reduceLeDiff, Nat.reduceEqDiff, Nat.reduceBEq, Int.reduceLE, Int.reduceLT, Int.reduceEq, Int.reduceNe, Int.reduceAdd, Int.reduceSub, Int.reduceMul, Int.reduceNeg, Int.reduceToNat, Int.reduceNatCast, reduceCtorEq, eq_self])
          · rw [if_neg hlt]
            have hlt' : ((c : Int) < 128) = False := eq_false (by omega)
            by_cases h9 : k = 0
            · have e1 : ((i : Int) = 9) = True := eq_true (by omega)
              have e2 : (1 < (c : Int)) = False := eq_false (by omega)
              have e3 : (0 < (i : Int)) = True := eq_true (by omega)
              have e4 : ((c : Int) = 0) = False := eq_false (by omega)
              simp (implicitDefEqProofs := false) only [↓reduceIte, go_sem, oread, owrite, Nat.reduceAdd, Nat.reduceSub, Nat.reduceMul, Nat.reduceLT, Nat.reduceLeDiff, Nat.reduceEqDiff, Nat.reduceBEq, Int.reduceLE, Int.reduceLT, Int.reduceEq, Int.reduceNe, Int.reduceAdd, Int.reduceSub, Int.reduceMul, Int.reduceNeg, Int.reduceToNat, Int.reduceNatCast, reduceCtorEq, eq_self, List.set_set, t0, t3, t4, e1, e2, e3, e4, hpart, e5, e6, e7, e8, hlt', hw2]
              exact nxt _ (by simp (implicitDefEqProofs := false) only [↓reduceIte, go_sem, oread, owrite, Nat.reduceAdd, Nat.reduceSub, Nat.reduceMul, Nat.reduceLT, Nat.reduceLeDiff, Nat.reduceEqDiff, Nat.reduceBEq, Int.reduceLE, Int.reduceLT, Int.reduceEq, Int.reduceNe, Int.reduceAdd, Int.reduceSub, Int.reduceMul, Int.reduceNeg, Int.reduceToNat, Int.reduceNatCast, reduceCtorEq, eq_self, t0]) (by simp (implicitDefEqProofs := false) only [↓reduceIte, go_sem, oread, owrite, Nat.reduceAdd, Nat.reduceSub, Nat.reduceMul, Nat.reduceLT, Nat.reduceLeDiff, Nat.reduceEqDiff, Nat.reduceBEq, Int.reduceLE, Int.reduceLT, Int.reduceEq, Int.reduceNe, Int.reduceAdd, Int.reduceSub, Int.reduceMul, Int.reduceNeg, Int.reduceToNat, Int.reduceNatCast, reduceCtorEq, eq_self]) (by simp (implicitDefEqProofs := false) only [↓reduceIte, go_sem, oread, owrite, Nat.reduceAdd, Nat.reduceSub, Nat.reduceMul, Nat.reduceLT, Nat.reduceLeDiff, Nat.reduceEqDiff, Nat.reduceBEq, Int.reduceLE, Int.reduceLT, Int.reduceEq, Int.reduceNe, Int.reduceAdd, Int.reduceSub, Int.reduceMul, Int.reduceNeg, Int.reduceToNat, Int.reduceNatCast, reduceCtorEq, eq_self, t4, hw2])
            · have e1 : ((i : Int) = 9) = False := eq_false (by omega)
              by_cases h0 : i = 0
              · have e3 : (0 < (i : Int)) = False := eq_false (by omega)
                simp (implicitDefEqProofs := false) only [↓reduceIte, go_sem, oread, owrite, Nat.reduceAdd, Nat.reduceSub, Nat.reduceMul, Nat.reduceLT, Nat.reduceLeDiff, Nat.reduceEqDiff, Nat.reduceBEq, Int.reduceLE, Int.reduceLT, Int.reduceEq, Int.reduceNe, Int.reduceAdd, Int.reduceSub, Int.reduceMul, Int.reduceNeg, Int.reduceToNat, Int.reduceNatCast, reduceCtorEq, eq_self, List.set_set, t0, t3, t4, e1, e3, hpart, e5, e6, e7, e8, hlt', hw2]
                exact nxt _ (by simp (implicitDefEqProofs := false) only [↓reduceIte, go_sem, oread, owrite, Nat.reduceAdd, Nat.reduceSub, Nat.reduceMul, Nat.reduceLT, Nat.reduceLeDiff, Nat.reduceEqDiff, Nat.reduceBEq, Int.reduceLE, Int.reduceLT, Int.reduceEq, Int.reduceNe, Int.reduceAdd, Int.reduceSub, Int.reduceMul, Int.reduceNeg, Int.reduceToNat, Int.reduceNatCast, reduceCtorEq, eq_self, t0]) (by simp (implicitDefEqProofs := false) only [↓reduceIte, go_sem, oread, owrite, Nat.reduceAdd, Nat.reduceSub, Nat.reduceMul, Nat.reduceLT, Nat.reduceLeDiff, Nat.reduceEqDiff, Nat.reduceBEq, Int.reduceLE, Int.reduceLT, Int.reduceEq, Int.reduceNe, Int.reduceAdd, Int.reduceSub, Int.reduceMul, Int.reduceNeg, Int.reduceToNat, Int.reduceNatCast, reduceCtorEq, eq_self]) (by simp (implicitDefEqProofs := false) only [↓reduceIte, go_sem, oread, owrite, Nat.reduceAdd, Nat.reduceSub, Nat.reduceMul, Nat.reduceLT, Nat.reduceLeDiff, Nat.reduceEqDiff, Nat.reduceBEq, Int.reduceLE, Int.reduceLT, Int.reduceEq, Int.reduceNe, Int.reduceAdd, Int.reduceSub, Int.reduceMul, Int.reduceNeg, Int.reduceToNat, Int.reduceNatCast, reduceCtorEq, eq_self, t4, hw2])
              · have e3 : (0 < (i : Int)) = True := eq_true (by omega)
                have e4 : ((c : Int) = 0) = False := eq_false (by omega)
                simp (implicitDefEqProofs := false) only [↓reduceIte, go_sem, oread, owrite, Nat.reduceAdd, Nat.reduceSub, Nat.reduceMul, Nat.reduceLT, Nat.reduceLeDiff, Nat.reduceEqDiff, Nat.reduceBEq, Int.reduceLE, Int.reduceLT, Int.reduceEq, Int.reduceNe, Int.reduceAdd, Int.reduceSub, Int.reduceMul, Int.reduceNeg, Int.reduceToNat, Int.reduceNatCast, reduceCtorEq, eq_self, List.set_set, t0, t3, t4, e1, e3, e4, hpart, e5, e6, e7, e8, hlt', hw2]
                exact nxt _ (by simp (implicitDefEqProofs := false) only [↓reduceIte, go_sem, oread, owrite, Nat.reduceAdd, Nat.reduceSub, Nat.reduceMul, Nat.reduceLT, Nat.reduceLeDiff, Nat.reduceEqDiff, Nat.reduceBEq, Int.reduceLE, Int.reduceLT, Int.reduceEq, Int.reduceNe, Int.reduceAdd, Int.reduceSub, Int.reduceMul, Int.reduceNeg, Int.reduceToNat, Int.reduceNatCast, reduceCtorEq, eq_self, t0]) (by simp (implicitDefEqProofs := false) only [↓reduceIte, go_sem, oread, owrite, Nat.reduceAdd, Nat.reduceSub, Nat.reduceMul, Nat.reduceLT, Nat.reduceLeDiff, Nat.reduceEqDiff, Nat.reduceBEq, Int.reduceLE, Int.reduceLT, Int.reduceEq, Int.reduceNe, Int.reduceAdd, Int.reduceSub, Int.reduceMul, Int.reduceNeg, Int.reduceToNat, Int.reduceNatCast, reduceCtorEq, eq_self]) (by simp (implicitDefEqProofs := false) only [↓reduceIte, go_sem, oread, owrite, Nat.reduceAdd, Nat.reduceSub, Nat.reduceMul, Nat.reduceLT, Nat.reduceLeDiff, Nat.reduceEqDiff, Nat.reduceBEq, Int.reduceLE, Int.reduceLT, Int.reduceEq, Int.reduceNe, Int.reduceAdd, Int.reduceSub, Int.reduceMul, Int.reduceNeg, Int.reduceToNat, Int.reduceNatCast, reduceCtorEq, eq_self, t4, hw2])
/-! ### saved -/
theorem saved_ret (H : AHeap) (a : AV) : DoesD Try.prog 70 [a] H .returning H .returning := by
  refine DoesD.of_awp (hint := fun _ => false) Try.func70 (by kernel_rfl) rfl ⟨_, rfl⟩ rfl rfl rfl rfl rfl (by rw [Try.ntmps70]; decide) rfl (by simp [Try.ntmps70]) .ret ?_
  rw [Try.ntmps70]
  simp (implicitDefEqProofs := false) only [↓reduceIte, go_sem, oread, owrite, Nat.reduceAdd, Nat.reduceSub, Nat.reduceMul, Nat.reduceLT, Nat.reduceLeDiff, Nat.reduceEqDiff, Nat.reduceBEq, Int.reduceLE, Int.reduceLT, Int.reduceEq, Int.reduceNe, Int.reduceAdd, Int.reduceSub, Int.reduceMul, Int.reduceNeg, Int.reduceToNat, Int.reduceNatCast, reduceCtorEq, eq_self]
  exact ⟨_, .refl _ _⟩
theorem saved_pan (H : AHeap) (id : Nat) (x : AV) (e : Int) (ho : H[id]? = some (.box 28 1 0 1 [x])) : DoesD Try.prog 70 [.ptr id 0 0 0] H (mPan (eV e)) (H.set id (.box 28 1 0 1 [iA e])) (mRec (eV e)) := by
  refine DoesD.of_awp (hint := fun _ => false) Try.func70 (by kernel_rfl) rfl ⟨_, rfl⟩ rfl rfl rfl rfl rfl (by rw [Try.ntmps70]; decide) rfl (by simp [Try.ntmps70]) (.pan _) ?_
  rw [Try.ntmps70]
  simp (implicitDefEqProofs := false) only [↓reduceIte, go_sem, oread, owrite, Nat.reduceAdd, Nat.reduceSub, Nat.reduceMul, Nat.reduceLT, Nat.reduceLeDiff, Nat.reduceEqDiff, Nat.reduceBEq, Int.reduceLE, Int.reduceLT, Int.reduceEq, Int.reduceNe, Int.reduceAdd, Int.reduceSub, Int.reduceMul, Int.reduceNeg, Int.reduceToNat, Int.reduceNatCast, reduceCtorEq, eq_self, ho]
  exact ⟨_, .refl _ _⟩
/-! ### Get -/
theorem numP_len : ∀ (k acc : Nat) (b : List Nat), (numP k acc b).2.length ≤ b.length
  | 0, _, b => Nat.le_refl _
  | _ + 1, _, [] => Nat.le_refl _
  | k + 1, acc, c :: b => by
    simp only [numP]
    split
    · simp
    · split
      · simp
      · exact Nat.le_trans (numP_len k _ b) (by simp)
def getP (b : List Nat) : Nat × Nat × Int := match numP 10 0 b with
  | (.ok n, r) => (n, b.length - r.length, 0)
  | (.error e, _) => (0, 0, e)
set_option maxRecDepth 10000 in
theorem get_does (b : List Nat) (hl : b.length < 1000000000000000) (hb : ∀ c ∈ b, c < 256) (H : AHeap) : Does Try.prog 55 [.d (.list false (bys b))] H (.ok (.tup [uA (getP b).1, iA (getP b).2.1, iA (getP b).2.2])) H := by
  refine Does.of_awpD (hint := fun _ => false) Try.func55 (by kernel_rfl) rfl [.tmp 2, .tmp 3, .cell 4 28] (by kernel_rfl) rfl rfl rfl rfl (by simp [Try.ntmps55]) ?_
  rw [Try.ntmps55]
  simp (implicitDefEqProofs := false) only [↓reduceIte, go_sem, oread, owrite, Nat.reduceAdd, Nat.reduceSub, Nat.reduceMul, Nat.reduceLT, Nat.reduceLeDiff, Nat.reduceEqDiff, Nat.reduceBEq, Int.reduceLE, Int.reduceLT, Int.reduceEq, Int.reduceNe, Int.reduceAdd, Int.reduceSub, Int.reduceMul, Int.reduceNeg, Int.reduceToNat, Int.reduceNatCast, reduceCtorEq, eq_self]
  have hd := number_does (H ++ [.box 28 1 0 1 [iA 0], rowB b]) (H.length + 1) b hl hb (by simp)
  have hset : ∀ x y z : AObj, (H ++ [x, y]).set (H.length + 1) z = H ++ [x, z] := fun x y z => by simp [List.set_append]
  have hset0 : ∀ x y z : AObj, (H ++ [x, y]).set H.length z = H ++ [z, y] := fun x y z => by simp [List.set_append]
  rw [hset] at hd
  have hg : getP b = match numP 10 0 b with
    | (.ok n, r) => (n, b.length - r.length, 0)
    | (.error e, _) => (0, 0, e) := rfl
  rcases hn : numP 10 0 b with ⟨_ | n, r⟩
  · rename_i e
    rw [hn] at hd hg
    rw [hg]
    refine KCall.panic hd ?_
    simp (implicitDefEqProofs := false) only [↓reduceIte, go_sem, oread, owrite, Nat.reduceAdd, Nat.reduceSub, Nat.reduceMul, Nat.reduceLT, Nat.reduceLeDiff, Nat.reduceEqDiff, Nat.reduceBEq, Int.reduceLE, Int.reduceLT, Int.reduceEq, Int.reduceNe, Int.reduceAdd, Int.reduceSub, Int.reduceMul, Int.reduceNeg, Int.reduceToNat, Int.reduceNatCast, reduceCtorEq, eq_self]
    refine ⟨_, saved_pan _ _ (iA 0) e (by simp), ?_⟩
    rw [hset0]
    refine AEndC.ret ?_
    simp (implicitDefEqProofs := false) only [↓reduceIte, go_sem, oread, owrite, Nat.reduceAdd, Nat.reduceSub, Nat.reduceMul, Nat.reduceLT, Nat.reduceLeDiff, Nat.reduceEqDiff, Nat.reduceBEq, Int.reduceLE, Int.reduceLT, Int.reduceEq, Int.reduceNe, Int.reduceAdd, Int.reduceSub, Int.reduceMul, Int.reduceNeg, Int.reduceToNat, Int.reduceNatCast, reduceCtorEq, eq_self, resAll, resAV]
  · rw [hn] at hd hg
    rw [hg]
    refine KCall.ok hd ?_
    simp (implicitDefEqProofs := false) only [↓reduceIte, go_sem, oread, owrite, Nat.reduceAdd, Nat.reduceSub, Nat.reduceMul, Nat.reduceLT, Nat.reduceLeDiff, Nat.reduceEqDiff, Nat.reduceBEq, Int.reduceLE, Int.reduceLT, Int.reduceEq, Int.reduceNe, Int.reduceAdd, Int.reduceSub, Int.reduceMul, Int.reduceNeg, Int.reduceToNat, Int.reduceNatCast, reduceCtorEq, eq_self, rowB]
    refine awp_drawK 7 K.mixed (by kernel_rfl) (by kernel_rfl) ?_
    have hw : IntKind.i64.wrap ((b.length : Int) - (r.length : Int)) = ((b.length - r.length : Nat) : Int) := by
      have := numP_len 10 0 b
      rw [hn] at this
      simp only at this
      rw [wrap64_in _ (by omega) (by omega)]; omega
    simp (implicitDefEqProofs := false) only [↓reduceIte, go_sem, oread, owrite, Nat.reduceAdd, Nat.reduceSub, Nat.reduceMul, Nat.reduceLT, Nat.reduceLeDiff, Nat.reduceEqDiff, Nat.reduceBEq, Int.reduceLE, Int.reduceLT, Int.reduceEq, Int.reduceNe, Int.reduceAdd, Int.reduceSub, Int.reduceMul, Int.reduceNeg, Int.reduceToNat, Int.reduceNatCast, reduceCtorEq, eq_self, bys_len, hw]
    refine ⟨_, saved_ret _ _, ?_⟩
    refine AEndC.ret ?_
    simp (implicitDefEqProofs := false) only [↓reduceIte, go_sem, oread, owrite, Nat.reduceAdd, Nat.reduceSub, Nat.reduceMul, Nat.reduceLT, Nat.reduceLeDiff, Nat.reduceEqDiff, Nat.reduceBEq, Int.reduceLE, Int.reduceLT, Int.reduceEq, Int.reduceNe, Int.reduceAdd, Int.reduceSub, Int.reduceMul, Int.reduceNeg, Int.reduceToNat, Int.reduceNatCast, reduceCtorEq, eq_self, resAll, resAV]
theorem getN_does (b : List Nat) (nn : Bool) (hl : b.length < 1000000000000000) (hb : ∀ c ∈ b, c < 256) (H : AHeap) : Does Try.prog 55 [.d (.list nn (bys b))] H (.ok (.tup [uA (getP b).1, iA (getP b).2.1, iA (getP b).2.2])) H := by
  cases nn
  · exact get_does b hl hb H
  · exact (get_does b hl hb H).sub (.cons (.nn _) .nil)
/-! ### Zag -/
def zagP (n : Nat) : Int := if n % 2 = 1 then -((n / 2 : Nat) : Int) - 1 else ((n / 2 : Nat) : Int)
theorem xorI_nat (k : IntKind) (a b : Nat) (ha : a < 2 ^ k.bits) (hb : b < 2 ^ k.bits) : xorI k (a : Int) (b : Int) = ((a ^^^ b : Nat) : Int) := by
  simp [xorI, BitVec.toNat_xor, BitVec.ofInt_natCast, Nat.mod_eq_of_lt ha, Nat.mod_eq_of_lt hb]
theorem xor_nat (a b : Nat) (ha : a < 18446744073709551616) (hb : b < 18446744073709551616) : xorI .i64 (a : Int) (b : Int) = ((a ^^^ b : Nat) : Int) := xorI_nat .i64 a b ha hb
theorem zag_eq (n : Nat) (h : n < 18446744073709551616) : IntKind.i64.wrap (xorI .i64 (IntKind.i64.wrap (shrI .u64 (n : Int) 1)) (IntKind.i64.wrap (0 - IntKind.i64.wrap (IntKind.u64.wrap (andI .u64 (n : Int) 1))))) = zagP n := by
  have s1 : shrI .u64 (n : Int) 1 = ((n / 2 : Nat) : Int) := shrU n 1 (by decide)
  have s2 : andI .u64 (n : Int) 1 = ((n % 2 : Nat) : Int) := by
    have := andI_nat .u64 n 1 (by simp only [IntKind.bits]; omega) (by decide)
    rw [Nat.and_one_is_mod] at this
    exact this
  rw [s1, s2, wrapU64N _ (by omega), wrap64_in (n / 2 : Nat) (by omega) (by omega), wrap64_in (n % 2 : Nat) (by omega) (by omega)]
  unfold zagP
  by_cases h1 : n % 2 = 1
  · rw [if_pos h1, h1]
    have e : xorI .i64 ((n / 2 : Nat) : Int) (IntKind.i64.wrap (0 - ((1 : Nat) : Int))) = xorI .i64 ((n / 2 : Nat) : Int) ((18446744073709551615 : Nat) : Int) := by
      have : BitVec.ofInt 64 (IntKind.i64.wrap (0 - ((1 : Nat) : Int))) = BitVec.ofInt 64 ((18446744073709551615 : Nat) : Int) := by decide
      simp only [xorI, IntKind.bits, this]
    rw [e, xor_nat _ _ (by omega) (by omega), Nat.xor_comm, Nat.xor_comm, xorAll _ (by omega)]
    simp only [IntKind.wrap, IntKind.signed, IntKind.bits]
    simp only [show ((2 : Int) ^ 64) = 18446744073709551616 from rfl, show ((2 : Int) ^ (64 - 1)) = 9223372036854775808 from rfl]
    simp
    split <;> omega
  · rw [if_neg h1, show n % 2 = 0 by omega]
    have e : IntKind.i64.wrap (0 - ((0 : Nat) : Int)) = ((0 : Nat) : Int) := by decide
    rw [e, xor_nat _ _ (by omega) (by omega), Nat.xor_zero]
    exact wrap64_in _ (by omega) (by omega)
set_option maxRecDepth 10000 in
theorem zag_does (n : Nat) (h : n < 18446744073709551616) (H : AHeap) : Does Try.prog 78 [uA n] H (.ok (iA (zagP n))) H := by
  refine Does.of_awp (hint := (fun _ => false)) Try.func78 (by kernel_rfl) rfl [2] (by kernel_rfl) (by decide) (by simp [Try.ntmps78]) ?_
  rw [Try.ntmps78]
  simp (implicitDefEqProofs := false) only [↓reduceIte, go_sem, oread, owrite, Nat.reduceAdd, Nat.reduceSub, Nat.reduceMul, Nat.reduceLT, Nat.reduceLeDiff, Nat.reduceEqDiff, Nat.reduceBEq, Int.reduceLE, Int.reduceLT, Int.reduceEq, Int.reduceNe, Int.reduceAdd, Int.reduceSub, Int.reduceMul, Int.reduceNeg, Int.reduceToNat, Int.reduceNatCast, reduceCtorEq, eq_self]
  refine AEnd.ret0 ?_
  simp (implicitDefEqProofs := false) only [↓reduceIte, go_sem, oread, owrite, Nat.reduceAdd, Nat.reduceSub, Nat.reduceMul, Nat.reduceLT, Nat.reduceLeDiff, Nat.reduceEqDiff, Nat.reduceBEq, Int.reduceLE, Int.reduceLT, Int.reduceEq, Int.reduceNe, Int.reduceAdd, Int.reduceSub, Int.reduceMul, Int.reduceNeg, Int.reduceToNat, Int.reduceNatCast, reduceCtorEq, eq_self, zag_eq n h]
end Go.Proofs.Ytkapgooedfompaa
namespace Go.Proofs.Ytkapgooedfompaa
open Go.Proofs.YtkapgooedfompaaAw Go.RowKit
set_option linter.unusedVariables false
set_option linter.unusedSimpArgs false
/-! ### Bits of bytes -/
def bitsB (b : List Nat) : List Bool := b.flatMap fun c => bitsN c 8
theorem bitsB_len : ∀ b : List Nat, (bitsB b).length = 8 * b.length
  | [] => rfl
  | c :: b => by
    have : bitsB (c :: b) = bitsN c 8 ++ bitsB b := rfl
    rw [this, List.length_append, bitsB_len b, bitsN_len, List.length_cons]; omega
theorem bitsB_get : ∀ (b : List Nat) (i : Nat) (c : Nat), b[i / 8]? = some c → (bitsB b)[i]? = some (c.testBit (i % 8))
  | [], i, c, h => by simp at h
  | x :: b, i, c, h => by
    have e : bitsB (x :: b) = bitsN x 8 ++ bitsB b := rfl
    rw [e]
    by_cases hi : i < 8
    · rw [show i / 8 = 0 by omega] at h
      cases h
      rw [List.getElem?_append_left (by rw [bitsN_len]; exact hi), show i % 8 = i by omega]
      simp [bitsN, hi]
    · rw [show i / 8 = (i - 8) / 8 + 1 by omega, List.getElem?_cons_succ] at h
      rw [List.getElem?_append_right (by rw [bitsN_len]; omega), bitsN_len, bitsB_get b (i - 8) c h]
      congr 2
      omega
theorem byteOf_take (L : List Bool) (k : Nat) (c : Bool) (h : L[k]? = some c) : byteOf (L.take (k + 1)) = byteOf (L.take k) + c.toNat * 2 ^ k := by
  have hk : k < L.length := (List.getElem?_eq_some_iff.1 h).1
  rw [List.take_add_one, h, Option.toList_some, byteOf_snoc, List.length_take, Nat.min_eq_left (Nat.le_of_lt hk)]
/-! ### The reader -/
def rH (G : AHeap) (b : List Nat) (at_ : Nat) (T : AHeap) : AHeap := G ++ .arr 5 1 1 (bys b) :: .box 115 2 0 1 [.sl G.length 1 0 b.length, iA at_] :: T
theorem from_does (b : List Nat) (nn : Bool) (hl : b.length ≤ 140737488351232) (H : AHeap) : Does Try.prog 72 [.d (.list nn (bys b))] H (.ok (.ptr (H.length + 1) 0 0 0)) (rH H b 0 []) := by
  generalize hE : rH H b 0 [] = E
  refine Does.of_awp (hint := (fun _ => false)) Try.func72 (by kernel_rfl) rfl [2] (by kernel_rfl) (by decide) (by simp [Try.ntmps72]) ?_
  rw [Try.ntmps72]
  simp (implicitDefEqProofs := false) only [↓reduceIte, go_sem, oread, owrite, Nat.reduceAdd, Nat.reduceSub, Nat.reduceMul, Nat.reduceLT, Nat.reduceLeDiff, Nat.reduceEqDiff, Nat.reduceBEq, Int.reduceLE, Int.reduceLT, Int.reduceEq, Int.reduceNe, Int.reduceAdd, Int.reduceSub, Int.reduceMul, Int.reduceNeg, Int.reduceToNat, Int.reduceNatCast, reduceCtorEq, eq_self, bys_one, bys_len]
  refine ⟨by omega, by omega, ?_⟩
  rw [← hE]
  refine ⟨_, Weak.refl _ _, ?_⟩
  simp (implicitDefEqProofs := false) only [↓reduceIte, go_sem, oread, owrite, Nat.reduceAdd, Nat.reduceSub, Nat.reduceMul, Nat.reduceLT, Nat.reduceLeDiff, Nat.reduceEqDiff, Nat.reduceBEq, Int.reduceLE, Int.reduceLT, Int.reduceEq, Int.reduceNe, Int.reduceAdd, Int.reduceSub, Int.reduceMul, Int.reduceNeg, Int.reduceToNat, Int.reduceNatCast, reduceCtorEq, eq_self]
theorem left_does (b : List Nat) (at_ : Nat) (hl : b.length ≤ 140737488351232) (ha : at_ ≤ 8 * b.length) (G T : AHeap) : Does Try.prog 73 [.ptr (G.length + 1) 0 0 0] (rH G b at_ T) (.ok (iA ((8 * b.length - at_ : Nat) : Int))) (rH G b at_ T) := by
  refine Does.of_awp (hint := (fun _ => false)) Try.func73 (by kernel_rfl) rfl [2] (by kernel_rfl) (by decide) (by simp [Try.ntmps73]) ?_
  rw [Try.ntmps73]
  simp (implicitDefEqProofs := false) only [↓reduceIte, go_sem, oread, owrite, Nat.reduceAdd, Nat.reduceSub, Nat.reduceMul, Nat.reduceLT, Nat.reduceLeDiff, Nat.reduceEqDiff, Nat.reduceBEq, Int.reduceLE, Int.reduceLT, Int.reduceEq, Int.reduceNe, Int.reduceAdd, Int.reduceSub, Int.reduceMul, Int.reduceNeg, Int.reduceToNat, Int.reduceNatCast, reduceCtorEq, eq_self, rH]
  refine awp_draw K.mixed (by kernel_rfl) ?_
  have h1 : IntKind.i64.wrap (8 * (b.length : Int)) = 8 * (b.length : Int) := wrap64_in _ (by omega) (by omega)
  have h2 : IntKind.i64.wrap (8 * (b.length : Int) - (at_ : Int)) = ((8 * b.length - at_ : Nat) : Int) := by rw [wrap64_in _ (by omega) (by omega)]; omega
  generalize 8 * b.length - at_ = z at *
  simp (implicitDefEqProofs := false) only [↓reduceIte, go_sem, oread, owrite, Nat.reduceAdd, Nat.reduceSub, Nat.reduceMul, Nat.reduceLT, Nat.reduceLeDiff, Nat.reduceEqDiff, Nat.reduceBEq, Int.reduceLE, Int.reduceLT, Int.reduceEq, Int.reduceNe, Int.reduceAdd, Int.reduceSub, Int.reduceMul, Int.reduceNeg, Int.reduceToNat, Int.reduceNatCast, reduceCtorEq, eq_self]
  refine ⟨_, Weak.refl _ _, ?_⟩
  simp (implicitDefEqProofs := false) only [↓reduceIte, go_sem, oread, owrite, Nat.reduceAdd, Nat.reduceSub, Nat.reduceMul, Nat.reduceLT, Nat.reduceLeDiff, Nat.reduceEqDiff, Nat.reduceBEq, Int.reduceLE, Int.reduceLT, Int.reduceEq, Int.reduceNe, Int.reduceAdd, Int.reduceSub, Int.reduceMul, Int.reduceNeg, Int.reduceToNat, Int.reduceNatCast, reduceCtorEq, eq_self, h1, h2]
theorem bitU (x : Nat) (j : Nat) (hx : x < 256) (hj : j < 8) : IntKind.u64.wrap (IntKind.u8.wrap (andI .u8 (shrI .u8 (x : Int) (j : Int)) 1)) = (((x.testBit j).toNat : Nat) : Int) := by
  have h1 : min j 8 = j := by omega
  have e : shrI .u8 (x : Int) (j : Int) = ((x / 2 ^ j : Nat) : Int) := by
    simp only [shrI, IntKind.bits, Int.toNat_natCast, h1]
    rw [Int.fdiv_eq_ediv_of_nonneg _ (by exact_mod_cast Nat.zero_le _)]
    norm_cast
  have h2 : x / 2 ^ j < 256 := Nat.lt_of_le_of_lt (Nat.div_le_self _ _) hx
  rw [e]
  have := andI_nat .u8 (x / 2 ^ j) 1 h2 (by decide)
  rw [show ((1 : Nat) : Int) = 1 from rfl] at this
  rw [this, Nat.and_one_is_mod, wrap8N _ (by omega), wrapU64N _ (by omega), Nat.testBit_eq_decide_div_mod_eq]
  rcases Nat.mod_two_eq_zero_or_one (x / 2 ^ j) with h | h <;> rw [h] <;> rfl
set_option maxRecDepth 10000 in
set_option maxHeartbeats 1000000 in
theorem rget_does (b : List Nat) (at_ w : Nat) (hl : b.length ≤ 140737488351232) (hb : ∀ c ∈ b, c < 256) (ha : at_ + w ≤ 8 * b.length) (hw : w ≤ 64) (G T : AHeap) :
    Does Try.prog 74 [.ptr (G.length + 1) 0 0 0, iA w] (rH G b at_ T) (.ok (.tup [du (byteOf (((bitsB b).drop at_).take w)), iA 0])) (rH G b (at_ + w) T) := by
  generalize hE : rH G b (at_ + w) T = E
  refine Does.of_awp (hint := (fun _ => false)) Try.func74 (by kernel_rfl) rfl [4, 5] (by kernel_rfl) (by decide) (by simp [Try.ntmps74]) ?_
  rw [Try.ntmps74]
  simp (implicitDefEqProofs := false) only [↓reduceIte, go_sem, oread, owrite, Nat.reduceAdd, Nat.reduceSub, Nat.reduceMul, Nat.reduceLT, Nat.reduceLeDiff, Nat.reduceEqDiff, Nat.reduceBEq, Int.reduceLE, Int.reduceLT, Int.reduceEq, Int.reduceNe, Int.reduceAdd, Int.reduceSub, Int.reduceMul, Int.reduceNeg, Int.reduceToNat, Int.reduceNatCast, reduceCtorEq, eq_self, rH, show ((w : Int) < 0) = False from eq_false (by omega), show ((64 : Int) < (w : Int)) = False from eq_false (by omega)]
  refine KCall.ok (left_does b at_ hl (by omega) G T) ?_
  simp (implicitDefEqProofs := false) only [↓reduceIte, go_sem, oread, owrite, Nat.reduceAdd, Nat.reduceSub, Nat.reduceMul, Nat.reduceLT, Nat.reduceLeDiff, Nat.reduceEqDiff, Nat.reduceBEq, Int.reduceLE, Int.reduceLT, Int.reduceEq, Int.reduceNe, Int.reduceAdd, Int.reduceSub, Int.reduceMul, Int.reduceNeg, Int.reduceToNat, Int.reduceNatCast, reduceCtorEq, eq_self, show (((8 * b.length - at_ : Nat) : Int) < (w : Int)) = False from eq_false (by omega)]
  refine awp_for (fun k s H' => H' = rH G b (at_ + k) T ∧ s 0 = .ptr (G.length + 1) 0 0 0 ∧ s 6 = du (byteOf (((bitsB b).drop at_).take k)) ∧ s 24 = iA w ∧ s 25 = iA k) w (by omega) (Weak.refl _ _) ?_ ?_ ?_
  · refine ⟨rfl, ?_⟩
    simp (implicitDefEqProofs := false) only [↓reduceIte, go_sem, oread, owrite, Nat.reduceAdd, Nat.reduceSub, Nat.reduceMul, Nat.reduceLT, Nat.reduceLeDiff, Nat.reduceEqDiff, Nat.reduceBEq, Int.reduceLE, Int.reduceLT, Int.reduceEq, Int.reduceNe, Int.reduceAdd, Int.reduceSub, Int.reduceMul, Int.reduceNeg, Int.reduceToNat, Int.reduceNatCast, reduceCtorEq, eq_self, List.take_zero, byteOf]
    rfl
  · rintro k s H' hk hw2 ⟨rfl, t0, t6, t24, t25⟩
    have hq : (at_ + k) / 8 < b.length := by omega
    have hm8 : (at_ + k) % 8 < 8 := Nat.mod_lt _ (by decide)
    have hx := List.getElem?_eq_getElem hq
    have hbx := bys_get b _ hq
    have hx8 := hb _ (List.getElem_mem hq)
    generalize b[(at_ + k) / 8] = x at hx hbx hx8
    have hbit := bitsB_get b _ x hx
    have ht := byteOf_take ((bitsB b).drop at_) k _ (by rw [List.getElem?_drop]; exact hbit)
    have hlt := byteOf_lt (((bitsB b).drop at_).take k)
    have hll : (((bitsB b).drop at_).take k).length = k := by rw [List.length_take, List.length_drop, bitsB_len]; omega
    rw [hll] at hlt
    have hu := bitU x _ hx8 hm8
    generalize x.testBit ((at_ + k) % 8) = c at hu ht
    generalize byteOf (((bitsB b).drop at_).take k) = n at hlt ht t6
    have hp63 : 2 ^ k ≤ 2 ^ 63 := Nat.pow_le_pow_right (by decide) (by omega)
    have hcl : c.toNat * 2 ^ k ≤ 2 ^ k := by cases c <;> simp
    have e7 := shlN c.toNat k (by omega) (by omega)
    have e8 := orN n c.toNat k hlt (by omega)
    obtain ⟨p, hp⟩ : ∃ p, p = at_ + k := ⟨_, rfl⟩
    rw [← hp] at hq hm8 hbx hu
    have hwq : IntKind.i64.wrap ((p / 8 : Nat) : Int) = ((p / 8 : Nat) : Int) := wrap64_in _ (by omega) (by omega)
    have hwm : IntKind.u64.wrap ((p % 8 : Nat) : Int) = ((p % 8 : Nat) : Int) := wrapU64N _ (by omega)
    have hwk : IntKind.u64.wrap ((k : Nat) : Int) = ((k : Nat) : Int) := wrapU64N _ (by omega)
    have hw3 : IntKind.i64.wrap ((p : Int) + 1) = ((p + 1 : Nat) : Int) := by rw [wrap64_in _ (by omega) (by omega)]; rfl
    simp only [← hp]
    rw [show at_ + (k + 1) = p + 1 by omega, ht]
    generalize c.toNat * 2 ^ k = y at *
    generalize n + y = z at *
    simp (implicitDefEqProofs := false) only [↓reduceIte, go_sem, oread, owrite, Nat.reduceAdd, Nat.reduceSub, Nat.reduceMul, Nat.reduceLT, Nat.reduceLeDiff, Nat.reduceEqDiff, Nat.reduceBEq, Int.reduceLE, Int.reduceLT, Int.reduceEq, Int.reduceNe, Int.reduceAdd, Int.reduceSub, Int.reduceMul, Int.reduceNeg, Int.reduceToNat, Int.reduceNatCast, reduceCtorEq, eq_self, rH, t0, t6, t24, t25, hk]
    refine awp_draw K.mixed (by kernel_rfl) ?_
    simp (implicitDefEqProofs := false) only [↓reduceIte, go_sem, oread, owrite, Nat.reduceAdd, Nat.reduceSub, Nat.reduceMul, Nat.reduceLT, Nat.reduceLeDiff, Nat.reduceEqDiff, Nat.reduceBEq, Int.reduceLE, Int.reduceLT, Int.reduceEq, Int.reduceNe, Int.reduceAdd, Int.reduceSub, Int.reduceMul, Int.reduceNeg, Int.reduceToNat, Int.reduceNatCast, reduceCtorEq, eq_self, rH, t0, t6, t24, t25, divI, modI, hwq, hwm, hwk, hbx, hq, hu, e7, e8]
    refine Rnd.same ⟨?_, ?_⟩
    · simp (implicitDefEqProofs := false) only [↓reduceIte, go_sem, oread, owrite, Nat.reduceAdd, Nat.reduceSub, Nat.reduceMul, Nat.reduceLT, Nat.reduceLeDiff, Nat.reduceEqDiff, Nat.reduceBEq, Int.reduceLE, Int.reduceLT, Int.reduceEq, Int.reduceNe, Int.reduceAdd, Int.reduceSub, Int.reduceMul, Int.reduceNeg, Int.reduceToNat, Int.reduceNatCast, reduceCtorEq, eq_self, hw3]
    · simp (implicitDefEqProofs := false) only [↓reduceIte, go_sem, oread, owrite, Nat.reduceAdd, Nat.reduceSub, Nat.reduceMul, Nat.reduceLT, Nat.reduceLeDiff, Nat.reduceEqDiff, Nat.reduceBEq, Int.reduceLE, Int.reduceLT, Int.reduceEq, Int.reduceNe, Int.reduceAdd, Int.reduceSub, Int.reduceMul, Int.reduceNeg, Int.reduceToNat, Int.reduceNatCast, reduceCtorEq, eq_self, t0, t24, t25, hw2]
  · rintro s H' ⟨rfl, t0, t6, t24, t25⟩
    simp (implicitDefEqProofs := false) only [↓reduceIte, go_sem, oread, owrite, Nat.reduceAdd, Nat.reduceSub, Nat.reduceMul, Nat.reduceLT, Nat.reduceLeDiff, Nat.reduceEqDiff, Nat.reduceBEq, Int.reduceLE, Int.reduceLT, Int.reduceEq, Int.reduceNe, Int.reduceAdd, Int.reduceSub, Int.reduceMul, Int.reduceNeg, Int.reduceToNat, Int.reduceNatCast, reduceCtorEq, eq_self, t6, t24, t25]
    rw [hE]
    exact ⟨_, Weak.refl _ _, by simp (implicitDefEqProofs := false) only [↓reduceIte, go_sem, oread, owrite, Nat.reduceAdd, Nat.reduceSub, Nat.reduceMul, Nat.reduceLT, Nat.reduceLeDiff, Nat.reduceEqDiff, Nat.reduceBEq, Int.reduceLE, Int.reduceLT, Int.reduceEq, Int.reduceNe, Int.reduceAdd, Int.reduceSub, Int.reduceMul, Int.reduceNeg, Int.reduceToNat, Int.reduceNatCast, reduceCtorEq, eq_self]⟩
end Go.Proofs.Ytkapgooedfompaa
namespace Go.Proofs.Ytkapgooedfompaa
open Go.Proofs.YtkapgooedfompaaAw Go.RowKit
set_option linter.unusedVariables false
set_option linter.unusedSimpArgs false
def partP (b : List Nat) (w k : Nat) : Nat := byteOf (((bitsB b).drop (k * w)).take w)
def unpackL (b : List Nat) (n w : Nat) : List Nat := (List.range n).map (partP b w)
theorem unpackL_len (b : List Nat) (n w : Nat) : (unpackL b n w).length = n := by simp [unpackL]
theorem unpackL_succ (b : List Nat) (n w : Nat) : unpackL b (n + 1) w = unpackL b n w ++ [partP b w n] := by simp [unpackL, List.range_succ]
def unpackE (b : List Nat) (n w : Nat) : Int := if 8 * b.length < n * w then 3 else if n * w + 8 ≤ 8 * b.length then 4 else if byteOf ((bitsB b).drop (n * w)) = 0 then 0 else 4
def unpackA (b : List Nat) (n w : Nat) : AV := if unpackE b n w = 0 then .d (.list false (us (unpackL b n w))) else .d (.v (.slice none 0 0))
set_option maxRecDepth 10000 in
set_option maxHeartbeats 1000000 in
theorem unpack_does (b : List Nat) (n w : Nat) (nn : Bool) (hl : b.length ≤ 140737488351232) (hb : ∀ c ∈ b, c < 256) (hn : n ≤ 1048576) (hw : w ≤ 64) (H : AHeap) :
    Does Try.prog 57 [.d (.list nn (bys b)), iA n, iA w] H (.ok (.tup [unpackA b n w, iA (unpackE b n w)])) H := by
  have hnw : n * w ≤ 1048576 * 64 := Nat.mul_le_mul hn hw
  have c1 : ((n : Int) < 0) = False := eq_false (by omega)
  have c2 : ((1048576 : Int) < (n : Int)) = False := eq_false (by omega)
  have c3 : ((w : Int) < 0) = False := eq_false (by omega)
  have c4 : ((64 : Int) < (w : Int)) = False := eq_false (by omega)
  refine Does.of_awp (hint := (fun _ => false)) Try.func57 (by kernel_rfl) rfl [6, 7] (by kernel_rfl) (by decide) (by simp [Try.ntmps57]) ?_
  rw [Try.ntmps57]
  simp (implicitDefEqProofs := false) only [↓reduceIte, go_sem, oread, owrite, Nat.reduceAdd, Nat.reduceSub, Nat.reduceMul, Nat.reduceLT, Nat.reduceLeDiff, Nat.reduceEqDiff, Nat.reduceBEq, Int.reduceLE, Int.reduceLT, Int.reduceEq, Int.reduceNe, Int.reduceAdd, Int.reduceSub, Int.reduceMul, Int.reduceNeg, Int.reduceToNat, Int.reduceNatCast, reduceCtorEq, eq_self, c1, c2, c3, c4]
  refine KCall.ok (from_does b nn hl H) ?_
  simp (implicitDefEqProofs := false) only [↓reduceIte, go_sem, oread, owrite, Nat.reduceAdd, Nat.reduceSub, Nat.reduceMul, Nat.reduceLT, Nat.reduceLeDiff, Nat.reduceEqDiff, Nat.reduceBEq, Int.reduceLE, Int.reduceLT, Int.reduceEq, Int.reduceNe, Int.reduceAdd, Int.reduceSub, Int.reduceMul, Int.reduceNeg, Int.reduceToNat, Int.reduceNatCast, reduceCtorEq, eq_self]
  refine KCall.ok (left_does b 0 hl (by omega) H []) ?_
  have e1 : IntKind.i64.wrap ((n : Int) * (w : Int)) = ((n * w : Nat) : Int) := by rw [← Int.natCast_mul]; exact wrap64_in _ (by omega) (by omega)
  obtain ⟨r, hr⟩ : ∃ r : Int, r = ((8 * b.length : Nat) : Int) - ((n * w : Nat) : Int) := ⟨_, rfl⟩
  have e2 : IntKind.i64.wrap (((8 * b.length - 0 : Nat) : Int) - ((n * w : Nat) : Int)) = r := by rw [Nat.sub_zero, hr]; exact wrap64_in _ (by omega) (by omega)
  generalize hN : n * w = N at *
  generalize hM : 8 * b.length - 0 = M at *
  simp (implicitDefEqProofs := false) only [↓reduceIte, go_sem, oread, owrite, Nat.reduceAdd, Nat.reduceSub, Nat.reduceMul, Nat.reduceLT, Nat.reduceLeDiff, Nat.reduceEqDiff, Nat.reduceBEq, Int.reduceLE, Int.reduceLT, Int.reduceEq, Int.reduceNe, Int.reduceAdd, Int.reduceSub, Int.reduceMul, Int.reduceNeg, Int.reduceToNat, Int.reduceNatCast, reduceCtorEq, eq_self, e1, e2]
  by_cases h1 : r < 0
  · have hE : unpackE b n w = 3 := by unfold unpackE; rw [hN, if_pos (by omega)]
    simp (implicitDefEqProofs := false) only [↓reduceIte, go_sem, oread, owrite, Nat.reduceAdd, Nat.reduceSub, Nat.reduceMul, Nat.reduceLT, Nat.reduceLeDiff, Nat.reduceEqDiff, Nat.reduceBEq, Int.reduceLE, Int.reduceLT, Int.reduceEq, Int.reduceNe, Int.reduceAdd, Int.reduceSub, Int.reduceMul, Int.reduceNeg, Int.reduceToNat, Int.reduceNatCast, reduceCtorEq, eq_self, h1, unpackA, hE]
    unfold rH
    refine AEnd.ret ?_
    simp (implicitDefEqProofs := false) only [↓reduceIte, go_sem, oread, owrite, Nat.reduceAdd, Nat.reduceSub, Nat.reduceMul, Nat.reduceLT, Nat.reduceLeDiff, Nat.reduceEqDiff, Nat.reduceBEq, Int.reduceLE, Int.reduceLT, Int.reduceEq, Int.reduceNe, Int.reduceAdd, Int.reduceSub, Int.reduceMul, Int.reduceNeg, Int.reduceToNat, Int.reduceNatCast, reduceCtorEq, eq_self]
    simp [unpackA, hE]
  by_cases h2 : 8 ≤ r
  · have hE : unpackE b n w = 4 := by unfold unpackE; rw [hN, if_neg (by omega), if_pos (by omega)]
    simp (implicitDefEqProofs := false) only [↓reduceIte, go_sem, oread, owrite, Nat.reduceAdd, Nat.reduceSub, Nat.reduceMul, Nat.reduceLT, Nat.reduceLeDiff, Nat.reduceEqDiff, Nat.reduceBEq, Int.reduceLE, Int.reduceLT, Int.reduceEq, Int.reduceNe, Int.reduceAdd, Int.reduceSub, Int.reduceMul, Int.reduceNeg, Int.reduceToNat, Int.reduceNatCast, reduceCtorEq, eq_self, h1, h2, unpackA, hE]
    unfold rH
    refine AEnd.ret ?_
    simp (implicitDefEqProofs := false) only [↓reduceIte, go_sem, oread, owrite, Nat.reduceAdd, Nat.reduceSub, Nat.reduceMul, Nat.reduceLT, Nat.reduceLeDiff, Nat.reduceEqDiff, Nat.reduceBEq, Int.reduceLE, Int.reduceLT, Int.reduceEq, Int.reduceNe, Int.reduceAdd, Int.reduceSub, Int.reduceMul, Int.reduceNeg, Int.reduceToNat, Int.reduceNatCast, reduceCtorEq, eq_self]
    simp [unpackA, hE]
  simp (implicitDefEqProofs := false) only [↓reduceIte, go_sem, oread, owrite, Nat.reduceAdd, Nat.reduceSub, Nat.reduceMul, Nat.reduceLT, Nat.reduceLeDiff, Nat.reduceEqDiff, Nat.reduceBEq, Int.reduceLE, Int.reduceLT, Int.reduceEq, Int.reduceNe, Int.reduceAdd, Int.reduceSub, Int.reduceMul, Int.reduceNeg, Int.reduceToNat, Int.reduceNatCast, reduceCtorEq, eq_self, h1, h2]
  refine awp_for (fun k s H' => H' = rH H b (k * w) [.arr 37 1 k (us (unpackL b k w))] ∧ s 2 = iA w ∧ s 8 = .ptr (H.length + 1) 0 0 0 ∧ s 9 = iA r ∧ s 10 = .sl (H.length + 2) k 0 k ∧ s 43 = iA n ∧ s 44 = iA k) n (by omega) (Weak.virt1 _ _ 10 37 1 (by decide) (by simp (implicitDefEqProofs := false) only [↓reduceIte, go_sem, oread, owrite, Nat.reduceAdd, Nat.reduceSub, Nat.reduceMul, Nat.reduceLT, Nat.reduceLeDiff, Nat.reduceEqDiff, Nat.reduceBEq, Int.reduceLE, Int.reduceLT, Int.reduceEq, Int.reduceNe, Int.reduceAdd, Int.reduceSub, Int.reduceMul, Int.reduceNeg, Int.reduceToNat, Int.reduceNatCast, reduceCtorEq, eq_self]) _) ?_ ?_ ?_
  · refine ⟨?_, ?_⟩
    · simp (implicitDefEqProofs := false) only [↓reduceIte, go_sem, oread, owrite, Nat.reduceAdd, Nat.reduceSub, Nat.reduceMul, Nat.reduceLT, Nat.reduceLeDiff, Nat.reduceEqDiff, Nat.reduceBEq, Int.reduceLE, Int.reduceLT, Int.reduceEq, Int.reduceNe, Int.reduceAdd, Int.reduceSub, Int.reduceMul, Int.reduceNeg, Int.reduceToNat, Int.reduceNatCast, reduceCtorEq, eq_self, rH, Nat.zero_mul]
      rfl
    · simp (implicitDefEqProofs := false) only [↓reduceIte, go_sem, oread, owrite, Nat.reduceAdd, Nat.reduceSub, Nat.reduceMul, Nat.reduceLT, Nat.reduceLeDiff, Nat.reduceEqDiff, Nat.reduceBEq, Int.reduceLE, Int.reduceLT, Int.reduceEq, Int.reduceNe, Int.reduceAdd, Int.reduceSub, Int.reduceMul, Int.reduceNeg, Int.reduceToNat, Int.reduceNatCast, reduceCtorEq, eq_self, show (rH H b 0 []).length = H.length + 2 from by simp [rH]]
  · rintro k s H' hk hw2 ⟨rfl, t2, t8, t9, t10, t43, t44⟩
    simp (implicitDefEqProofs := false) only [↓reduceIte, go_sem, oread, owrite, Nat.reduceAdd, Nat.reduceSub, Nat.reduceMul, Nat.reduceLT, Nat.reduceLeDiff, Nat.reduceEqDiff, Nat.reduceBEq, Int.reduceLE, Int.reduceLT, Int.reduceEq, Int.reduceNe, Int.reduceAdd, Int.reduceSub, Int.reduceMul, Int.reduceNeg, Int.reduceToNat, Int.reduceNatCast, reduceCtorEq, eq_self, t2, t8, t43, t44, hk]
    have hkw : k * w + w ≤ n * w := by rw [← Nat.succ_mul]; exact Nat.mul_le_mul_right _ hk
    have hL := unpackL_len b k w
    have hs : unpackL b (k + 1) w = unpackL b k w ++ [byteOf (((bitsB b).drop (k * w)).take w)] := unpackL_succ b k w
    have hkw2 : (k + 1) * w = k * w + w := Nat.succ_mul k w
    refine KCall.ok (rget_does b (k * w) w hl hb (by omega) hw H _) ?_
    rw [hs, hkw2]
    generalize byteOf (((bitsB b).drop (k * w)).take w) = x
    generalize unpackL b k w = L at *
    generalize k * w = at_ at *
    simp (implicitDefEqProofs := false) only [↓reduceIte, go_sem, oread, owrite, Nat.reduceAdd, Nat.reduceSub, Nat.reduceMul, Nat.reduceLT, Nat.reduceLeDiff, Nat.reduceEqDiff, Nat.reduceBEq, Int.reduceLE, Int.reduceLT, Int.reduceEq, Int.reduceNe, Int.reduceAdd, Int.reduceSub, Int.reduceMul, Int.reduceNeg, Int.reduceToNat, Int.reduceNatCast, reduceCtorEq, eq_self, t10, t44, rH, us_len, hL, us_snoc, List.length_singleton]
    refine ⟨by omega, by omega, Rnd.same ⟨?_, ?_⟩⟩
    · simp (implicitDefEqProofs := false) only [↓reduceIte, go_sem, oread, owrite, Nat.reduceAdd, Nat.reduceSub, Nat.reduceMul, Nat.reduceLT, Nat.reduceLeDiff, Nat.reduceEqDiff, Nat.reduceBEq, Int.reduceLE, Int.reduceLT, Int.reduceEq, Int.reduceNe, Int.reduceAdd, Int.reduceSub, Int.reduceMul, Int.reduceNeg, Int.reduceToNat, Int.reduceNatCast, reduceCtorEq, eq_self, rH]
    · simp (implicitDefEqProofs := false) only [↓reduceIte, go_sem, oread, owrite, Nat.reduceAdd, Nat.reduceSub, Nat.reduceMul, Nat.reduceLT, Nat.reduceLeDiff, Nat.reduceEqDiff, Nat.reduceBEq, Int.reduceLE, Int.reduceLT, Int.reduceEq, Int.reduceNe, Int.reduceAdd, Int.reduceSub, Int.reduceMul, Int.reduceNeg, Int.reduceToNat, Int.reduceNatCast, reduceCtorEq, eq_self, t2, t8, t9, t43, t44, hw2]
  · rintro s H' ⟨rfl, t2, t8, t9, t10, t43, t44⟩
    simp (implicitDefEqProofs := false) only [↓reduceIte, go_sem, oread, owrite, Nat.reduceAdd, Nat.reduceSub, Nat.reduceMul, Nat.reduceLT, Nat.reduceLeDiff, Nat.reduceEqDiff, Nat.reduceBEq, Int.reduceLE, Int.reduceLT, Int.reduceEq, Int.reduceNe, Int.reduceAdd, Int.reduceSub, Int.reduceMul, Int.reduceNeg, Int.reduceToNat, Int.reduceNatCast, reduceCtorEq, eq_self, t8, t9, t43, t44]
    have hr3 : r = ((8 * b.length - N : Nat) : Int) := by omega
    rw [hN, hr3]
    refine KCall.ok (rget_does b N (8 * b.length - N) hl hb (by omega) (by omega) H _) ?_
    have htk : ((bitsB b).drop N).take (8 * b.length - N) = (bitsB b).drop N := List.take_of_length_le (by rw [List.length_drop, bitsB_len]; exact Nat.le_refl _)
    rw [htk]
    by_cases h0 : byteOf ((bitsB b).drop N) = 0
    · have hE : unpackE b n w = 0 := by unfold unpackE; rw [hN, if_neg (by omega), if_neg (by omega), if_pos h0]
      rw [h0]
      simp (implicitDefEqProofs := false) only [↓reduceIte, go_sem, oread, owrite, Nat.reduceAdd, Nat.reduceSub, Nat.reduceMul, Nat.reduceLT, Nat.reduceLeDiff, Nat.reduceEqDiff, Nat.reduceBEq, Int.reduceLE, Int.reduceLT, Int.reduceEq, Int.reduceNe, Int.reduceAdd, Int.reduceSub, Int.reduceMul, Int.reduceNeg, Int.reduceToNat, Int.reduceNatCast, reduceCtorEq, eq_self, t10]
      unfold rH
      refine AEnd.ret ?_
      simp (implicitDefEqProofs := false) only [↓reduceIte, go_sem, oread, owrite, Nat.reduceAdd, Nat.reduceSub, Nat.reduceMul, Nat.reduceLT, Nat.reduceLeDiff, Nat.reduceEqDiff, Nat.reduceBEq, Int.reduceLE, Int.reduceLT, Int.reduceEq, Int.reduceNe, Int.reduceAdd, Int.reduceSub, Int.reduceMul, Int.reduceNeg, Int.reduceToNat, Int.reduceNatCast, reduceCtorEq, eq_self, us_len, unpackL_len]
      rw [show (us (unpackL b n w)).take n = us (unpackL b n w) from take_len _ _ (by rw [us_len, unpackL_len])]
      simp [unpackA, hE]
    · have hE : unpackE b n w = 4 := by unfold unpackE; rw [hN, if_neg (by omega), if_neg (by omega), if_neg h0]
      have h0' : (((byteOf ((bitsB b).drop N) : Nat) : Int) = 0) = False := eq_false (by omega)
      simp (implicitDefEqProofs := false) only [↓reduceIte, go_sem, oread, owrite, Nat.reduceAdd, Nat.reduceSub, Nat.reduceMul, Nat.reduceLT, Nat.reduceLeDiff, Nat.reduceEqDiff, Nat.reduceBEq, Int.reduceLE, Int.reduceLT, Int.reduceEq, Int.reduceNe, Int.reduceAdd, Int.reduceSub, Int.reduceMul, Int.reduceNeg, Int.reduceToNat, Int.reduceNatCast, reduceCtorEq, eq_self, h0']
      unfold rH
      refine AEnd.ret ?_
      simp (implicitDefEqProofs := false) only [↓reduceIte, go_sem, oread, owrite, Nat.reduceAdd, Nat.reduceSub, Nat.reduceMul, Nat.reduceLT, Nat.reduceLeDiff, Nat.reduceEqDiff, Nat.reduceBEq, Int.reduceLE, Int.reduceLT, Int.reduceEq, Int.reduceNe, Int.reduceAdd, Int.reduceSub, Int.reduceMul, Int.reduceNeg, Int.reduceToNat, Int.reduceNatCast, reduceCtorEq, eq_self]
      simp [unpackA, hE]
end Go.Proofs.Ytkapgooedfompaa
namespace Go.Proofs.Ytkapgooedfompaa
open Go.Proofs.YtkapgooedfompaaAw Go.RowKit
set_option linter.unusedVariables false
set_option linter.unusedSimpArgs false
theorem getP_le (b : List Nat) : (getP b).2.1 ≤ b.length := by
  unfold getP
  split <;> simp
theorem numP_lt : ∀ (k acc : Nat) (b : List Nat) (n : Nat), acc < 128 ^ (10 - k) → k ≤ 10 → (numP k acc b).1 = .ok n → n < 18446744073709551616
  | 0, _, _, _, _, _, h => by simp [numP] at h
  | _ + 1, _, [], _, _, _, h => by simp [numP] at h
  | k + 1, acc, c :: b, n, ha, hk, h => by
    have hm : c % 128 < 128 := Nat.mod_lt _ (by decide)
    have hi : 10 - (k + 1) = 9 - k := by omega
    rw [hi] at ha
    have hA : acc + c % 128 * 128 ^ (9 - k) < 128 ^ (9 - k) * 128 := by
      have : c % 128 * 128 ^ (9 - k) ≤ 127 * 128 ^ (9 - k) := Nat.mul_le_mul_right _ (by omega)
      omega
    simp only [numP] at h
    split at h
    · cases h
    · rename_i hbad
      split at h
      · cases h
        by_cases h0 : k = 0
        · subst h0
          have hc : c % 128 ≤ 1 := by omega
          have h2 : c % 128 * 128 ^ 9 ≤ 1 * 128 ^ 9 := Nat.mul_le_mul_right _ hc
          simp only [Nat.sub_zero] at ha ⊢
          omega
        · have h9 : 128 ^ (9 - k) ≤ 128 ^ 8 := Nat.pow_le_pow_right (by decide) (by omega)
          omega
      · by_cases h0 : k = 0
        · subst h0; simp [numP] at h
        · refine numP_lt k _ b n ?_ (by omega) h
          rw [show 10 - k = (9 - k) + 1 by omega, Nat.pow_succ]
          exact hA
theorem getP_lt (b : List Nat) : (getP b).1 < 18446744073709551616 := by
  unfold getP
  split
  · rename_i n r h
    exact numP_lt 10 0 b n (by decide) (Nat.le_refl _) (by rw [h])
  · exact (by decide : (0 : Nat) < 18446744073709551616)
theorem unpackL_lt (b : List Nat) (n w : Nat) (hw : w ≤ 64) : ∀ x ∈ unpackL b n w, x < 18446744073709551616 := by
  intro x hx
  obtain ⟨k, _, rfl⟩ := List.mem_map.1 hx
  have h1 := byteOf_lt (((bitsB b).drop (k * w)).take w)
  have h2 : 2 ^ (((bitsB b).drop (k * w)).take w).length ≤ 2 ^ 64 := Nat.pow_le_pow_right (by decide) (by simp; omega)
  unfold partP
  omega
end Go.Proofs.Ytkapgooedfompaa
namespace Go.Proofs.Ytkapgooedfompaa
open Go.Proofs.YtkapgooedfompaaAw Go.RowKit
set_option linter.unusedVariables false
set_option linter.unusedSimpArgs false
def toTextP (b : List Nat) (most : Nat) : List Nat × List Nat × Int := match numP 10 0 b with
  | (.ok n, r) => if most < n then ([], [], 2) else if r.length < n then ([], [], 3) else (r.take n, r.drop n, 0)
  | (.error e, _) => ([], [], e)
theorem bstr_nil : bstr [] = ⟨#[]⟩ := rfl
theorem numP_suffix : ∀ (k acc : Nat) (b : List Nat), ∃ j, (numP k acc b).2 = b.drop j
  | 0, _, b => ⟨0, rfl⟩
  | _ + 1, _, [] => ⟨0, rfl⟩
  | k + 1, acc, c :: b => by
    unfold numP
    split
    · exact ⟨1, rfl⟩
    · split
      · exact ⟨1, rfl⟩
      · obtain ⟨j, h⟩ := numP_suffix k (acc + c % 128 * 128 ^ (9 - k)) b
        exact ⟨j + 1, h⟩
set_option maxRecDepth 10000 in
set_option maxHeartbeats 2000000 in
theorem toText_does (b : List Nat) (most : Nat) (hmo : most ≤ 1000000) (hl : b.length ≤ 140737488351232) (hb : ∀ c ∈ b, c < 256) (H : AHeap) :
    Does Try.prog 80 [.d (.list false (bys b)), iA most] H (.ok (.tup [sA (bstr (toTextP b most).1), .d (.list false (bys (toTextP b most).2.1)), iA (toTextP b most).2.2])) H := by
  have hd := number_does (H ++ [.box 28 1 0 1 [iA 0], rowB b]) (H.length + 1) b (by omega) hb (by simp)
  have hset : ∀ x y z : AObj, (H ++ [x, y]).set (H.length + 1) z = H ++ [x, z] := fun x y z => by simp [List.set_append]
  have hset0 : ∀ x y z : AObj, (H ++ [x, y]).set H.length z = H ++ [z, y] := fun x y z => by simp [List.set_append]
  rw [hset] at hd
  have hg : toTextP b most = match numP 10 0 b with
    | (.ok n, r) => if most < n then ([], [], 2) else if r.length < n then ([], [], 3) else (r.take n, r.drop n, 0)
    | (.error e, _) => ([], [], e) := rfl
  have hnl : ∀ n, (numP 10 0 b).1 = .ok n → n < 18446744073709551616 := fun n h => numP_lt 10 0 b n (by decide) (Nat.le_refl _) h
  obtain ⟨j, hsuf⟩ := numP_suffix 10 0 b
  rcases hn : numP 10 0 b with ⟨_ | n, r⟩
  · rename_i e
    rw [hn] at hd hg
    rw [hg]
    refine Does.subT (cs := [sA ⟨#[]⟩, .d (.v (.slice none 0 0)), iA e]) ?_ (.cons (.refl _) (.cons .nil (.cons (.refl _) .nil)))
    refine Does.of_awpD (hint := fun _ => false) Try.func80 (by kernel_rfl) rfl [.tmp 4, .tmp 5, .cell 6 28] (by kernel_rfl) rfl rfl rfl rfl (by simp [Try.ntmps80]) ?_
    rw [Try.ntmps80]
    simp (implicitDefEqProofs := false) only [↓reduceIte, go_sem, oread, owrite, Nat.reduceAdd, Nat.reduceSub, Nat.reduceMul, Nat.reduceLT, Nat.reduceLeDiff, Nat.reduceEqDiff, Nat.reduceBEq, Int.reduceLE, Int.reduceLT, Int.reduceEq, Int.reduceNe, Int.reduceAdd, Int.reduceSub, Int.reduceMul, Int.reduceNeg, Int.reduceToNat, Int.reduceNatCast, reduceCtorEq, eq_self]
    refine KCall.panic hd ?_
    simp (implicitDefEqProofs := false) only [↓reduceIte, go_sem, oread, owrite, Nat.reduceAdd, Nat.reduceSub, Nat.reduceMul, Nat.reduceLT, Nat.reduceLeDiff, Nat.reduceEqDiff, Nat.reduceBEq, Int.reduceLE, Int.reduceLT, Int.reduceEq, Int.reduceNe, Int.reduceAdd, Int.reduceSub, Int.reduceMul, Int.reduceNeg, Int.reduceToNat, Int.reduceNatCast, reduceCtorEq, eq_self]
    refine ⟨_, saved_pan _ _ (iA 0) e (by simp), ?_⟩
    rw [hset0]
    refine AEndC.ret ?_
    simp (implicitDefEqProofs := false) only [↓reduceIte, go_sem, oread, owrite, Nat.reduceAdd, Nat.reduceSub, Nat.reduceMul, Nat.reduceLT, Nat.reduceLeDiff, Nat.reduceEqDiff, Nat.reduceBEq, Int.reduceLE, Int.reduceLT, Int.reduceEq, Int.reduceNe, Int.reduceAdd, Int.reduceSub, Int.reduceMul, Int.reduceNeg, Int.reduceToNat, Int.reduceNatCast, reduceCtorEq, eq_self, resAll, resAV]
  · rw [hn] at hd hg hsuf
    have hnn := hnl n (by rw [hn])
    simp only at hsuf
    have hrl : r.length ≤ 140737488351232 := by rw [hsuf, List.length_drop]; omega
    have wm : IntKind.u64.wrap (most : Int) = (most : Int) := wrapU64N _ (by omega)
    have wr : IntKind.u64.wrap (r.length : Int) = (r.length : Int) := wrapU64N _ (by omega)
    have c0 : ((most : Int) < 0) = False := eq_false (by omega)
    have hr : toTextP b most = if most < n then ([], [], 2) else if r.length < n then ([], [], 3) else (r.take n, r.drop n, 0) := hg
    rw [hr]
    by_cases h1 : most < n
    · rw [if_pos h1]
      refine Does.subT (cs := [sA ⟨#[]⟩, .d (.v (.slice none 0 0)), iA 2]) ?_ (.cons (.refl _) (.cons .nil (.cons (.refl _) .nil)))
      refine Does.of_awpD (hint := fun _ => false) Try.func80 (by kernel_rfl) rfl [.tmp 4, .tmp 5, .cell 6 28] (by kernel_rfl) rfl rfl rfl rfl (by simp [Try.ntmps80]) ?_
      rw [Try.ntmps80]
      simp (implicitDefEqProofs := false) only [↓reduceIte, go_sem, oread, owrite, Nat.reduceAdd, Nat.reduceSub, Nat.reduceMul, Nat.reduceLT, Nat.reduceLeDiff, Nat.reduceEqDiff, Nat.reduceBEq, Int.reduceLE, Int.reduceLT, Int.reduceEq, Int.reduceNe, Int.reduceAdd, Int.reduceSub, Int.reduceMul, Int.reduceNeg, Int.reduceToNat, Int.reduceNatCast, reduceCtorEq, eq_self]
      refine KCall.ok hd ?_
      simp (implicitDefEqProofs := false) only [↓reduceIte, go_sem, oread, owrite, Nat.reduceAdd, Nat.reduceSub, Nat.reduceMul, Nat.reduceLT, Nat.reduceLeDiff, Nat.reduceEqDiff, Nat.reduceBEq, Int.reduceLE, Int.reduceLT, Int.reduceEq, Int.reduceNe, Int.reduceAdd, Int.reduceSub, Int.reduceMul, Int.reduceNeg, Int.reduceToNat, Int.reduceNatCast, reduceCtorEq, eq_self, rowB, c0, wm, show ((most : Int) < (n : Int)) = True from eq_true (by omega)]
      refine ⟨_, saved_pan _ _ (iA 0) 2 (by simp), ?_⟩
      rw [hset0]
      refine AEndC.ret ?_
      simp (implicitDefEqProofs := false) only [↓reduceIte, go_sem, oread, owrite, Nat.reduceAdd, Nat.reduceSub, Nat.reduceMul, Nat.reduceLT, Nat.reduceLeDiff, Nat.reduceEqDiff, Nat.reduceBEq, Int.reduceLE, Int.reduceLT, Int.reduceEq, Int.reduceNe, Int.reduceAdd, Int.reduceSub, Int.reduceMul, Int.reduceNeg, Int.reduceToNat, Int.reduceNatCast, reduceCtorEq, eq_self, resAll, resAV]
    rw [if_neg h1]
    by_cases h2 : r.length < n
    · rw [if_pos h2]
      refine Does.subT (cs := [sA ⟨#[]⟩, .d (.v (.slice none 0 0)), iA 3]) ?_ (.cons (.refl _) (.cons .nil (.cons (.refl _) .nil)))
      refine Does.of_awpD (hint := fun _ => false) Try.func80 (by kernel_rfl) rfl [.tmp 4, .tmp 5, .cell 6 28] (by kernel_rfl) rfl rfl rfl rfl (by simp [Try.ntmps80]) ?_
      rw [Try.ntmps80]
      simp (implicitDefEqProofs := false) only [↓reduceIte, go_sem, oread, owrite, Nat.reduceAdd, Nat.reduceSub, Nat.reduceMul, Nat.reduceLT, Nat.reduceLeDiff, Nat.reduceEqDiff, Nat.reduceBEq, Int.reduceLE, Int.reduceLT, Int.reduceEq, Int.reduceNe, Int.reduceAdd, Int.reduceSub, Int.reduceMul, Int.reduceNeg, Int.reduceToNat, Int.reduceNatCast, reduceCtorEq, eq_self]
      refine KCall.ok hd ?_
      simp (implicitDefEqProofs := false) only [↓reduceIte, go_sem, oread, owrite, Nat.reduceAdd, Nat.reduceSub, Nat.reduceMul, Nat.reduceLT, Nat.reduceLeDiff, Nat.reduceEqDiff, Nat.reduceBEq, Int.reduceLE, Int.reduceLT, Int.reduceEq, Int.reduceNe, Int.reduceAdd, Int.reduceSub, Int.reduceMul, Int.reduceNeg, Int.reduceToNat, Int.reduceNatCast, reduceCtorEq, eq_self, rowB, c0, wm, wr, bys_len, show ((most : Int) < (n : Int)) = False from eq_false (by omega), show ((r.length : Int) < (n : Int)) = True from eq_true (by omega)]
      refine ⟨_, saved_pan _ _ (iA 0) 3 (by simp), ?_⟩
      rw [hset0]
      refine AEndC.ret ?_
      simp (implicitDefEqProofs := false) only [↓reduceIte, go_sem, oread, owrite, Nat.reduceAdd, Nat.reduceSub, Nat.reduceMul, Nat.reduceLT, Nat.reduceLeDiff, Nat.reduceEqDiff, Nat.reduceBEq, Int.reduceLE, Int.reduceLT, Int.reduceEq, Int.reduceNe, Int.reduceAdd, Int.reduceSub, Int.reduceMul, Int.reduceNeg, Int.reduceToNat, Int.reduceNatCast, reduceCtorEq, eq_self, resAll, resAV]
    rw [if_neg h2]
    have wn : IntKind.i64.wrap (n : Int) = (n : Int) := wrap64_in _ (by omega) (by omega)
    have hnr : n ≤ r.length := by omega
    have hrt : (bys r).take n = bys (r.take n) := take_bys r n
    have hrt2 : (bys r).take r.length = bys r := List.take_of_length_le (by rw [bys_len]; exact Nat.le_refl _)
    have hdl : (r.drop n).length = r.length - n := List.length_drop
    refine Does.of_awpD (hint := fun _ => false) Try.func80 (by kernel_rfl) rfl [.tmp 4, .tmp 5, .cell 6 28] (by kernel_rfl) rfl rfl rfl rfl (by simp [Try.ntmps80]) ?_
    rw [Try.ntmps80]
    simp (implicitDefEqProofs := false) only [↓reduceIte, go_sem, oread, owrite, Nat.reduceAdd, Nat.reduceSub, Nat.reduceMul, Nat.reduceLT, Nat.reduceLeDiff, Nat.reduceEqDiff, Nat.reduceBEq, Int.reduceLE, Int.reduceLT, Int.reduceEq, Int.reduceNe, Int.reduceAdd, Int.reduceSub, Int.reduceMul, Int.reduceNeg, Int.reduceToNat, Int.reduceNatCast, reduceCtorEq, eq_self]
    refine KCall.ok hd ?_
    simp (implicitDefEqProofs := false) only [↓reduceIte, go_sem, oread, owrite, Nat.reduceAdd, Nat.reduceSub, Nat.reduceMul, Nat.reduceLT, Nat.reduceLeDiff, Nat.reduceEqDiff, Nat.reduceBEq, Int.reduceLE, Int.reduceLT, Int.reduceEq, Int.reduceNe, Int.reduceAdd, Int.reduceSub, Int.reduceMul, Int.reduceNeg, Int.reduceToNat, Int.reduceNatCast, reduceCtorEq, eq_self, rowB, c0, wm, wr, bys_len, show ((most : Int) < (n : Int)) = False from eq_false (by omega), show ((r.length : Int) < (n : Int)) = False from eq_false (by omega)]
    refine awp_drawM [false, false, false, false, false, false, false, false, true] K.mixed (by kernel_rfl) (by kernel_rfl) (by kernel_rfl) ?_
    simp (implicitDefEqProofs := false) only [↓reduceIte, go_sem, oread, owrite, Nat.reduceAdd, Nat.reduceSub, Nat.reduceMul, Nat.reduceLT, Nat.reduceLeDiff, Nat.reduceEqDiff, Nat.reduceBEq, Int.reduceLE, Int.reduceLT, Int.reduceEq, Int.reduceNe, Int.reduceAdd, Int.reduceSub, Int.reduceMul, Int.reduceNeg, Int.reduceToNat, Int.reduceNatCast, reduceCtorEq, eq_self, bys_len, bys_one, hnr, hrt, asBytes_bys, wn, drop_bys, hrt2]
    have hext : ∀ x y z : AObj, Ext (H ++ [x, y]) (H ++ [x, y, z]) := fun x y z => by have := Ext.app (H ++ [x, y]) [z]; rwa [List.append_assoc] at this
    refine ⟨by omega, by omega, hext _ _ _, ?_⟩
    refine ⟨_, saved_ret _ _, ?_⟩
    refine AEndC.ret ?_
    simp (implicitDefEqProofs := false) only [↓reduceIte, go_sem, oread, owrite, Nat.reduceAdd, Nat.reduceSub, Nat.reduceMul, Nat.reduceLT, Nat.reduceLeDiff, Nat.reduceEqDiff, Nat.reduceBEq, Int.reduceLE, Int.reduceLT, Int.reduceEq, Int.reduceNe, Int.reduceAdd, Int.reduceSub, Int.reduceMul, Int.reduceNeg, Int.reduceToNat, Int.reduceNatCast, reduceCtorEq, eq_self, resAll, resAV, bstr_eq, List.take_of_length_le (Nat.le_of_eq (bys_len (r.drop n)))]
end Go.Proofs.Ytkapgooedfompaa
namespace Go.Proofs.Ytkapgooedfompaa
open Go.Proofs.YtkapgooedfompaaAw Go.RowKit
set_option linter.unusedVariables false
set_option linter.unusedSimpArgs false
/-- The number of a key. -/
def ubitsP (k : Nat) : Nat := if 9223372036854775808 ≤ k then cleanN (k - 9223372036854775808) else cleanN (18446744073709551615 - k)
theorem andNotTop (k : Nat) (hk : k < 18446744073709551616) (h : 9223372036854775808 ≤ k) : IntKind.u64.wrap (andNotI .u64 (k : Int) 9223372036854775808) = ((k - 9223372036854775808 : Nat) : Int) := by
  have h2 : (~~~BitVec.ofInt 64 9223372036854775808) = BitVec.ofNat 64 (2 ^ 63 - 1) := by decide
  have h3 : andNotI .u64 (k : Int) 9223372036854775808 = ((k - 9223372036854775808 : Nat) : Int) := by
    unfold andNotI
    show (((BitVec.ofInt 64 (k : Int) &&& ~~~BitVec.ofInt 64 9223372036854775808).toNat : Nat) : Int) = _
    rw [h2, BitVec.toNat_and, BitVec.ofInt_natCast, BitVec.toNat_ofNat, BitVec.toNat_ofNat, Nat.mod_eq_of_lt hk, Nat.mod_eq_of_lt (by decide), Nat.and_two_pow_sub_one_eq_mod]
    omega
  rw [h3]
  exact wrapU64N _ (by omega)
set_option maxRecDepth 10000 in
theorem fbits_does (k : Nat) (hk : k < 18446744073709551616) (H : AHeap) : Does Try.prog 83 [du k] H (.ok (du (ubitsP k))) H := by
  unfold ubitsP
  refine Does.of_awp (hint := (fun _ => false)) Try.func83 (by kernel_rfl) rfl [2] (by kernel_rfl) (by decide) (by simp [Try.ntmps83]) ?_
  rw [Try.ntmps83]
  by_cases h : 9223372036854775808 ≤ k
  · rw [if_pos h]
    simp (implicitDefEqProofs := false) only [↓reduceIte, go_sem, oread, owrite, Nat.reduceAdd, Nat.reduceSub, Nat.reduceMul, Nat.reduceLT, Nat.reduceLeDiff, Nat.reduceEqDiff, Nat.reduceBEq, Int.reduceLE, Int.reduceLT, Int.reduceEq, Int.reduceNe, Int.reduceAdd, Int.reduceSub, Int.reduceMul, Int.reduceNeg, Int.reduceToNat, Int.reduceNatCast, reduceCtorEq, eq_self, show ((9223372036854775808 : Int) ≤ (k : Int)) = True from eq_true (by omega), andNotTop k hk h]
    refine KCall.ok (fclean_does _ (by omega) _) ?_
    simp (implicitDefEqProofs := false) only [↓reduceIte, go_sem, oread, owrite, Nat.reduceAdd, Nat.reduceSub, Nat.reduceMul, Nat.reduceLT, Nat.reduceLeDiff, Nat.reduceEqDiff, Nat.reduceBEq, Int.reduceLE, Int.reduceLT, Int.reduceEq, Int.reduceNe, Int.reduceAdd, Int.reduceSub, Int.reduceMul, Int.reduceNeg, Int.reduceToNat, Int.reduceNatCast, reduceCtorEq, eq_self]
    refine AEnd.ret0 ?_
    simp (implicitDefEqProofs := false) only [↓reduceIte, go_sem, oread, owrite, Nat.reduceAdd, Nat.reduceSub, Nat.reduceMul, Nat.reduceLT, Nat.reduceLeDiff, Nat.reduceEqDiff, Nat.reduceBEq, Int.reduceLE, Int.reduceLT, Int.reduceEq, Int.reduceNe, Int.reduceAdd, Int.reduceSub, Int.reduceMul, Int.reduceNeg, Int.reduceToNat, Int.reduceNatCast, reduceCtorEq, eq_self]
  · rw [if_neg h]
    simp (implicitDefEqProofs := false) only [↓reduceIte, go_sem, oread, owrite, Nat.reduceAdd, Nat.reduceSub, Nat.reduceMul, Nat.reduceLT, Nat.reduceLeDiff, Nat.reduceEqDiff, Nat.reduceBEq, Int.reduceLE, Int.reduceLT, Int.reduceEq, Int.reduceNe, Int.reduceAdd, Int.reduceSub, Int.reduceMul, Int.reduceNeg, Int.reduceToNat, Int.reduceNatCast, reduceCtorEq, eq_self, show ((9223372036854775808 : Int) ≤ (k : Int)) = False from eq_false (by omega), notU k hk]
    refine KCall.ok (fclean_does _ (by omega) _) ?_
    simp (implicitDefEqProofs := false) only [↓reduceIte, go_sem, oread, owrite, Nat.reduceAdd, Nat.reduceSub, Nat.reduceMul, Nat.reduceLT, Nat.reduceLeDiff, Nat.reduceEqDiff, Nat.reduceBEq, Int.reduceLE, Int.reduceLT, Int.reduceEq, Int.reduceNe, Int.reduceAdd, Int.reduceSub, Int.reduceMul, Int.reduceNeg, Int.reduceToNat, Int.reduceNatCast, reduceCtorEq, eq_self]
    refine AEnd.ret0 ?_
    simp (implicitDefEqProofs := false) only [↓reduceIte, go_sem, oread, owrite, Nat.reduceAdd, Nat.reduceSub, Nat.reduceMul, Nat.reduceLT, Nat.reduceLeDiff, Nat.reduceEqDiff, Nat.reduceBEq, Int.reduceLE, Int.reduceLT, Int.reduceEq, Int.reduceNe, Int.reduceAdd, Int.reduceSub, Int.reduceMul, Int.reduceNeg, Int.reduceToNat, Int.reduceNatCast, reduceCtorEq, eq_self]
theorem ubitsP_lt {k : Nat} (hk : k < 18446744073709551616) : ubitsP k < 18446744073709551616 := by
  unfold ubitsP
  split <;> exact cleanN_lt _ (by omega)
/-- What bytes come to, the greatest first. -/
def beN (l : List Nat) : Nat := l.foldl (fun a c => a * 256 + c) 0
theorem beN_snoc (l : List Nat) (c : Nat) : beN (l ++ [c]) = beN l * 256 + c := by simp [beN]
theorem beN_lt : ∀ (k : Nat) (l : List Nat), l.length = k → (∀ c ∈ l, c < 256) → beN l < 256 ^ k := by
  intro k
  induction k with
  | zero => intro l h _; rw [List.length_eq_zero_iff.1 h]; exact Nat.one_pos
  | succ k ih =>
    intro l h hc
    have hne : l ≠ [] := fun e => by rw [e] at h; simp at h
    rw [← List.dropLast_concat_getLast hne, beN_snoc, Nat.pow_succ]
    have h1 := ih l.dropLast (by simp [h]) fun c hm => hc c (List.dropLast_subset l hm)
    have h2 := hc _ (List.getLast_mem hne)
    omega
theorem shlOr (m c : Nat) (hc : c < 256) (hm : m * 256 + c < 18446744073709551616) : IntKind.u64.wrap (orI .u64 (IntKind.u64.wrap (shlI .u64 (m : Int) 8)) (c : Int)) = ((m * 256 + c : Nat) : Int) := by
  have e8 : (2 : Nat) ^ 8 = 256 := rfl
  have hm2 : m * 256 < 18446744073709551616 := Nat.lt_of_le_of_lt (Nat.le_add_right _ c) hm
  have hc2 : c < 18446744073709551616 := Nat.lt_of_le_of_lt (Nat.le_add_left c _) hm
  have h1 := shlN m 8 (by decide) hm2
  have p64 : (2 : Nat) ^ IntKind.u64.bits = 18446744073709551616 := by decide
  have h4 : m * 256 ||| c = m * 256 + c := by
    have := Nat.two_pow_add_eq_or_of_lt (i := 8) (b := c) (by rw [e8]; exact hc) m
    rw [e8, Nat.mul_comm] at this
    exact this.symm
  rw [e8] at h1
  rw [show ((8 : Nat) : Int) = 8 from rfl] at h1
  rw [h1, orI_nat .u64 (m * 256) c (Nat.lt_of_lt_of_eq hm2 p64.symm) (Nat.lt_of_lt_of_eq hc2 p64.symm), h4]
  exact wrapU64N _ hm
def zV : Val := ⟨0, 0, noS⟩
/-- A signed number of so many bits. -/
def toI (n : Nat) : Int := IntKind.i64.wrap (n : Int)
def floatV (b : List Nat) : Val × List Nat × Int :=
  if b.length < 8 then (zV, [], 3)
  else if keyN (ubitsP (beN (b.take 8))) = beN (b.take 8) then (⟨2, toI (ubitsP (beN (b.take 8))), noS⟩, b.drop 8, 0)
  else (zV, [], 4)
set_option maxRecDepth 10000 in
set_option maxHeartbeats 2000000 in
theorem float_does (b : List Nat) (hl : b.length ≤ 140737488351232) (hb : ∀ c ∈ b, c < 256) (H : AHeap) :
    Does Try.prog 79 [.d (.list false (bys b))] H (.ok (.tup [(floatV b).1.av, .d (.list false (bys (floatV b).2.1)), iA (floatV b).2.2])) H := by
  have hF : floatV b = if b.length < 8 then (zV, [], 3) else if keyN (ubitsP (beN (b.take 8))) = beN (b.take 8) then (⟨2, toI (ubitsP (beN (b.take 8))), noS⟩, b.drop 8, 0) else (zV, [], 4) := rfl
  by_cases h8 : b.length < 8
  · rw [hF, if_pos h8]
    refine Does.subT (cs := [zV.av, .d (.v (.slice none 0 0)), iA 3]) ?_ (.cons (.refl _) (.cons .nil (.cons (.refl _) .nil)))
    refine Does.of_awpC (hint := fun _ => false) Try.func79 (by kernel_rfl) rfl [.cell 2 24, .tmp 3, .tmp 4] (by kernel_rfl) (by simp [Try.ntmps79]) ?_
    rw [Try.ntmps79]
    simp (implicitDefEqProofs := false) only [↓reduceIte, go_sem, oread, owrite, Nat.reduceAdd, Nat.reduceSub, Nat.reduceMul, Nat.reduceLT, Nat.reduceLeDiff, Nat.reduceEqDiff, Nat.reduceBEq, Int.reduceLE, Int.reduceLT, Int.reduceEq, Int.reduceNe, Int.reduceAdd, Int.reduceSub, Int.reduceMul, Int.reduceNeg, Int.reduceToNat, Int.reduceNatCast, reduceCtorEq, eq_self, bys_len, show ((b.length : Int) < 8) = True from eq_true (by omega)]
    refine AEndC.ret ?_
    simp (implicitDefEqProofs := false) only [↓reduceIte, go_sem, oread, owrite, Nat.reduceAdd, Nat.reduceSub, Nat.reduceMul, Nat.reduceLT, Nat.reduceLeDiff, Nat.reduceEqDiff, Nat.reduceBEq, Int.reduceLE, Int.reduceLT, Int.reduceEq, Int.reduceNe, Int.reduceAdd, Int.reduceSub, Int.reduceMul, Int.reduceNeg, Int.reduceToNat, Int.reduceNatCast, reduceCtorEq, eq_self, resAll, resAV, zV, noS]
  rw [if_neg h8] at hF
  have h8l : (b.take 8).length = 8 := by rw [List.length_take]; omega
  have hkl := beN_lt 8 (b.take 8) h8l fun c hc => hb c (List.mem_of_mem_take hc)
  have hkl' : beN (b.take 8) < 18446744073709551616 := hkl
  have hub := ubitsP_lt hkl'
  have hfold : ∀ k, k < 8 → ∃ c, (b.take 8)[k]? = some c ∧ c < 256 ∧ beN ((b.take 8).take (k + 1)) = beN ((b.take 8).take k) * 256 + c ∧ beN ((b.take 8).take k) * 256 + c < 18446744073709551616 := fun k hk => by
    have hk' : k < (b.take 8).length := by omega
    refine ⟨(b.take 8)[k], List.getElem?_eq_getElem hk', hb _ (List.mem_of_mem_take (List.getElem_mem hk')), ?_, ?_⟩
    · rw [List.take_succ_eq_append_getElem hk', beN_snoc]
    · rw [← beN_snoc, ← List.take_succ_eq_append_getElem hk']
      have := beN_lt (k + 1) ((b.take 8).take (k + 1)) (by rw [List.length_take]; omega) fun c hc => hb c (List.mem_of_mem_take (List.mem_of_mem_take hc))
      have h2 : 256 ^ (k + 1) ≤ 256 ^ 8 := Nat.pow_le_pow_right (by decide) (by omega)
      omega
  have ht8 : (b.take 8).take 8 = b.take 8 := List.take_of_length_le (by omega)
  have e8 : (bys b).take 8 = bys (b.take 8) := take_bys b 8
  have hg : ∀ (k c : Nat), (b.take 8)[k]? = some c → (bys (b.take 8))[k]? = some [D.v (.int .u8 (c : Int))] := fun k c h => by unfold bys; rw [List.getElem?_map, h]; rfl
  have hbt := bys_len (b.take 8)
  rw [h8l] at hbt
  have hd8 : (bys b).drop 8 = bys (b.drop 8) := drop_bys b 8
  have hdl : (b.drop 8).length = b.length - 8 := List.length_drop
  have hbtl : (bys b).take b.length = bys b := List.take_of_length_le (by rw [bys_len]; exact Nat.le_refl _)
  rw [hF]
  generalize b.take 8 = B at *
  by_cases hk : keyN (ubitsP (beN B)) = beN B
  · rw [if_pos hk]
    refine Does.of_awpC (hint := fun _ => false) Try.func79 (by kernel_rfl) rfl [.cell 2 24, .tmp 3, .tmp 4] (by kernel_rfl) (by simp [Try.ntmps79]) ?_
    rw [Try.ntmps79]
    simp (implicitDefEqProofs := false) only [↓reduceIte, go_sem, oread, owrite, Nat.reduceAdd, Nat.reduceSub, Nat.reduceMul, Nat.reduceLT, Nat.reduceLeDiff, Nat.reduceEqDiff, Nat.reduceBEq, Int.reduceLE, Int.reduceLT, Int.reduceEq, Int.reduceNe, Int.reduceAdd, Int.reduceSub, Int.reduceMul, Int.reduceNeg, Int.reduceToNat, Int.reduceNatCast, reduceCtorEq, eq_self, bys_len, show ((b.length : Int) < 8) = False from eq_false (by omega), bys_one, e8, hbt, show ((8 : Int) ≤ (b.length : Int)) = True from eq_true (by omega)]
    refine awp_for (fun k s H' => H' = H ++ [.box 24 3 0 1 [iA 0, iA 0, sA ⟨#[]⟩]] ∧ s 0 = .d (.list false (bys b)) ∧ s 2 = .ptr H.length 0 0 0 ∧ s 5 = du (beN (B.take k)) ∧ s 14 = .d (.list false (bys B)) ∧ s 15 = iA 8 ∧ s 16 = iA k) 8 (by omega) (Weak.refl _ _) ?_ ?_ ?_
    · refine ⟨rfl, ?_⟩
      simp (implicitDefEqProofs := false) only [↓reduceIte, go_sem, oread, owrite, Nat.reduceAdd, Nat.reduceSub, Nat.reduceMul, Nat.reduceLT, Nat.reduceLeDiff, Nat.reduceEqDiff, Nat.reduceBEq, Int.reduceLE, Int.reduceLT, Int.reduceEq, Int.reduceNe, Int.reduceAdd, Int.reduceSub, Int.reduceMul, Int.reduceNeg, Int.reduceToNat, Int.reduceNatCast, reduceCtorEq, eq_self]
      rfl
    · rintro k s H' hk8 hw ⟨rfl, t0, t2, t5, t14, t15, t16⟩
      have hk8' : ((k : Int) < 8) = True := eq_true (by omega)
      obtain ⟨c, g1, g2, g3, g4⟩ := hfold k hk8
      have hx := hg k c g1
      have hso := shlOr (beN (B.take k)) c g2 g4
      have wc : IntKind.u64.wrap (c : Int) = (c : Int) := wrapU64N _ (by omega)
      rw [g3]
      generalize beN (B.take k) = m at *
      generalize m * 256 + c = z at *
      simp (implicitDefEqProofs := false) only [↓reduceIte, go_sem, oread, owrite, Nat.reduceAdd, Nat.reduceSub, Nat.reduceMul, Nat.reduceLT, Nat.reduceLeDiff, Nat.reduceEqDiff, Nat.reduceBEq, Int.reduceLE, Int.reduceLT, Int.reduceEq, Int.reduceNe, Int.reduceAdd, Int.reduceSub, Int.reduceMul, Int.reduceNeg, Int.reduceToNat, Int.reduceNatCast, reduceCtorEq, eq_self, t5, t14, t15, t16, hk8', hbt, show k < 8 from hk8, hx, wc, hso]
      refine Rnd.same ⟨rfl, ?_⟩
      simp (implicitDefEqProofs := false) only [↓reduceIte, go_sem, oread, owrite, Nat.reduceAdd, Nat.reduceSub, Nat.reduceMul, Nat.reduceLT, Nat.reduceLeDiff, Nat.reduceEqDiff, Nat.reduceBEq, Int.reduceLE, Int.reduceLT, Int.reduceEq, Int.reduceNe, Int.reduceAdd, Int.reduceSub, Int.reduceMul, Int.reduceNeg, Int.reduceToNat, Int.reduceNatCast, reduceCtorEq, eq_self, t0, t2, t14, t15, hw]
    · rintro s H' ⟨rfl, t0, t2, t5, t14, t15, t16⟩
      rw [ht8] at t5
      simp (implicitDefEqProofs := false) only [↓reduceIte, go_sem, oread, owrite, Nat.reduceAdd, Nat.reduceSub, Nat.reduceMul, Nat.reduceLT, Nat.reduceLeDiff, Nat.reduceEqDiff, Nat.reduceBEq, Int.reduceLE, Int.reduceLT, Int.reduceEq, Int.reduceNe, Int.reduceAdd, Int.reduceSub, Int.reduceMul, Int.reduceNeg, Int.reduceToNat, Int.reduceNatCast, reduceCtorEq, eq_self, t5, t15, t16]
      refine KCall.ok (fbits_does _ hkl' _) ?_
      simp (implicitDefEqProofs := false) only [↓reduceIte, go_sem, oread, owrite, Nat.reduceAdd, Nat.reduceSub, Nat.reduceMul, Nat.reduceLT, Nat.reduceLeDiff, Nat.reduceEqDiff, Nat.reduceBEq, Int.reduceLE, Int.reduceLT, Int.reduceEq, Int.reduceNe, Int.reduceAdd, Int.reduceSub, Int.reduceMul, Int.reduceNeg, Int.reduceToNat, Int.reduceNatCast, reduceCtorEq, eq_self, t5]
      refine KCall.ok (fkey_does _ hub _) ?_
      simp (implicitDefEqProofs := false) only [↓reduceIte, go_sem, oread, owrite, Nat.reduceAdd, Nat.reduceSub, Nat.reduceMul, Nat.reduceLT, Nat.reduceLeDiff, Nat.reduceEqDiff, Nat.reduceBEq, Int.reduceLE, Int.reduceLT, Int.reduceEq, Int.reduceNe, Int.reduceAdd, Int.reduceSub, Int.reduceMul, Int.reduceNeg, Int.reduceToNat, Int.reduceNatCast, reduceCtorEq, eq_self, t0, t2, t5, eq_true (congrArg (fun n : Nat => (n : Int)) hk), bys_len, bys_one, hbtl, hd8, show ((8 : Int) ≤ (b.length : Int)) = True from eq_true (by omega)]
      refine ⟨by omega, by omega, ?_⟩
      refine AEndC.ret ?_
      simp (implicitDefEqProofs := false) only [↓reduceIte, go_sem, oread, owrite, Nat.reduceAdd, Nat.reduceSub, Nat.reduceMul, Nat.reduceLT, Nat.reduceLeDiff, Nat.reduceEqDiff, Nat.reduceBEq, Int.reduceLE, Int.reduceLT, Int.reduceEq, Int.reduceNe, Int.reduceAdd, Int.reduceSub, Int.reduceMul, Int.reduceNeg, Int.reduceToNat, Int.reduceNatCast, reduceCtorEq, eq_self, resAll, resAV, t2, toI, noS, List.take_of_length_le (Nat.le_of_eq (bys_len (b.drop 8)))]
  · rw [if_neg hk]
    refine Does.subT (cs := [zV.av, .d (.v (.slice none 0 0)), iA 4]) ?_ (.cons (.refl _) (.cons .nil (.cons (.refl _) .nil)))
    refine Does.of_awpC (hint := fun _ => false) Try.func79 (by kernel_rfl) rfl [.cell 2 24, .tmp 3, .tmp 4] (by kernel_rfl) (by simp [Try.ntmps79]) ?_
    rw [Try.ntmps79]
    simp (implicitDefEqProofs := false) only [↓reduceIte, go_sem, oread, owrite, Nat.reduceAdd, Nat.reduceSub, Nat.reduceMul, Nat.reduceLT, Nat.reduceLeDiff, Nat.reduceEqDiff, Nat.reduceBEq, Int.reduceLE, Int.reduceLT, Int.reduceEq, Int.reduceNe, Int.reduceAdd, Int.reduceSub, Int.reduceMul, Int.reduceNeg, Int.reduceToNat, Int.reduceNatCast, reduceCtorEq, eq_self, bys_len, show ((b.length : Int) < 8) = False from eq_false (by omega), bys_one, e8, hbt, show ((8 : Int) ≤ (b.length : Int)) = True from eq_true (by omega)]
    refine awp_for (fun k s H' => H' = H ++ [.box 24 3 0 1 [iA 0, iA 0, sA ⟨#[]⟩]] ∧ s 0 = .d (.list false (bys b)) ∧ s 2 = .ptr H.length 0 0 0 ∧ s 5 = du (beN (B.take k)) ∧ s 14 = .d (.list false (bys B)) ∧ s 15 = iA 8 ∧ s 16 = iA k) 8 (by omega) (Weak.refl _ _) ?_ ?_ ?_
    · refine ⟨rfl, ?_⟩
      simp (implicitDefEqProofs := false) only [↓reduceIte, go_sem, oread, owrite, Nat.reduceAdd, Nat.reduceSub, Nat.reduceMul, Nat.reduceLT, Nat.reduceLeDiff, Nat.reduceEqDiff, Nat.reduceBEq, Int.reduceLE, Int.reduceLT, Int.reduceEq, Int.reduceNe, Int.reduceAdd, Int.reduceSub, Int.reduceMul, Int.reduceNeg, Int.reduceToNat, Int.reduceNatCast, reduceCtorEq, eq_self]
      rfl
    · rintro k s H' hk8 hw ⟨rfl, t0, t2, t5, t14, t15, t16⟩
      have hk8' : ((k : Int) < 8) = True := eq_true (by omega)
      obtain ⟨c, g1, g2, g3, g4⟩ := hfold k hk8
      have hx := hg k c g1
      have hso := shlOr (beN (B.take k)) c g2 g4
      have wc : IntKind.u64.wrap (c : Int) = (c : Int) := wrapU64N _ (by omega)
      rw [g3]
      generalize beN (B.take k) = m at *
      generalize m * 256 + c = z at *
      simp (implicitDefEqProofs := false) only [↓reduceIte, go_sem, oread, owrite, Nat.reduceAdd, Nat.reduceSub, Nat.reduceMul, Nat.reduceLT, Nat.reduceLeDiff, Nat.reduceEqDiff, Nat.reduceBEq, Int.reduceLE, Int.reduceLT, Int.reduceEq, Int.reduceNe, Int.reduceAdd, Int.reduceSub, Int.reduceMul, Int.reduceNeg, Int.reduceToNat, Int.reduceNatCast, reduceCtorEq, eq_self, t5, t14, t15, t16, hk8', hbt, show k < 8 from hk8, hx, wc, hso]
      refine Rnd.same ⟨rfl, ?_⟩
      simp (implicitDefEqProofs := false) only [↓reduceIte, go_sem, oread, owrite, Nat.reduceAdd, Nat.reduceSub, Nat.reduceMul, Nat.reduceLT, Nat.reduceLeDiff, Nat.reduceEqDiff, Nat.reduceBEq, Int.reduceLE, Int.reduceLT, Int.reduceEq, Int.reduceNe, Int.reduceAdd, Int.reduceSub, Int.reduceMul, Int.reduceNeg, Int.reduceToNat, Int.reduceNatCast, reduceCtorEq, eq_self, t0, t2, t14, t15, hw]
    · rintro s H' ⟨rfl, t0, t2, t5, t14, t15, t16⟩
      rw [ht8] at t5
      simp (implicitDefEqProofs := false) only [↓reduceIte, go_sem, oread, owrite, Nat.reduceAdd, Nat.reduceSub, Nat.reduceMul, Nat.reduceLT, Nat.reduceLeDiff, Nat.reduceEqDiff, Nat.reduceBEq, Int.reduceLE, Int.reduceLT, Int.reduceEq, Int.reduceNe, Int.reduceAdd, Int.reduceSub, Int.reduceMul, Int.reduceNeg, Int.reduceToNat, Int.reduceNatCast, reduceCtorEq, eq_self, t5, t15, t16]
      refine KCall.ok (fbits_does _ hkl' _) ?_
      simp (implicitDefEqProofs := false) only [↓reduceIte, go_sem, oread, owrite, Nat.reduceAdd, Nat.reduceSub, Nat.reduceMul, Nat.reduceLT, Nat.reduceLeDiff, Nat.reduceEqDiff, Nat.reduceBEq, Int.reduceLE, Int.reduceLT, Int.reduceEq, Int.reduceNe, Int.reduceAdd, Int.reduceSub, Int.reduceMul, Int.reduceNeg, Int.reduceToNat, Int.reduceNatCast, reduceCtorEq, eq_self, t5]
      refine KCall.ok (fkey_does _ hub _) ?_
      simp (implicitDefEqProofs := false) only [↓reduceIte, go_sem, oread, owrite, Nat.reduceAdd, Nat.reduceSub, Nat.reduceMul, Nat.reduceLT, Nat.reduceLeDiff, Nat.reduceEqDiff, Nat.reduceBEq, Int.reduceLE, Int.reduceLT, Int.reduceEq, Int.reduceNe, Int.reduceAdd, Int.reduceSub, Int.reduceMul, Int.reduceNeg, Int.reduceToNat, Int.reduceNatCast, reduceCtorEq, eq_self, t0, t2, t5, show (((keyN (ubitsP (beN B)) : Nat) : Int) = ((beN B : Nat) : Int)) = False from eq_false (by omega)]
      refine AEndC.ret ?_
      simp (implicitDefEqProofs := false) only [↓reduceIte, go_sem, oread, owrite, Nat.reduceAdd, Nat.reduceSub, Nat.reduceMul, Nat.reduceLT, Nat.reduceLeDiff, Nat.reduceEqDiff, Nat.reduceBEq, Int.reduceLE, Int.reduceLT, Int.reduceEq, Int.reduceNe, Int.reduceAdd, Int.reduceSub, Int.reduceMul, Int.reduceNeg, Int.reduceToNat, Int.reduceNatCast, reduceCtorEq, eq_self, resAll, resAV, t2, zV, noS]
end Go.Proofs.Ytkapgooedfompaa
namespace Go.Proofs.Ytkapgooedfompaa
open Go.Proofs.YtkapgooedfompaaAw Go.RowKit
set_option linter.unusedVariables false
set_option linter.unusedSimpArgs false
def ofV (b : List Nat) (k : Int) : Val × List Nat × Int :=
  if k = 0 then (zV, b, 0)
  else if k = 1 then (if (getP b).2.2 = 0 then (num10 (zagP (getP b).1), b.drop (getP b).2.1, 0) else (zV, [], (getP b).2.2))
  else if k = 2 then floatV b
  else if k = 3 then (if (toTextP b 1024).2.2 = 0 then (⟨3, 0, bstr (toTextP b 1024).1⟩, (toTextP b 1024).2.1, 0) else (zV, [], (toTextP b 1024).2.2))
  else (zV, [], 1)
theorem toTextP_len (b : List Nat) (most : Nat) : (toTextP b most).2.1.length ≤ b.length := by
  unfold toTextP
  obtain ⟨j, h⟩ := numP_suffix 10 0 b
  rcases hn : numP 10 0 b with ⟨_ | n, r⟩
  · simp
  · rw [hn] at h
    simp only at h ⊢
    split
    · simp
    · split
      · simp
      · rw [h]; simp
set_option maxRecDepth 10000 in
set_option maxHeartbeats 2000000 in
theorem valOf_does (b : List Nat) (k : Int) (hl : b.length ≤ 140737488351232) (hb : ∀ c ∈ b, c < 256) (H : AHeap) :
    Does Try.prog 69 [.d (.list false (bys b)), iA k] H (.ok (.tup [(ofV b k).1.av, .d (.list false (bys (ofV b k).2.1)), iA (ofV b k).2.2])) H := by
  have hO : ofV b k = if k = 0 then (zV, b, 0) else if k = 1 then (if (getP b).2.2 = 0 then (num10 (zagP (getP b).1), b.drop (getP b).2.1, 0) else (zV, [], (getP b).2.2)) else if k = 2 then floatV b else if k = 3 then (if (toTextP b 1024).2.2 = 0 then (⟨3, 0, bstr (toTextP b 1024).1⟩, (toTextP b 1024).2.1, 0) else (zV, [], (toTextP b 1024).2.2)) else (zV, [], 1) := rfl
  by_cases h0 : k = 0
  · rw [hO, if_pos h0]
    subst h0
    refine Does.of_awpC (hint := fun _ => false) Try.func69 (by kernel_rfl) rfl [.cell 4 24, .tmp 5, .tmp 6] (by kernel_rfl) (by simp [Try.ntmps69]) ?_
    rw [Try.ntmps69]
    simp (implicitDefEqProofs := false) only [↓reduceIte, go_sem, oread, owrite, Nat.reduceAdd, Nat.reduceSub, Nat.reduceMul, Nat.reduceLT, Nat.reduceLeDiff, Nat.reduceEqDiff, Nat.reduceBEq, Int.reduceLE, Int.reduceLT, Int.reduceEq, Int.reduceNe, Int.reduceAdd, Int.reduceSub, Int.reduceMul, Int.reduceNeg, Int.reduceToNat, Int.reduceNatCast, reduceCtorEq, eq_self, bys_one, bys_len]
    refine ⟨by omega, by omega, AEndC.ret ?_⟩
    simp (implicitDefEqProofs := false) only [↓reduceIte, go_sem, oread, owrite, Nat.reduceAdd, Nat.reduceSub, Nat.reduceMul, Nat.reduceLT, Nat.reduceLeDiff, Nat.reduceEqDiff, Nat.reduceBEq, Int.reduceLE, Int.reduceLT, Int.reduceEq, Int.reduceNe, Int.reduceAdd, Int.reduceSub, Int.reduceMul, Int.reduceNeg, Int.reduceToNat, Int.reduceNatCast, reduceCtorEq, eq_self, resAll, resAV, zV, noS, List.take_of_length_le (Nat.le_of_eq (bys_len b))]
  rw [if_neg h0] at hO
  by_cases h1 : k = 1
  · rw [if_pos h1] at hO
    subst h1
    have hgl := getP_le b
    have hglt := getP_lt b
    have hgd := fun H => get_does b (by omega) hb H
    generalize getP b = g at *
    obtain ⟨n, j, e⟩ := g
    simp only at hgl hglt hO hgd
    by_cases he : e = 0
    · rw [if_pos he] at hO
      rw [hO]
      subst he
      refine Does.of_awpC (hint := fun _ => false) Try.func69 (by kernel_rfl) rfl [.cell 4 24, .tmp 5, .tmp 6] (by kernel_rfl) (by simp [Try.ntmps69]) ?_
      rw [Try.ntmps69]
      have hbt : (bys b).take b.length = bys b := List.take_of_length_le (by rw [bys_len]; exact Nat.le_refl _)
      have hdl : (b.drop j).length = b.length - j := List.length_drop
      simp (implicitDefEqProofs := false) only [↓reduceIte, go_sem, oread, owrite, Nat.reduceAdd, Nat.reduceSub, Nat.reduceMul, Nat.reduceLT, Nat.reduceLeDiff, Nat.reduceEqDiff, Nat.reduceBEq, Int.reduceLE, Int.reduceLT, Int.reduceEq, Int.reduceNe, Int.reduceAdd, Int.reduceSub, Int.reduceMul, Int.reduceNeg, Int.reduceToNat, Int.reduceNatCast, reduceCtorEq, eq_self]
      refine KCall.ok (hgd _) ?_
      simp (implicitDefEqProofs := false) only [↓reduceIte, go_sem, oread, owrite, Nat.reduceAdd, Nat.reduceSub, Nat.reduceMul, Nat.reduceLT, Nat.reduceLeDiff, Nat.reduceEqDiff, Nat.reduceBEq, Int.reduceLE, Int.reduceLT, Int.reduceEq, Int.reduceNe, Int.reduceAdd, Int.reduceSub, Int.reduceMul, Int.reduceNeg, Int.reduceToNat, Int.reduceNatCast, reduceCtorEq, eq_self]
      refine awp_drawN [false, false, false, false, false, false, false, true] 7 K.mixed (by kernel_rfl) (by kernel_rfl) (by kernel_rfl) ?_
      simp (implicitDefEqProofs := false) only [↓reduceIte, go_sem, oread, owrite, Nat.reduceAdd, Nat.reduceSub, Nat.reduceMul, Nat.reduceLT, Nat.reduceLeDiff, Nat.reduceEqDiff, Nat.reduceBEq, Int.reduceLE, Int.reduceLT, Int.reduceEq, Int.reduceNe, Int.reduceAdd, Int.reduceSub, Int.reduceMul, Int.reduceNeg, Int.reduceToNat, Int.reduceNatCast, reduceCtorEq, eq_self]
      refine KCall.ok (zag_does n hglt _) ?_
      simp (implicitDefEqProofs := false) only [↓reduceIte, go_sem, oread, owrite, Nat.reduceAdd, Nat.reduceSub, Nat.reduceMul, Nat.reduceLT, Nat.reduceLeDiff, Nat.reduceEqDiff, Nat.reduceBEq, Int.reduceLE, Int.reduceLT, Int.reduceEq, Int.reduceNe, Int.reduceAdd, Int.reduceSub, Int.reduceMul, Int.reduceNeg, Int.reduceToNat, Int.reduceNatCast, reduceCtorEq, eq_self, bys_one, bys_len, hbt, drop_bys, hgl, show ((0 : Int) ≤ (j : Int)) = True from eq_true (by omega)]
      refine ⟨by omega, by omega, AEndC.ret ?_⟩
      simp (implicitDefEqProofs := false) only [↓reduceIte, go_sem, oread, owrite, Nat.reduceAdd, Nat.reduceSub, Nat.reduceMul, Nat.reduceLT, Nat.reduceLeDiff, Nat.reduceEqDiff, Nat.reduceBEq, Int.reduceLE, Int.reduceLT, Int.reduceEq, Int.reduceNe, Int.reduceAdd, Int.reduceSub, Int.reduceMul, Int.reduceNeg, Int.reduceToNat, Int.reduceNatCast, reduceCtorEq, eq_self, resAll, resAV, num10, noS, List.take_of_length_le (Nat.le_of_eq (bys_len (b.drop j)))]
    · rw [if_neg he] at hO
      rw [hO]
      refine Does.subT (cs := [zV.av, .d (.v (.slice none 0 0)), iA e]) ?_ (.cons (.refl _) (.cons .nil (.cons (.refl _) .nil)))
      refine Does.of_awpC (hint := fun _ => false) Try.func69 (by kernel_rfl) rfl [.cell 4 24, .tmp 5, .tmp 6] (by kernel_rfl) (by simp [Try.ntmps69]) ?_
      rw [Try.ntmps69]
      simp (implicitDefEqProofs := false) only [↓reduceIte, go_sem, oread, owrite, Nat.reduceAdd, Nat.reduceSub, Nat.reduceMul, Nat.reduceLT, Nat.reduceLeDiff, Nat.reduceEqDiff, Nat.reduceBEq, Int.reduceLE, Int.reduceLT, Int.reduceEq, Int.reduceNe, Int.reduceAdd, Int.reduceSub, Int.reduceMul, Int.reduceNeg, Int.reduceToNat, Int.reduceNatCast, reduceCtorEq, eq_self]
      refine KCall.ok (hgd _) ?_
      simp (implicitDefEqProofs := false) only [↓reduceIte, go_sem, oread, owrite, Nat.reduceAdd, Nat.reduceSub, Nat.reduceMul, Nat.reduceLT, Nat.reduceLeDiff, Nat.reduceEqDiff, Nat.reduceBEq, Int.reduceLE, Int.reduceLT, Int.reduceEq, Int.reduceNe, Int.reduceAdd, Int.reduceSub, Int.reduceMul, Int.reduceNeg, Int.reduceToNat, Int.reduceNatCast, reduceCtorEq, eq_self, he]
      refine AEndC.ret ?_
      simp (implicitDefEqProofs := false) only [↓reduceIte, go_sem, oread, owrite, Nat.reduceAdd, Nat.reduceSub, Nat.reduceMul, Nat.reduceLT, Nat.reduceLeDiff, Nat.reduceEqDiff, Nat.reduceBEq, Int.reduceLE, Int.reduceLT, Int.reduceEq, Int.reduceNe, Int.reduceAdd, Int.reduceSub, Int.reduceMul, Int.reduceNeg, Int.reduceToNat, Int.reduceNatCast, reduceCtorEq, eq_self, resAll, resAV, zV, noS]
  rw [if_neg h1] at hO
  by_cases h2 : k = 2
  · rw [if_pos h2] at hO
    subst h2
    rw [hO]
    have hf := fun H => float_does b hl hb H
    generalize floatV b = t at *
    obtain ⟨v, r, e⟩ := t
    refine Does.of_awpC (hint := fun _ => false) Try.func69 (by kernel_rfl) rfl [.cell 4 24, .tmp 5, .tmp 6] (by kernel_rfl) (by simp [Try.ntmps69]) ?_
    rw [Try.ntmps69]
    simp (implicitDefEqProofs := false) only [↓reduceIte, go_sem, oread, owrite, Nat.reduceAdd, Nat.reduceSub, Nat.reduceMul, Nat.reduceLT, Nat.reduceLeDiff, Nat.reduceEqDiff, Nat.reduceBEq, Int.reduceLE, Int.reduceLT, Int.reduceEq, Int.reduceNe, Int.reduceAdd, Int.reduceSub, Int.reduceMul, Int.reduceNeg, Int.reduceToNat, Int.reduceNatCast, reduceCtorEq, eq_self]
    refine KCall.ok (hf _) ?_
    simp (implicitDefEqProofs := false) only [↓reduceIte, go_sem, oread, owrite, Nat.reduceAdd, Nat.reduceSub, Nat.reduceMul, Nat.reduceLT, Nat.reduceLeDiff, Nat.reduceEqDiff, Nat.reduceBEq, Int.reduceLE, Int.reduceLT, Int.reduceEq, Int.reduceNe, Int.reduceAdd, Int.reduceSub, Int.reduceMul, Int.reduceNeg, Int.reduceToNat, Int.reduceNatCast, reduceCtorEq, eq_self]
    refine AEndC.ret ?_
    simp (implicitDefEqProofs := false) only [↓reduceIte, go_sem, oread, owrite, Nat.reduceAdd, Nat.reduceSub, Nat.reduceMul, Nat.reduceLT, Nat.reduceLeDiff, Nat.reduceEqDiff, Nat.reduceBEq, Int.reduceLE, Int.reduceLT, Int.reduceEq, Int.reduceNe, Int.reduceAdd, Int.reduceSub, Int.reduceMul, Int.reduceNeg, Int.reduceToNat, Int.reduceNatCast, reduceCtorEq, eq_self, resAll, resAV]
  rw [if_neg h2] at hO
  by_cases h3 : k = 3
  · rw [if_pos h3] at hO
    subst h3
    have hf := fun H => toText_does b 1024 (by decide) hl hb H
    generalize toTextP b 1024 = t at *
    obtain ⟨v, r, e⟩ := t
    simp only at hO hf
    by_cases he : e = 0
    · rw [if_pos he] at hO
      rw [hO]
      subst he
      refine Does.of_awpC (hint := fun _ => false) Try.func69 (by kernel_rfl) rfl [.cell 4 24, .tmp 5, .tmp 6] (by kernel_rfl) (by simp [Try.ntmps69]) ?_
      rw [Try.ntmps69]
      simp (implicitDefEqProofs := false) only [↓reduceIte, go_sem, oread, owrite, Nat.reduceAdd, Nat.reduceSub, Nat.reduceMul, Nat.reduceLT, Nat.reduceLeDiff, Nat.reduceEqDiff, Nat.reduceBEq, Int.reduceLE, Int.reduceLT, Int.reduceEq, Int.reduceNe, Int.reduceAdd, Int.reduceSub, Int.reduceMul, Int.reduceNeg, Int.reduceToNat, Int.reduceNatCast, reduceCtorEq, eq_self]
      refine KCall.ok (hf _) ?_
      simp (implicitDefEqProofs := false) only [↓reduceIte, go_sem, oread, owrite, Nat.reduceAdd, Nat.reduceSub, Nat.reduceMul, Nat.reduceLT, Nat.reduceLeDiff, Nat.reduceEqDiff, Nat.reduceBEq, Int.reduceLE, Int.reduceLT, Int.reduceEq, Int.reduceNe, Int.reduceAdd, Int.reduceSub, Int.reduceMul, Int.reduceNeg, Int.reduceToNat, Int.reduceNatCast, reduceCtorEq, eq_self]
      refine AEndC.ret ?_
      simp (implicitDefEqProofs := false) only [↓reduceIte, go_sem, oread, owrite, Nat.reduceAdd, Nat.reduceSub, Nat.reduceMul, Nat.reduceLT, Nat.reduceLeDiff, Nat.reduceEqDiff, Nat.reduceBEq, Int.reduceLE, Int.reduceLT, Int.reduceEq, Int.reduceNe, Int.reduceAdd, Int.reduceSub, Int.reduceMul, Int.reduceNeg, Int.reduceToNat, Int.reduceNatCast, reduceCtorEq, eq_self, resAll, resAV]
    · rw [if_neg he] at hO
      rw [hO]
      refine Does.subT (cs := [zV.av, .d (.v (.slice none 0 0)), iA e]) ?_ (.cons (.refl _) (.cons .nil (.cons (.refl _) .nil)))
      refine Does.of_awpC (hint := fun _ => false) Try.func69 (by kernel_rfl) rfl [.cell 4 24, .tmp 5, .tmp 6] (by kernel_rfl) (by simp [Try.ntmps69]) ?_
      rw [Try.ntmps69]
      simp (implicitDefEqProofs := false) only [↓reduceIte, go_sem, oread, owrite, Nat.reduceAdd, Nat.reduceSub, Nat.reduceMul, Nat.reduceLT, Nat.reduceLeDiff, Nat.reduceEqDiff, Nat.reduceBEq, Int.reduceLE, Int.reduceLT, Int.reduceEq, Int.reduceNe, Int.reduceAdd, Int.reduceSub, Int.reduceMul, Int.reduceNeg, Int.reduceToNat, Int.reduceNatCast, reduceCtorEq, eq_self]
      refine KCall.ok (hf _) ?_
      simp (implicitDefEqProofs := false) only [↓reduceIte, go_sem, oread, owrite, Nat.reduceAdd, Nat.reduceSub, Nat.reduceMul, Nat.reduceLT, Nat.reduceLeDiff, Nat.reduceEqDiff, Nat.reduceBEq, Int.reduceLE, Int.reduceLT, Int.reduceEq, Int.reduceNe, Int.reduceAdd, Int.reduceSub, Int.reduceMul, Int.reduceNeg, Int.reduceToNat, Int.reduceNatCast, reduceCtorEq, eq_self, he]
      refine AEndC.ret ?_
      simp (implicitDefEqProofs := false) only [↓reduceIte, go_sem, oread, owrite, Nat.reduceAdd, Nat.reduceSub, Nat.reduceMul, Nat.reduceLT, Nat.reduceLeDiff, Nat.reduceEqDiff, Nat.reduceBEq, Int.reduceLE, Int.reduceLT, Int.reduceEq, Int.reduceNe, Int.reduceAdd, Int.reduceSub, Int.reduceMul, Int.reduceNeg, Int.reduceToNat, Int.reduceNatCast, reduceCtorEq, eq_self, resAll, resAV, zV, noS]
  rw [if_neg h3] at hO
  rw [hO]
  refine Does.subT (cs := [zV.av, .d (.v (.slice none 0 0)), iA 1]) ?_ (.cons (.refl _) (.cons .nil (.cons (.refl _) .nil)))
  refine Does.of_awpC (hint := fun _ => false) Try.func69 (by kernel_rfl) rfl [.cell 4 24, .tmp 5, .tmp 6] (by kernel_rfl) (by simp [Try.ntmps69]) ?_
  rw [Try.ntmps69]
  simp (implicitDefEqProofs := false) only [↓reduceIte, go_sem, oread, owrite, Nat.reduceAdd, Nat.reduceSub, Nat.reduceMul, Nat.reduceLT, Nat.reduceLeDiff, Nat.reduceEqDiff, Nat.reduceBEq, Int.reduceLE, Int.reduceLT, Int.reduceEq, Int.reduceNe, Int.reduceAdd, Int.reduceSub, Int.reduceMul, Int.reduceNeg, Int.reduceToNat, Int.reduceNatCast, reduceCtorEq, eq_self, h0, h1, h2, h3]
  refine AEndC.ret ?_
  simp (implicitDefEqProofs := false) only [↓reduceIte, go_sem, oread, owrite, Nat.reduceAdd, Nat.reduceSub, Nat.reduceMul, Nat.reduceLT, Nat.reduceLeDiff, Nat.reduceEqDiff, Nat.reduceBEq, Int.reduceLE, Int.reduceLT, Int.reduceEq, Int.reduceNe, Int.reduceAdd, Int.reduceSub, Int.reduceMul, Int.reduceNeg, Int.reduceToNat, Int.reduceNatCast, reduceCtorEq, eq_self, resAll, resAV, zV, noS]
end Go.Proofs.Ytkapgooedfompaa
namespace Go.Proofs.Ytkapgooedfompaa
open Go.Proofs.YtkapgooedfompaaAw Go.RowKit
set_option linter.unusedVariables false
set_option linter.unusedSimpArgs false
/-- So many values one behind the other. -/
def readN (k : Int) : Nat → List Nat → List Val × List Nat × Int
  | 0, b => ([], b, 0)
  | n + 1, b => if (ofV b k).2.2 = 0 then (if (readN k n (ofV b k).2.1).2.2 = 0 then ((ofV b k).1 :: (readN k n (ofV b k).2.1).1, (readN k n (ofV b k).2.1).2.1, 0) else ([], [], (readN k n (ofV b k).2.1).2.2)) else ([], [], (ofV b k).2.2)
def joinR (L : List Val) (q : List Val × List Nat × Int) : List Val × List Nat × Int := if q.2.2 = 0 then (L ++ q.1, q.2.1, 0) else ([], [], q.2.2)
theorem joinR_nil (k : Int) (n : Nat) (b : List Nat) : joinR [] (readN k n b) = readN k n b := by
  cases n with
  | zero => simp [joinR, readN]
  | succ n =>
    unfold joinR readN
    split
    · split
      · rfl
      · rename_i h; simp [h]
    · rename_i h; simp [h]
theorem joinR_step {k : Int} {n : Nat} {b r : List Nat} {v : Val} (L : List Val) (h : ofV b k = (v, r, 0)) : joinR L (readN k (n + 1) b) = joinR (L ++ [v]) (readN k n r) := by
  unfold joinR
  rw [show readN k (n + 1) b = if (ofV b k).2.2 = 0 then (if (readN k n (ofV b k).2.1).2.2 = 0 then ((ofV b k).1 :: (readN k n (ofV b k).2.1).1, (readN k n (ofV b k).2.1).2.1, 0) else ([], [], (readN k n (ofV b k).2.1).2.2)) else ([], [], (ofV b k).2.2) from rfl, h]
  simp only [if_true]
  by_cases h2 : (readN k n r).2.2 = 0
  · simp [h2]
  · simp [h2]
theorem joinR_stop {k : Int} {n : Nat} {b r : List Nat} {v : Val} {e : Int} (L : List Val) (h : ofV b k = (v, r, e)) (he : e ≠ 0) : joinR L (readN k (n + 1) b) = ([], [], e) := by
  unfold joinR
  rw [show readN k (n + 1) b = if (ofV b k).2.2 = 0 then (if (readN k n (ofV b k).2.1).2.2 = 0 then ((ofV b k).1 :: (readN k n (ofV b k).2.1).1, (readN k n (ofV b k).2.1).2.1, 0) else ([], [], (readN k n (ofV b k).2.1).2.2)) else ([], [], (ofV b k).2.2) from rfl, h]
  simp [he]
theorem ofV_suffix (b : List Nat) (k : Int) : ∃ j, (ofV b k).2.1 = b.drop j := by
  have nil : ∃ j, ([] : List Nat) = b.drop j := ⟨b.length, by simp⟩
  unfold ofV
  split
  · exact ⟨0, rfl⟩
  split
  · split
    · exact ⟨_, rfl⟩
    · exact nil
  split
  · unfold floatV
    split
    · exact nil
    · split
      · exact ⟨8, rfl⟩
      · exact nil
  split
  · split
    · unfold toTextP
      obtain ⟨j, h⟩ := numP_suffix 10 0 b
      rcases hn : numP 10 0 b with ⟨_ | n, r⟩
      · exact nil
      · rw [hn] at h
        simp only at h ⊢
        split
        · exact nil
        · split
          · exact nil
          · exact ⟨j + n, by rw [h, List.drop_drop]⟩
    · exact nil
  · exact nil
/-- Each word is below the next. -/
def RiseN (W : List Val) : Prop := ∀ i x y, W[i]? = some x → W[i + 1]? = some y → cmpV x y < 0
noncomputable instance RiseN.dec (W : List Val) : Decidable (RiseN W) := Classical.propDecidable _
noncomputable def readR (k : Int) (n : Nat) (b : List Nat) : List Val × List Nat × Int := if (readN k n b).2.2 = 0 then (if RiseN (readN k n b).1 then readN k n b else ([], [], 4)) else ([], [], (readN k n b).2.2)
theorem readN_err {k : Int} {n : Nat} {b : List Nat} (h : (readN k n b).2.2 ≠ 0) : readN k n b = ([], [], (readN k n b).2.2) := by
  have := joinR_nil k n b
  unfold joinR at this
  rw [if_neg h] at this
  exact this.symm
set_option maxRecDepth 10000 in
set_option maxHeartbeats 2000000 in
theorem dread_does' (b : List Nat) (m : Nat) (k : Int) (hm : m ≤ 4096) (hl : b.length ≤ 140737488351232) (hb : ∀ c ∈ b, c < 256) (H : AHeap) :
    Does Try.prog 56 [.d (.list false (bys b)), iA m, iA k] H (.ok (if (readR k m b).2.2 = 0 then .tup [.d (.list false ((readR k m b).1.map Val.enc)), .d (.list false (bys (readR k m b).2.1)), iA 0] else .tup [.d (.v (.slice none 0 0)), .d (.v (.slice none 0 0)), iA (readR k m b).2.2])) H := by
  have hR : readR k m b = if (readN k m b).2.2 = 0 then (if RiseN (readN k m b).1 then readN k m b else ([], [], 4)) else ([], [], (readN k m b).2.2) := by unfold readR; rfl
  have hj0 := joinR_nil k m b
  refine Does.of_awp (hint := (fun _ => false)) Try.func56 (by kernel_rfl) rfl [6, 7, 8] (by kernel_rfl) (by decide) (by simp [Try.ntmps56]) ?_
  rw [Try.ntmps56]
  simp (implicitDefEqProofs := false) only [↓reduceIte, go_sem, oread, owrite, Nat.reduceAdd, Nat.reduceSub, Nat.reduceMul, Nat.reduceLT, Nat.reduceLeDiff, Nat.reduceEqDiff, Nat.reduceBEq, Int.reduceLE, Int.reduceLT, Int.reduceEq, Int.reduceNe, Int.reduceAdd, Int.reduceSub, Int.reduceMul, Int.reduceNeg, Int.reduceToNat, Int.reduceNatCast, reduceCtorEq, eq_self]
  refine awp_for (fun j s H' => ∃ L c, H' = H ++ [.arr 24 3 j (L.map Val.enc)] ∧ L.length = j ∧ c.length ≤ b.length ∧ (∀ x ∈ c, x < 256) ∧ joinR L (readN k (m - j) c) = readN k m b ∧ s 0 = .d (.list false (bys c)) ∧ s 2 = iA k ∧ s 9 = .sl H.length j 0 j ∧ s 14 = iA m ∧ s 15 = iA j) m (by omega) (Weak.virt1 _ _ 9 24 3 (by decide) (by simp (implicitDefEqProofs := false) only [↓reduceIte, go_sem, oread, owrite, Nat.reduceAdd, Nat.reduceSub, Nat.reduceMul, Nat.reduceLT, Nat.reduceLeDiff, Nat.reduceEqDiff, Nat.reduceBEq, Int.reduceLE, Int.reduceLT, Int.reduceEq, Int.reduceNe, Int.reduceAdd, Int.reduceSub, Int.reduceMul, Int.reduceNeg, Int.reduceToNat, Int.reduceNatCast, reduceCtorEq, eq_self]) _) ?_ ?_ ?_
  · refine ⟨[], b, rfl, rfl, Nat.le_refl _, hb, by simpa using hj0, ?_⟩
    simp (implicitDefEqProofs := false) only [↓reduceIte, go_sem, oread, owrite, Nat.reduceAdd, Nat.reduceSub, Nat.reduceMul, Nat.reduceLT, Nat.reduceLeDiff, Nat.reduceEqDiff, Nat.reduceBEq, Int.reduceLE, Int.reduceLT, Int.reduceEq, Int.reduceNe, Int.reduceAdd, Int.reduceSub, Int.reduceMul, Int.reduceNeg, Int.reduceToNat, Int.reduceNatCast, reduceCtorEq, eq_self]
  · rintro j s H' hj hw ⟨L, c, rfl, hL, hcl, hcb, hjoin, t0, t2, t9, t14, t15⟩
    have hod := fun H => valOf_does c k (by omega) hcb H
    obtain ⟨p, hp⟩ := ofV_suffix c k
    obtain ⟨q, hq⟩ : ∃ q, m - j = q + 1 := ⟨m - j - 1, by omega⟩
    have hst := fun v r h => joinR_step (k := k) (n := q) (b := c) (r := r) (v := v) L h
    have hsp := fun v r e h he => joinR_stop (k := k) (n := q) (b := c) (r := r) (v := v) (e := e) L h he
    rw [hq] at hjoin
    rcases hv : ofV c k with ⟨v, r, e⟩
    simp only [hv] at hod hp hst hsp
    simp (implicitDefEqProofs := false) only [↓reduceIte, go_sem, oread, owrite, Nat.reduceAdd, Nat.reduceSub, Nat.reduceMul, Nat.reduceLT, Nat.reduceLeDiff, Nat.reduceEqDiff, Nat.reduceBEq, Int.reduceLE, Int.reduceLT, Int.reduceEq, Int.reduceNe, Int.reduceAdd, Int.reduceSub, Int.reduceMul, Int.reduceNeg, Int.reduceToNat, Int.reduceNatCast, reduceCtorEq, eq_self, t0, t2, t14, t15, hj]
    refine KCall.ok (hod _) ?_
    by_cases he : e = 0
    · subst he
      have hsn : L.map Val.enc ++ [[D.v (.int .i64 v.kind), D.v (.int .i64 v.i), D.v (.string v.s)]] = (L ++ [v]).map Val.enc := by simp [Val.enc]
      simp (implicitDefEqProofs := false) only [↓reduceIte, go_sem, oread, owrite, Nat.reduceAdd, Nat.reduceSub, Nat.reduceMul, Nat.reduceLT, Nat.reduceLeDiff, Nat.reduceEqDiff, Nat.reduceBEq, Int.reduceLE, Int.reduceLT, Int.reduceEq, Int.reduceNe, Int.reduceAdd, Int.reduceSub, Int.reduceMul, Int.reduceNeg, Int.reduceToNat, Int.reduceNatCast, reduceCtorEq, eq_self, t9, List.length_map, hL, hsn]
      refine ⟨by omega, by omega, ?_⟩
      simp (implicitDefEqProofs := false) only [↓reduceIte, go_sem, oread, owrite, Nat.reduceAdd, Nat.reduceSub, Nat.reduceMul, Nat.reduceLT, Nat.reduceLeDiff, Nat.reduceEqDiff, Nat.reduceBEq, Int.reduceLE, Int.reduceLT, Int.reduceEq, Int.reduceNe, Int.reduceAdd, Int.reduceSub, Int.reduceMul, Int.reduceNeg, Int.reduceToNat, Int.reduceNatCast, reduceCtorEq, eq_self, t15]
      refine Rnd.cut [.arr 24 3 (j + 1) ((L ++ [v]).map Val.enc)] [vbox v] 1 rfl rfl (by simp (implicitDefEqProofs := false) only [↓reduceIte, go_sem, oread, owrite, Nat.reduceAdd, Nat.reduceSub, Nat.reduceMul, Nat.reduceLT, Nat.reduceLeDiff, Nat.reduceEqDiff, Nat.reduceBEq, Int.reduceLE, Int.reduceLT, Int.reduceEq, Int.reduceNe, Int.reduceAdd, Int.reduceSub, Int.reduceMul, Int.reduceNeg, Int.reduceToNat, Int.reduceNatCast, reduceCtorEq, eq_self]) ?_
      refine ⟨L ++ [v], r, rfl, by simp [hL], ?_, ?_, ?_, ?_⟩
      · rw [hp, List.length_drop]; omega
      · intro x hx
        rw [hp] at hx
        exact hcb x (List.mem_of_mem_drop hx)
      · rw [show m - (j + 1) = q by omega, ← hst v r rfl, hjoin]
      · simp (implicitDefEqProofs := false) only [↓reduceIte, go_sem, oread, owrite, Nat.reduceAdd, Nat.reduceSub, Nat.reduceMul, Nat.reduceLT, Nat.reduceLeDiff, Nat.reduceEqDiff, Nat.reduceBEq, Int.reduceLE, Int.reduceLT, Int.reduceEq, Int.reduceNe, Int.reduceAdd, Int.reduceSub, Int.reduceMul, Int.reduceNeg, Int.reduceToNat, Int.reduceNatCast, reduceCtorEq, eq_self, t2, t14, hw]
    · simp (implicitDefEqProofs := false) only [↓reduceIte, go_sem, oread, owrite, Nat.reduceAdd, Nat.reduceSub, Nat.reduceMul, Nat.reduceLT, Nat.reduceLeDiff, Nat.reduceEqDiff, Nat.reduceBEq, Int.reduceLE, Int.reduceLT, Int.reduceEq, Int.reduceNe, Int.reduceAdd, Int.reduceSub, Int.reduceMul, Int.reduceNeg, Int.reduceToNat, Int.reduceNatCast, reduceCtorEq, eq_self, he]
      refine AEnd.ret ?_
      have hN : readN k m b = ([], [], e) := by rw [← hjoin]; exact hsp v r e rfl he
      rw [hR, hN]
      simp (implicitDefEqProofs := false) only [↓reduceIte, go_sem, oread, owrite, Nat.reduceAdd, Nat.reduceSub, Nat.reduceMul, Nat.reduceLT, Nat.reduceLeDiff, Nat.reduceEqDiff, Nat.reduceBEq, Int.reduceLE, Int.reduceLT, Int.reduceEq, Int.reduceNe, Int.reduceAdd, Int.reduceSub, Int.reduceMul, Int.reduceNeg, Int.reduceToNat, Int.reduceNatCast, reduceCtorEq, eq_self, he]
  · rintro s H' ⟨L, c, rfl, hL, hcl, hcb, hjoin, t0, t2, t9, t14, t15⟩
    have hN : readN k m b = (L, c, 0) := by rw [← hjoin, Nat.sub_self]; simp [joinR, readN]
    rw [hN] at hR
    simp only [if_true] at hR
    rw [hR]
    clear hR hN hjoin hj0
    simp (implicitDefEqProofs := false) only [↓reduceIte, go_sem, oread, owrite, Nat.reduceAdd, Nat.reduceSub, Nat.reduceMul, Nat.reduceLT, Nat.reduceLeDiff, Nat.reduceEqDiff, Nat.reduceBEq, Int.reduceLE, Int.reduceLT, Int.reduceEq, Int.reduceNe, Int.reduceAdd, Int.reduceSub, Int.reduceMul, Int.reduceNeg, Int.reduceToNat, Int.reduceNatCast, reduceCtorEq, eq_self, t9, t14, t15, hL]
    refine awp_for3 (fun i s H' => H' = H ++ [.arr 24 3 m (L.map Val.enc)] ∧ (∀ j x y, j < i → L[j]? = some x → L[j + 1]? = some y → cmpV x y < 0) ∧ s 0 = .d (.list false (bys c)) ∧ s 9 = .sl H.length m 0 m ∧ s 13 = iA ((i + 1 : Nat) : Int)) (m - 1) (by omega) (Weak.refl _ _) ?_ ?_ ?_
    · refine ⟨rfl, fun j x y hj => by omega, ?_⟩
      simp (implicitDefEqProofs := false) only [↓reduceIte, go_sem, oread, owrite, Nat.reduceAdd, Nat.reduceSub, Nat.reduceMul, Nat.reduceLT, Nat.reduceLeDiff, Nat.reduceEqDiff, Nat.reduceBEq, Int.reduceLE, Int.reduceLT, Int.reduceEq, Int.reduceNe, Int.reduceAdd, Int.reduceSub, Int.reduceMul, Int.reduceNeg, Int.reduceToNat, Int.reduceNatCast, reduceCtorEq, eq_self, t0, t9]
    · rintro i s H' hi hw ⟨rfl, hri, t0, t9, t13⟩
      have h1 := List.getElem?_eq_getElem (show i < L.length by omega)
      have h2 := List.getElem?_eq_getElem (show i + 1 < L.length by omega)
      generalize L[i] = x at h1
      generalize L[i + 1] = y at h2
      have hw1 : IntKind.i64.wrap (((i + 1 : Nat) : Int) - 1) = (i : Int) := by rw [wrap64_in _ (by omega) (by omega)]; omega
      have hw2 : IntKind.i64.wrap (((i + 1 : Nat) : Int) + 1) = ((i + 1 + 1 : Nat) : Int) := by rw [wrap64_in _ (by omega) (by omega)]; omega
      have g0 : ((i + 1 : Nat) : Int) < (m : Int) := by omega
      have g1 : ((i : Nat) : Int) < (m : Int) := by omega
      generalize hI : i + 1 = I at *
      simp (implicitDefEqProofs := false) only [↓reduceIte, go_sem, oread, owrite, Nat.reduceAdd, Nat.reduceSub, Nat.reduceMul, Nat.reduceLT, Nat.reduceLeDiff, Nat.reduceEqDiff, Nat.reduceBEq, Int.reduceLE, Int.reduceLT, Int.reduceEq, Int.reduceNe, Int.reduceAdd, Int.reduceSub, Int.reduceMul, Int.reduceNeg, Int.reduceToNat, Int.reduceNatCast, reduceCtorEq, eq_self, t9, t13, List.length_map, hL, show ((I : Int) < (m : Int)) = True from eq_true g0]
      refine awp_draw K.mixed (by kernel_rfl) ?_
      simp (implicitDefEqProofs := false) only [↓reduceIte, go_sem, oread, owrite, Nat.reduceAdd, Nat.reduceSub, Nat.reduceMul, Nat.reduceLT, Nat.reduceLeDiff, Nat.reduceEqDiff, Nat.reduceBEq, Int.reduceLE, Int.reduceLT, Int.reduceEq, Int.reduceNe, Int.reduceAdd, Int.reduceSub, Int.reduceMul, Int.reduceNeg, Int.reduceToNat, Int.reduceNatCast, reduceCtorEq, eq_self, t9, t13, hw1, h1, h2, List.length_map, hL, show I < m by omega, show i < m by omega, Val.enc]
      refine KCall.ok (vcmp_does x y _) ?_
      by_cases hc : cmpV x y < 0
      · simp (implicitDefEqProofs := false) only [↓reduceIte, go_sem, oread, owrite, Nat.reduceAdd, Nat.reduceSub, Nat.reduceMul, Nat.reduceLT, Nat.reduceLeDiff, Nat.reduceEqDiff, Nat.reduceBEq, Int.reduceLE, Int.reduceLT, Int.reduceEq, Int.reduceNe, Int.reduceAdd, Int.reduceSub, Int.reduceMul, Int.reduceNeg, Int.reduceToNat, Int.reduceNatCast, reduceCtorEq, eq_self, show (0 ≤ cmpV x y) = False from eq_false (by omega), t13, hw2]
        refine Rnd.same ⟨rfl, ?_, ?_⟩
        · intro j a b hj
          rcases Nat.lt_or_ge j i with h | h
          · exact hri j a b h
          · obtain rfl : j = i := by omega
            rw [hI, h1, h2]
            rintro ⟨rfl⟩ ⟨rfl⟩
            exact hc
        · simp (implicitDefEqProofs := false) only [↓reduceIte, go_sem, oread, owrite, Nat.reduceAdd, Nat.reduceSub, Nat.reduceMul, Nat.reduceLT, Nat.reduceLeDiff, Nat.reduceEqDiff, Nat.reduceBEq, Int.reduceLE, Int.reduceLT, Int.reduceEq, Int.reduceNe, Int.reduceAdd, Int.reduceSub, Int.reduceMul, Int.reduceNeg, Int.reduceToNat, Int.reduceNatCast, reduceCtorEq, eq_self, t0, t9]
      · simp (implicitDefEqProofs := false) only [↓reduceIte, go_sem, oread, owrite, Nat.reduceAdd, Nat.reduceSub, Nat.reduceMul, Nat.reduceLT, Nat.reduceLeDiff, Nat.reduceEqDiff, Nat.reduceBEq, Int.reduceLE, Int.reduceLT, Int.reduceEq, Int.reduceNe, Int.reduceAdd, Int.reduceSub, Int.reduceMul, Int.reduceNeg, Int.reduceToNat, Int.reduceNatCast, reduceCtorEq, eq_self, show (0 ≤ cmpV x y) = True from eq_true (by omega)]
        refine AEnd.ret ?_
        have hno : ¬ RiseN L := fun h => hc (h i x y h1 (by rw [hI]; exact h2))
        rw [if_neg hno]
        simp (implicitDefEqProofs := false) only [↓reduceIte, go_sem, oread, owrite, Nat.reduceAdd, Nat.reduceSub, Nat.reduceMul, Nat.reduceLT, Nat.reduceLeDiff, Nat.reduceEqDiff, Nat.reduceBEq, Int.reduceLE, Int.reduceLT, Int.reduceEq, Int.reduceNe, Int.reduceAdd, Int.reduceSub, Int.reduceMul, Int.reduceNeg, Int.reduceToNat, Int.reduceNatCast, reduceCtorEq, eq_self]
    · rintro s H' ⟨rfl, hri, t0, t9, t13⟩
      have hyes : RiseN L := fun i x y hx hy => hri i x y (by have := (List.getElem?_eq_some_iff.1 hy).1; omega) hx hy
      have g0 : ¬ ((m - 1 : Nat) : Int) + 1 < (m : Int) := by omega
      rw [if_pos hyes]
      simp (implicitDefEqProofs := false) only [↓reduceIte, go_sem, oread, owrite, Nat.reduceAdd, Nat.reduceSub, Nat.reduceMul, Nat.reduceLT, Nat.reduceLeDiff, Nat.reduceEqDiff, Nat.reduceBEq, Int.reduceLE, Int.reduceLT, Int.reduceEq, Int.reduceNe, Int.reduceAdd, Int.reduceSub, Int.reduceMul, Int.reduceNeg, Int.reduceToNat, Int.reduceNatCast, reduceCtorEq, eq_self, t0, t9, t13, List.length_map, hL, eq_false g0]
      refine AEnd.ret ?_
      simp (implicitDefEqProofs := false) only [↓reduceIte, go_sem, oread, owrite, Nat.reduceAdd, Nat.reduceSub, Nat.reduceMul, Nat.reduceLT, Nat.reduceLeDiff, Nat.reduceEqDiff, Nat.reduceBEq, Int.reduceLE, Int.reduceLT, Int.reduceEq, Int.reduceNe, Int.reduceAdd, Int.reduceSub, Int.reduceMul, Int.reduceNeg, Int.reduceToNat, Int.reduceNatCast, reduceCtorEq, eq_self, List.take_of_length_le (show (L.map Val.enc).length ≤ m by rw [List.length_map]; omega)]
theorem dread_does (b : List Nat) (m : Nat) (k : Int) (hm : m ≤ 4096) (hl : b.length ≤ 140737488351232) (hb : ∀ c ∈ b, c < 256) (H : AHeap) :
    Does Try.prog 56 [.d (.list false (bys b)), iA m, iA k] H (.ok (.tup [.d (.list false ((readR k m b).1.map Val.enc)), .d (.list false (bys (readR k m b).2.1)), iA (readR k m b).2.2])) H := by
  have h := dread_does' b m k hm hl hb H
  by_cases he : (readR k m b).2.2 = 0
  · rw [if_pos he] at h
    rw [he]
    exact h
  · rw [if_neg he] at h
    have hz : readR k m b = ([], [], (readR k m b).2.2) := by
      unfold readR at he ⊢
      split
      · rename_i h1
        rw [if_pos h1] at he
        split
        · rename_i h2
          rw [if_pos h2] at he
          exact absurd h1 he
        · rfl
      · rfl
    rw [hz]
    exact Does.subT h (.cons .nil (.cons .nil (.cons (.refl _) .nil)))
end Go.Proofs.Ytkapgooedfompaa
namespace Go.Proofs.Ytkapgooedfompaa
open Go.Proofs.YtkapgooedfompaaAw Go.RowKit
set_option linter.unusedVariables false
set_option linter.unusedSimpArgs false
theorem readN_len (k : Int) : ∀ (n : Nat) (b : List Nat), (readN k n b).2.2 = 0 → (readN k n b).1.length = n
  | 0, _, _ => rfl
  | n + 1, b, h => by
    unfold readN at h ⊢
    split
    · rename_i h1
      rw [if_pos h1] at h
      split
      · rename_i h2
        simp [readN_len k n _ h2]
      · rename_i h2
        rw [if_neg h2] at h
        exact absurd h h2
    · rename_i h1
      rw [if_neg h1] at h
      exact absurd h h1
theorem readN_suffix (k : Int) : ∀ (n : Nat) (b : List Nat), ∃ j, (readN k n b).2.1 = b.drop j
  | 0, b => ⟨0, rfl⟩
  | n + 1, b => by
    have nil : ∃ j, ([] : List Nat) = b.drop j := ⟨b.length, by simp⟩
    unfold readN
    split
    · split
      · obtain ⟨j, h⟩ := ofV_suffix b k
        obtain ⟨i, h2⟩ := readN_suffix k n (ofV b k).2.1
        exact ⟨j + i, by rw [h2, h, List.drop_drop]⟩
      · exact nil
    · exact nil
theorem readR_ok {k : Int} {n : Nat} {b : List Nat} (h : (readR k n b).2.2 = 0) : readR k n b = readN k n b ∧ (readN k n b).2.2 = 0 ∧ RiseN (readN k n b).1 := by
  unfold readR at h ⊢
  split
  · rename_i h1
    rw [if_pos h1] at h
    split
    · rename_i h2
      exact ⟨rfl, h1, h2⟩
    · rename_i h2
      rw [if_neg h2] at h
      simp at h
  · rename_i h1
    rw [if_neg h1] at h
    exact absurd h h1
/-- What follows the words: the codes, or an error. -/
noncomputable def tailV (q : List Val × List Nat × Int) (n : Nat) : List Val × List Nat × Int :=
  if q.2.2 ≠ 0 then ([], [], q.2.2)
  else if unpackE q.2.1 n (widP q.1.length) ≠ 0 then ([], [], unpackE q.2.1 n (widP q.1.length))
  else if usedP (unpackL q.2.1 n (widP q.1.length)) q.1.length then (q.1, unpackL q.2.1 n (widP q.1.length), 0) else ([], [], 4)
noncomputable def toCodesV (b : List Nat) (n k : Int) : List Val × List Nat × Int :=
  if kindsP k = false then ([], [], 1)
  else if n < 0 then ([], [], 2)
  else if 4096 < n then ([], [], 2)
  else if (getP b).2.2 ≠ 0 then ([], [], (getP b).2.2)
  else if n < (getP b).1 then ([], [], 4)
  else tailV (readR k (getP b).1 (b.drop (getP b).2.1)) n.toNat
set_option maxRecDepth 10000 in
set_option maxHeartbeats 2000000 in
theorem tocodes_does (b : List Nat) (n k : Int) (hl : b.length ≤ 140737488351232) (hb : ∀ c ∈ b, c < 256) (H : AHeap) :
    Does Try.prog 36 [.d (.list false (bys b)), iA n, iA k] H (.ok (.tup [.d (.list false ((toCodesV b n k).1.map Val.enc)), .d (.list false (us (toCodesV b n k).2.1)), iA (toCodesV b n k).2.2])) H := by
  by_cases hk : kindsP k = false
  · rw [show toCodesV b n k = ([], [], 1) from if_pos hk]
    refine Does.subT (cs := [.d (.v (.slice none 0 0)), .d (.v (.slice none 0 0)), iA 1]) ?_ (.cons .nil (.cons .nil (.cons (.refl _) .nil)))
    refine Does.of_awp (hint := (fun _ => false)) Try.func36 (by kernel_rfl) rfl [6, 7, 8] (by kernel_rfl) (by decide) (by simp [Try.ntmps36]) ?_
    rw [Try.ntmps36]
    simp (implicitDefEqProofs := false) only [↓reduceIte, go_sem, oread, owrite, Nat.reduceAdd, Nat.reduceSub, Nat.reduceMul, Nat.reduceLT, Nat.reduceLeDiff, Nat.reduceEqDiff, Nat.reduceBEq, Int.reduceLE, Int.reduceLT, Int.reduceEq, Int.reduceNe, Int.reduceAdd, Int.reduceSub, Int.reduceMul, Int.reduceNeg, Int.reduceToNat, Int.reduceNatCast, reduceCtorEq, eq_self]
    refine KCall.ok (plainNone_does k _) ?_
    simp (implicitDefEqProofs := false) only [↓reduceIte, go_sem, oread, owrite, Nat.reduceAdd, Nat.reduceSub, Nat.reduceMul, Nat.reduceLT, Nat.reduceLeDiff, Nat.reduceEqDiff, Nat.reduceBEq, Int.reduceLE, Int.reduceLT, Int.reduceEq, Int.reduceNe, Int.reduceAdd, Int.reduceSub, Int.reduceMul, Int.reduceNeg, Int.reduceToNat, Int.reduceNatCast, reduceCtorEq, eq_self, hk, Bool.false_eq_true]
    refine AEnd.ret0 ?_
    simp (implicitDefEqProofs := false) only [↓reduceIte, go_sem, oread, owrite, Nat.reduceAdd, Nat.reduceSub, Nat.reduceMul, Nat.reduceLT, Nat.reduceLeDiff, Nat.reduceEqDiff, Nat.reduceBEq, Int.reduceLE, Int.reduceLT, Int.reduceEq, Int.reduceNe, Int.reduceAdd, Int.reduceSub, Int.reduceMul, Int.reduceNeg, Int.reduceToNat, Int.reduceNatCast, reduceCtorEq, eq_self]
  rw [show toCodesV b n k = _ from if_neg hk]
  have hk1 : kindsP k = true := by simpa using hk
  by_cases h1 : n < 0
  · rw [if_pos h1]
    refine Does.subT (cs := [.d (.v (.slice none 0 0)), .d (.v (.slice none 0 0)), iA 2]) ?_ (.cons .nil (.cons .nil (.cons (.refl _) .nil)))
    refine Does.of_awp (hint := (fun _ => false)) Try.func36 (by kernel_rfl) rfl [6, 7, 8] (by kernel_rfl) (by decide) (by simp [Try.ntmps36]) ?_
    rw [Try.ntmps36]
    simp (implicitDefEqProofs := false) only [↓reduceIte, go_sem, oread, owrite, Nat.reduceAdd, Nat.reduceSub, Nat.reduceMul, Nat.reduceLT, Nat.reduceLeDiff, Nat.reduceEqDiff, Nat.reduceBEq, Int.reduceLE, Int.reduceLT, Int.reduceEq, Int.reduceNe, Int.reduceAdd, Int.reduceSub, Int.reduceMul, Int.reduceNeg, Int.reduceToNat, Int.reduceNatCast, reduceCtorEq, eq_self]
    refine KCall.ok (plainNone_does k _) ?_
    simp (implicitDefEqProofs := false) only [↓reduceIte, go_sem, oread, owrite, Nat.reduceAdd, Nat.reduceSub, Nat.reduceMul, Nat.reduceLT, Nat.reduceLeDiff, Nat.reduceEqDiff, Nat.reduceBEq, Int.reduceLE, Int.reduceLT, Int.reduceEq, Int.reduceNe, Int.reduceAdd, Int.reduceSub, Int.reduceMul, Int.reduceNeg, Int.reduceToNat, Int.reduceNatCast, reduceCtorEq, eq_self, hk1, h1]
    refine AEnd.ret0 ?_
    simp (implicitDefEqProofs := false) only [↓reduceIte, go_sem, oread, owrite, Nat.reduceAdd, Nat.reduceSub, Nat.reduceMul, Nat.reduceLT, Nat.reduceLeDiff, Nat.reduceEqDiff, Nat.reduceBEq, Int.reduceLE, Int.reduceLT, Int.reduceEq, Int.reduceNe, Int.reduceAdd, Int.reduceSub, Int.reduceMul, Int.reduceNeg, Int.reduceToNat, Int.reduceNatCast, reduceCtorEq, eq_self]
  rw [if_neg h1]
  by_cases h2 : 4096 < n
  · rw [if_pos h2]
    refine Does.subT (cs := [.d (.v (.slice none 0 0)), .d (.v (.slice none 0 0)), iA 2]) ?_ (.cons .nil (.cons .nil (.cons (.refl _) .nil)))
    refine Does.of_awp (hint := (fun _ => false)) Try.func36 (by kernel_rfl) rfl [6, 7, 8] (by kernel_rfl) (by decide) (by simp [Try.ntmps36]) ?_
    rw [Try.ntmps36]
    simp (implicitDefEqProofs := false) only [↓reduceIte, go_sem, oread, owrite, Nat.reduceAdd, Nat.reduceSub, Nat.reduceMul, Nat.reduceLT, Nat.reduceLeDiff, Nat.reduceEqDiff, Nat.reduceBEq, Int.reduceLE, Int.reduceLT, Int.reduceEq, Int.reduceNe, Int.reduceAdd, Int.reduceSub, Int.reduceMul, Int.reduceNeg, Int.reduceToNat, Int.reduceNatCast, reduceCtorEq, eq_self]
    refine KCall.ok (plainNone_does k _) ?_
    simp (implicitDefEqProofs := false) only [↓reduceIte, go_sem, oread, owrite, Nat.reduceAdd, Nat.reduceSub, Nat.reduceMul, Nat.reduceLT, Nat.reduceLeDiff, Nat.reduceEqDiff, Nat.reduceBEq, Int.reduceLE, Int.reduceLT, Int.reduceEq, Int.reduceNe, Int.reduceAdd, Int.reduceSub, Int.reduceMul, Int.reduceNeg, Int.reduceToNat, Int.reduceNatCast, reduceCtorEq, eq_self, hk1, h1, h2]
    refine AEnd.ret0 ?_
    simp (implicitDefEqProofs := false) only [↓reduceIte, go_sem, oread, owrite, Nat.reduceAdd, Nat.reduceSub, Nat.reduceMul, Nat.reduceLT, Nat.reduceLeDiff, Nat.reduceEqDiff, Nat.reduceBEq, Int.reduceLE, Int.reduceLT, Int.reduceEq, Int.reduceNe, Int.reduceAdd, Int.reduceSub, Int.reduceMul, Int.reduceNeg, Int.reduceToNat, Int.reduceNatCast, reduceCtorEq, eq_self]
  rw [if_neg h2]
  obtain ⟨N, rfl⟩ : ∃ N : Nat, n = (N : Int) := ⟨n.toNat, by omega⟩
  rw [Int.toNat_natCast]
  have h1f : ((N : Int) < 0) = False := eq_false h1
  have h2f : ((4096 : Int) < (N : Int)) = False := eq_false h2
  have hgd := fun H => getN_does b false (by omega) hb H
  have hgl := getP_le b
  have hglt := getP_lt b
  generalize getP b = g at *
  obtain ⟨many, j, e⟩ := g
  simp only at hgd hgl hglt ⊢
  have hNu := wrapU64N N (by omega)
  by_cases he : e = 0
  · subst he
    rw [if_neg (by simp)]
    by_cases h3 : (N : Int) < (many : Int)
    · rw [if_pos h3]
      refine Does.subT (cs := [.d (.v (.slice none 0 0)), .d (.v (.slice none 0 0)), iA 4]) ?_ (.cons .nil (.cons .nil (.cons (.refl _) .nil)))
      refine Does.of_awp (hint := (fun _ => false)) Try.func36 (by kernel_rfl) rfl [6, 7, 8] (by kernel_rfl) (by decide) (by simp [Try.ntmps36]) ?_
      rw [Try.ntmps36]
      simp (implicitDefEqProofs := false) only [↓reduceIte, go_sem, oread, owrite, Nat.reduceAdd, Nat.reduceSub, Nat.reduceMul, Nat.reduceLT, Nat.reduceLeDiff, Nat.reduceEqDiff, Nat.reduceBEq, Int.reduceLE, Int.reduceLT, Int.reduceEq, Int.reduceNe, Int.reduceAdd, Int.reduceSub, Int.reduceMul, Int.reduceNeg, Int.reduceToNat, Int.reduceNatCast, reduceCtorEq, eq_self]
      refine KCall.ok (plainNone_does k _) ?_
      simp (implicitDefEqProofs := false) only [↓reduceIte, go_sem, oread, owrite, Nat.reduceAdd, Nat.reduceSub, Nat.reduceMul, Nat.reduceLT, Nat.reduceLeDiff, Nat.reduceEqDiff, Nat.reduceBEq, Int.reduceLE, Int.reduceLT, Int.reduceEq, Int.reduceNe, Int.reduceAdd, Int.reduceSub, Int.reduceMul, Int.reduceNeg, Int.reduceToNat, Int.reduceNatCast, reduceCtorEq, eq_self, hk1, h1f, h2f]
      refine KCall.ok (hgd _) ?_
      simp (implicitDefEqProofs := false) only [↓reduceIte, go_sem, oread, owrite, Nat.reduceAdd, Nat.reduceSub, Nat.reduceMul, Nat.reduceLT, Nat.reduceLeDiff, Nat.reduceEqDiff, Nat.reduceBEq, Int.reduceLE, Int.reduceLT, Int.reduceEq, Int.reduceNe, Int.reduceAdd, Int.reduceSub, Int.reduceMul, Int.reduceNeg, Int.reduceToNat, Int.reduceNatCast, reduceCtorEq, eq_self, hNu, eq_true h3]
      refine AEnd.ret0 ?_
      simp (implicitDefEqProofs := false) only [↓reduceIte, go_sem, oread, owrite, Nat.reduceAdd, Nat.reduceSub, Nat.reduceMul, Nat.reduceLT, Nat.reduceLeDiff, Nat.reduceEqDiff, Nat.reduceBEq, Int.reduceLE, Int.reduceLT, Int.reduceEq, Int.reduceNe, Int.reduceAdd, Int.reduceSub, Int.reduceMul, Int.reduceNeg, Int.reduceToNat, Int.reduceNatCast, reduceCtorEq, eq_self]
    rw [if_neg h3]
    have h3f : ((N : Int) < (many : Int)) = False := eq_false h3
    have hmw : IntKind.i64.wrap (many : Int) = (many : Int) := wrap64_in _ (by omega) (by omega)
    have hj0 : ((0 : Int) ≤ (j : Int)) = True := eq_true (by omega)
    have hdb : ∀ c ∈ b.drop j, c < 256 := fun c hc => hb c (List.mem_of_mem_drop hc)
    have hrd := fun H => dread_does (b.drop j) many k (by omega) (by rw [List.length_drop]; omega) hdb H
    have hro := readR_ok (k := k) (n := many) (b := b.drop j)
    have hrl := readN_len k many (b.drop j)
    obtain ⟨i, hrs⟩ := readN_suffix k many (b.drop j)
    have hbt : (bys b).take b.length = bys b := List.take_of_length_le (by rw [bys_len]; exact Nat.le_refl _)
    generalize readN k many (b.drop j) = q2 at *
    generalize readR k many (b.drop j) = q at *
    obtain ⟨W, r, f⟩ := q
    simp only at hrd hro
    by_cases hf : f = 0
    · subst hf
      obtain ⟨e1, e2, e3⟩ := hro rfl
      subst e1
      have hW : W.length = many := hrl rfl
      have hrs' : r = (b.drop j).drop i := hrs
      have hrb : ∀ c ∈ r, c < 256 := fun c hc => hdb c (List.mem_of_mem_drop (hrs' ▸ hc))
      have hrlen : r.length ≤ b.length := by rw [hrs', List.length_drop, List.length_drop]; omega
      have hwl := widP_le (n := W.length) (by omega)
      have hun := fun H => unpack_does r N (widP W.length) false (by omega) hrb (by omega) (by omega) H
      have hT : tailV (W, r, 0) N = if unpackE r N (widP W.length) ≠ 0 then ([], [], unpackE r N (widP W.length)) else if usedP (unpackL r N (widP W.length)) W.length then (W, unpackL r N (widP W.length), 0) else ([], [], 4) := rfl
      have hdw := fun H => dwidth_does W.length (by omega) H
      have hCl := unpackL_len r N (widP W.length)
      have hClt := unpackL_lt r N (widP W.length) (by omega)
      unfold unpackA at hun
      rw [hT]
      generalize widP W.length = wd at *
      generalize unpackL r N wd = C at *
      generalize unpackE r N wd = z at *
      by_cases hz : z = 0
      · subst hz
        rw [if_neg (by simp)]
        have hus := fun H => used_does C W.length H (by omega) (by omega) hClt
        rw [if_pos rfl] at hun
        cases hu : usedP C W.length with
        | true =>
          rw [hu] at hus
          refine Does.of_awp (hint := (fun _ => false)) Try.func36 (by kernel_rfl) rfl [6, 7, 8] (by kernel_rfl) (by decide) (by simp [Try.ntmps36]) ?_
          rw [Try.ntmps36]
          simp (implicitDefEqProofs := false) only [↓reduceIte, go_sem, oread, owrite, Nat.reduceAdd, Nat.reduceSub, Nat.reduceMul, Nat.reduceLT, Nat.reduceLeDiff, Nat.reduceEqDiff, Nat.reduceBEq, Int.reduceLE, Int.reduceLT, Int.reduceEq, Int.reduceNe, Int.reduceAdd, Int.reduceSub, Int.reduceMul, Int.reduceNeg, Int.reduceToNat, Int.reduceNatCast, reduceCtorEq, eq_self]
          refine KCall.ok (plainNone_does k _) ?_
          simp (implicitDefEqProofs := false) only [↓reduceIte, go_sem, oread, owrite, Nat.reduceAdd, Nat.reduceSub, Nat.reduceMul, Nat.reduceLT, Nat.reduceLeDiff, Nat.reduceEqDiff, Nat.reduceBEq, Int.reduceLE, Int.reduceLT, Int.reduceEq, Int.reduceNe, Int.reduceAdd, Int.reduceSub, Int.reduceMul, Int.reduceNeg, Int.reduceToNat, Int.reduceNatCast, reduceCtorEq, eq_self, hk1, h1f, h2f]
          refine KCall.ok (hgd _) ?_
          simp (implicitDefEqProofs := false) only [↓reduceIte, go_sem, oread, owrite, Nat.reduceAdd, Nat.reduceSub, Nat.reduceMul, Nat.reduceLT, Nat.reduceLeDiff, Nat.reduceEqDiff, Nat.reduceBEq, Int.reduceLE, Int.reduceLT, Int.reduceEq, Int.reduceNe, Int.reduceAdd, Int.reduceSub, Int.reduceMul, Int.reduceNeg, Int.reduceToNat, Int.reduceNatCast, reduceCtorEq, eq_self, hNu, h3f, bys_one, bys_len, hj0, hbt, drop_bys, hmw]
          refine ⟨by omega, KCall.ok (hrd _) ?_⟩
          simp (implicitDefEqProofs := false) only [↓reduceIte, go_sem, oread, owrite, Nat.reduceAdd, Nat.reduceSub, Nat.reduceMul, Nat.reduceLT, Nat.reduceLeDiff, Nat.reduceEqDiff, Nat.reduceBEq, Int.reduceLE, Int.reduceLT, Int.reduceEq, Int.reduceNe, Int.reduceAdd, Int.reduceSub, Int.reduceMul, Int.reduceNeg, Int.reduceToNat, Int.reduceNatCast, reduceCtorEq, eq_self, List.length_map]
          refine KCall.ok (hdw _) ?_
          simp (implicitDefEqProofs := false) only [↓reduceIte, go_sem, oread, owrite, Nat.reduceAdd, Nat.reduceSub, Nat.reduceMul, Nat.reduceLT, Nat.reduceLeDiff, Nat.reduceEqDiff, Nat.reduceBEq, Int.reduceLE, Int.reduceLT, Int.reduceEq, Int.reduceNe, Int.reduceAdd, Int.reduceSub, Int.reduceMul, Int.reduceNeg, Int.reduceToNat, Int.reduceNatCast, reduceCtorEq, eq_self]
          refine KCall.ok (hun _) ?_
          simp (implicitDefEqProofs := false) only [↓reduceIte, go_sem, oread, owrite, Nat.reduceAdd, Nat.reduceSub, Nat.reduceMul, Nat.reduceLT, Nat.reduceLeDiff, Nat.reduceEqDiff, Nat.reduceBEq, Int.reduceLE, Int.reduceLT, Int.reduceEq, Int.reduceNe, Int.reduceAdd, Int.reduceSub, Int.reduceMul, Int.reduceNeg, Int.reduceToNat, Int.reduceNatCast, reduceCtorEq, eq_self, List.length_map]
          refine KCall.ok (hus _) ?_
          simp (implicitDefEqProofs := false) only [↓reduceIte, go_sem, oread, owrite, Nat.reduceAdd, Nat.reduceSub, Nat.reduceMul, Nat.reduceLT, Nat.reduceLeDiff, Nat.reduceEqDiff, Nat.reduceBEq, Int.reduceLE, Int.reduceLT, Int.reduceEq, Int.reduceNe, Int.reduceAdd, Int.reduceSub, Int.reduceMul, Int.reduceNeg, Int.reduceToNat, Int.reduceNatCast, reduceCtorEq, eq_self]
          refine AEnd.ret0 ?_
          simp (implicitDefEqProofs := false) only [↓reduceIte, go_sem, oread, owrite, Nat.reduceAdd, Nat.reduceSub, Nat.reduceMul, Nat.reduceLT, Nat.reduceLeDiff, Nat.reduceEqDiff, Nat.reduceBEq, Int.reduceLE, Int.reduceLT, Int.reduceEq, Int.reduceNe, Int.reduceAdd, Int.reduceSub, Int.reduceMul, Int.reduceNeg, Int.reduceToNat, Int.reduceNatCast, reduceCtorEq, eq_self]
        | false =>
          rw [hu] at hus
          rw [if_neg (by simp)]
          refine Does.subT (cs := [.d (.v (.slice none 0 0)), .d (.v (.slice none 0 0)), iA 4]) ?_ (.cons .nil (.cons .nil (.cons (.refl _) .nil)))
          refine Does.of_awp (hint := (fun _ => false)) Try.func36 (by kernel_rfl) rfl [6, 7, 8] (by kernel_rfl) (by decide) (by simp [Try.ntmps36]) ?_
          rw [Try.ntmps36]
          simp (implicitDefEqProofs := false) only [↓reduceIte, go_sem, oread, owrite, Nat.reduceAdd, Nat.reduceSub, Nat.reduceMul, Nat.reduceLT, Nat.reduceLeDiff, Nat.reduceEqDiff, Nat.reduceBEq, Int.reduceLE, Int.reduceLT, Int.reduceEq, Int.reduceNe, Int.reduceAdd, Int.reduceSub, Int.reduceMul, Int.reduceNeg, Int.reduceToNat, Int.reduceNatCast, reduceCtorEq, eq_self]
          refine KCall.ok (plainNone_does k _) ?_
          simp (implicitDefEqProofs := false) only [↓reduceIte, go_sem, oread, owrite, Nat.reduceAdd, Nat.reduceSub, Nat.reduceMul, Nat.reduceLT, Nat.reduceLeDiff, Nat.reduceEqDiff, Nat.reduceBEq, Int.reduceLE, Int.reduceLT, Int.reduceEq, Int.reduceNe, Int.reduceAdd, Int.reduceSub, Int.reduceMul, Int.reduceNeg, Int.reduceToNat, Int.reduceNatCast, reduceCtorEq, eq_self, hk1, h1f, h2f]
          refine KCall.ok (hgd _) ?_
          simp (implicitDefEqProofs := false) only [↓reduceIte, go_sem, oread, owrite, Nat.reduceAdd, Nat.reduceSub, Nat.reduceMul, Nat.reduceLT, Nat.reduceLeDiff, Nat.reduceEqDiff, Nat.reduceBEq, Int.reduceLE, Int.reduceLT, Int.reduceEq, Int.reduceNe, Int.reduceAdd, Int.reduceSub, Int.reduceMul, Int.reduceNeg, Int.reduceToNat, Int.reduceNatCast, reduceCtorEq, eq_self, hNu, h3f, bys_one, bys_len, hj0, hbt, drop_bys, hmw]
          refine ⟨by omega, KCall.ok (hrd _) ?_⟩
          simp (implicitDefEqProofs := false) only [↓reduceIte, go_sem, oread, owrite, Nat.reduceAdd, Nat.reduceSub, Nat.reduceMul, Nat.reduceLT, Nat.reduceLeDiff, Nat.reduceEqDiff, Nat.reduceBEq, Int.reduceLE, Int.reduceLT, Int.reduceEq, Int.reduceNe, Int.reduceAdd, Int.reduceSub, Int.reduceMul, Int.reduceNeg, Int.reduceToNat, Int.reduceNatCast, reduceCtorEq, eq_self, List.length_map]
          refine KCall.ok (hdw _) ?_
          simp (implicitDefEqProofs := false) only [↓reduceIte, go_sem, oread, owrite, Nat.reduceAdd, Nat.reduceSub, Nat.reduceMul, Nat.reduceLT, Nat.reduceLeDiff, Nat.reduceEqDiff, Nat.reduceBEq, Int.reduceLE, Int.reduceLT, Int.reduceEq, Int.reduceNe, Int.reduceAdd, Int.reduceSub, Int.reduceMul, Int.reduceNeg, Int.reduceToNat, Int.reduceNatCast, reduceCtorEq, eq_self]
          refine KCall.ok (hun _) ?_
          simp (implicitDefEqProofs := false) only [↓reduceIte, go_sem, oread, owrite, Nat.reduceAdd, Nat.reduceSub, Nat.reduceMul, Nat.reduceLT, Nat.reduceLeDiff, Nat.reduceEqDiff, Nat.reduceBEq, Int.reduceLE, Int.reduceLT, Int.reduceEq, Int.reduceNe, Int.reduceAdd, Int.reduceSub, Int.reduceMul, Int.reduceNeg, Int.reduceToNat, Int.reduceNatCast, reduceCtorEq, eq_self, List.length_map]
          refine KCall.ok (hus _) ?_
          simp (implicitDefEqProofs := false) only [↓reduceIte, go_sem, oread, owrite, Nat.reduceAdd, Nat.reduceSub, Nat.reduceMul, Nat.reduceLT, Nat.reduceLeDiff, Nat.reduceEqDiff, Nat.reduceBEq, Int.reduceLE, Int.reduceLT, Int.reduceEq, Int.reduceNe, Int.reduceAdd, Int.reduceSub, Int.reduceMul, Int.reduceNeg, Int.reduceToNat, Int.reduceNatCast, reduceCtorEq, eq_self]
          refine AEnd.ret0 ?_
          simp (implicitDefEqProofs := false) only [↓reduceIte, go_sem, oread, owrite, Nat.reduceAdd, Nat.reduceSub, Nat.reduceMul, Nat.reduceLT, Nat.reduceLeDiff, Nat.reduceEqDiff, Nat.reduceBEq, Int.reduceLE, Int.reduceLT, Int.reduceEq, Int.reduceNe, Int.reduceAdd, Int.reduceSub, Int.reduceMul, Int.reduceNeg, Int.reduceToNat, Int.reduceNatCast, reduceCtorEq, eq_self]
      · rw [if_pos hz]
        rw [if_neg hz] at hun
        refine Does.subT (cs := [.d (.v (.slice none 0 0)), .d (.v (.slice none 0 0)), iA z]) ?_ (.cons .nil (.cons .nil (.cons (.refl _) .nil)))
        refine Does.of_awp (hint := (fun _ => false)) Try.func36 (by kernel_rfl) rfl [6, 7, 8] (by kernel_rfl) (by decide) (by simp [Try.ntmps36]) ?_
        rw [Try.ntmps36]
        simp (implicitDefEqProofs := false) only [↓reduceIte, go_sem, oread, owrite, Nat.reduceAdd, Nat.reduceSub, Nat.reduceMul, Nat.reduceLT, Nat.reduceLeDiff, Nat.reduceEqDiff, Nat.reduceBEq, Int.reduceLE, Int.reduceLT, Int.reduceEq, Int.reduceNe, Int.reduceAdd, Int.reduceSub, Int.reduceMul, Int.reduceNeg, Int.reduceToNat, Int.reduceNatCast, reduceCtorEq, eq_self]
        refine KCall.ok (plainNone_does k _) ?_
        simp (implicitDefEqProofs := false) only [↓reduceIte, go_sem, oread, owrite, Nat.reduceAdd, Nat.reduceSub, Nat.reduceMul, Nat.reduceLT, Nat.reduceLeDiff, Nat.reduceEqDiff, Nat.reduceBEq, Int.reduceLE, Int.reduceLT, Int.reduceEq, Int.reduceNe, Int.reduceAdd, Int.reduceSub, Int.reduceMul, Int.reduceNeg, Int.reduceToNat, Int.reduceNatCast, reduceCtorEq, eq_self, hk1, h1f, h2f]
        refine KCall.ok (hgd _) ?_
        simp (implicitDefEqProofs := false) only [↓reduceIte, go_sem, oread, owrite, Nat.reduceAdd, Nat.reduceSub, Nat.reduceMul, Nat.reduceLT, Nat.reduceLeDiff, Nat.reduceEqDiff, Nat.reduceBEq, Int.reduceLE, Int.reduceLT, Int.reduceEq, Int.reduceNe, Int.reduceAdd, Int.reduceSub, Int.reduceMul, Int.reduceNeg, Int.reduceToNat, Int.reduceNatCast, reduceCtorEq, eq_self, hNu, h3f, bys_one, bys_len, hj0, hbt, drop_bys, hmw]
        refine ⟨by omega, KCall.ok (hrd _) ?_⟩
        simp (implicitDefEqProofs := false) only [↓reduceIte, go_sem, oread, owrite, Nat.reduceAdd, Nat.reduceSub, Nat.reduceMul, Nat.reduceLT, Nat.reduceLeDiff, Nat.reduceEqDiff, Nat.reduceBEq, Int.reduceLE, Int.reduceLT, Int.reduceEq, Int.reduceNe, Int.reduceAdd, Int.reduceSub, Int.reduceMul, Int.reduceNeg, Int.reduceToNat, Int.reduceNatCast, reduceCtorEq, eq_self, List.length_map]
        refine KCall.ok (hdw _) ?_
        simp (implicitDefEqProofs := false) only [↓reduceIte, go_sem, oread, owrite, Nat.reduceAdd, Nat.reduceSub, Nat.reduceMul, Nat.reduceLT, Nat.reduceLeDiff, Nat.reduceEqDiff, Nat.reduceBEq, Int.reduceLE, Int.reduceLT, Int.reduceEq, Int.reduceNe, Int.reduceAdd, Int.reduceSub, Int.reduceMul, Int.reduceNeg, Int.reduceToNat, Int.reduceNatCast, reduceCtorEq, eq_self]
        refine KCall.ok (hun _) ?_
        simp (implicitDefEqProofs := false) only [↓reduceIte, go_sem, oread, owrite, Nat.reduceAdd, Nat.reduceSub, Nat.reduceMul, Nat.reduceLT, Nat.reduceLeDiff, Nat.reduceEqDiff, Nat.reduceBEq, Int.reduceLE, Int.reduceLT, Int.reduceEq, Int.reduceNe, Int.reduceAdd, Int.reduceSub, Int.reduceMul, Int.reduceNeg, Int.reduceToNat, Int.reduceNatCast, reduceCtorEq, eq_self, hz]
        refine AEnd.ret0 ?_
        simp (implicitDefEqProofs := false) only [↓reduceIte, go_sem, oread, owrite, Nat.reduceAdd, Nat.reduceSub, Nat.reduceMul, Nat.reduceLT, Nat.reduceLeDiff, Nat.reduceEqDiff, Nat.reduceBEq, Int.reduceLE, Int.reduceLT, Int.reduceEq, Int.reduceNe, Int.reduceAdd, Int.reduceSub, Int.reduceMul, Int.reduceNeg, Int.reduceToNat, Int.reduceNatCast, reduceCtorEq, eq_self]
    · rw [show tailV (W, r, f) N = ([], [], f) from if_pos hf]
      refine Does.subT (cs := [.d (.v (.slice none 0 0)), .d (.v (.slice none 0 0)), iA f]) ?_ (.cons .nil (.cons .nil (.cons (.refl _) .nil)))
      refine Does.of_awp (hint := (fun _ => false)) Try.func36 (by kernel_rfl) rfl [6, 7, 8] (by kernel_rfl) (by decide) (by simp [Try.ntmps36]) ?_
      rw [Try.ntmps36]
      simp (implicitDefEqProofs := false) only [↓reduceIte, go_sem, oread, owrite, Nat.reduceAdd, Nat.reduceSub, Nat.reduceMul, Nat.reduceLT, Nat.reduceLeDiff, Nat.reduceEqDiff, Nat.reduceBEq, Int.reduceLE, Int.reduceLT, Int.reduceEq, Int.reduceNe, Int.reduceAdd, Int.reduceSub, Int.reduceMul, Int.reduceNeg, Int.reduceToNat, Int.reduceNatCast, reduceCtorEq, eq_self]
      refine KCall.ok (plainNone_does k _) ?_
      simp (implicitDefEqProofs := false) only [↓reduceIte, go_sem, oread, owrite, Nat.reduceAdd, Nat.reduceSub, Nat.reduceMul, Nat.reduceLT, Nat.reduceLeDiff, Nat.reduceEqDiff, Nat.reduceBEq, Int.reduceLE, Int.reduceLT, Int.reduceEq, Int.reduceNe, Int.reduceAdd, Int.reduceSub, Int.reduceMul, Int.reduceNeg, Int.reduceToNat, Int.reduceNatCast, reduceCtorEq, eq_self, hk1, h1f, h2f]
      refine KCall.ok (hgd _) ?_
      simp (implicitDefEqProofs := false) only [↓reduceIte, go_sem, oread, owrite, Nat.reduceAdd, Nat.reduceSub, Nat.reduceMul, Nat.reduceLT, Nat.reduceLeDiff, Nat.reduceEqDiff, Nat.reduceBEq, Int.reduceLE, Int.reduceLT, Int.reduceEq, Int.reduceNe, Int.reduceAdd, Int.reduceSub, Int.reduceMul, Int.reduceNeg, Int.reduceToNat, Int.reduceNatCast, reduceCtorEq, eq_self, hNu, h3f, bys_one, bys_len, hj0, hbt, drop_bys, hmw]
      refine ⟨by omega, KCall.ok (hrd _) ?_⟩
      simp (implicitDefEqProofs := false) only [↓reduceIte, go_sem, oread, owrite, Nat.reduceAdd, Nat.reduceSub, Nat.reduceMul, Nat.reduceLT, Nat.reduceLeDiff, Nat.reduceEqDiff, Nat.reduceBEq, Int.reduceLE, Int.reduceLT, Int.reduceEq, Int.reduceNe, Int.reduceAdd, Int.reduceSub, Int.reduceMul, Int.reduceNeg, Int.reduceToNat, Int.reduceNatCast, reduceCtorEq, eq_self, hf]
      refine AEnd.ret0 ?_
      simp (implicitDefEqProofs := false) only [↓reduceIte, go_sem, oread, owrite, Nat.reduceAdd, Nat.reduceSub, Nat.reduceMul, Nat.reduceLT, Nat.reduceLeDiff, Nat.reduceEqDiff, Nat.reduceBEq, Int.reduceLE, Int.reduceLT, Int.reduceEq, Int.reduceNe, Int.reduceAdd, Int.reduceSub, Int.reduceMul, Int.reduceNeg, Int.reduceToNat, Int.reduceNatCast, reduceCtorEq, eq_self]
  · rw [if_pos he]
    refine Does.subT (cs := [.d (.v (.slice none 0 0)), .d (.v (.slice none 0 0)), iA e]) ?_ (.cons .nil (.cons .nil (.cons (.refl _) .nil)))
    refine Does.of_awp (hint := (fun _ => false)) Try.func36 (by kernel_rfl) rfl [6, 7, 8] (by kernel_rfl) (by decide) (by simp [Try.ntmps36]) ?_
    rw [Try.ntmps36]
    simp (implicitDefEqProofs := false) only [↓reduceIte, go_sem, oread, owrite, Nat.reduceAdd, Nat.reduceSub, Nat.reduceMul, Nat.reduceLT, Nat.reduceLeDiff, Nat.reduceEqDiff, Nat.reduceBEq, Int.reduceLE, Int.reduceLT, Int.reduceEq, Int.reduceNe, Int.reduceAdd, Int.reduceSub, Int.reduceMul, Int.reduceNeg, Int.reduceToNat, Int.reduceNatCast, reduceCtorEq, eq_self]
    refine KCall.ok (plainNone_does k _) ?_
    simp (implicitDefEqProofs := false) only [↓reduceIte, go_sem, oread, owrite, Nat.reduceAdd, Nat.reduceSub, Nat.reduceMul, Nat.reduceLT, Nat.reduceLeDiff, Nat.reduceEqDiff, Nat.reduceBEq, Int.reduceLE, Int.reduceLT, Int.reduceEq, Int.reduceNe, Int.reduceAdd, Int.reduceSub, Int.reduceMul, Int.reduceNeg, Int.reduceToNat, Int.reduceNatCast, reduceCtorEq, eq_self, hk1, h1f, h2f]
    refine KCall.ok (hgd _) ?_
    simp (implicitDefEqProofs := false) only [↓reduceIte, go_sem, oread, owrite, Nat.reduceAdd, Nat.reduceSub, Nat.reduceMul, Nat.reduceLT, Nat.reduceLeDiff, Nat.reduceEqDiff, Nat.reduceBEq, Int.reduceLE, Int.reduceLT, Int.reduceEq, Int.reduceNe, Int.reduceAdd, Int.reduceSub, Int.reduceMul, Int.reduceNeg, Int.reduceToNat, Int.reduceNatCast, reduceCtorEq, eq_self, he]
    refine AEnd.ret0 ?_
    simp (implicitDefEqProofs := false) only [↓reduceIte, go_sem, oread, owrite, Nat.reduceAdd, Nat.reduceSub, Nat.reduceMul, Nat.reduceLT, Nat.reduceLeDiff, Nat.reduceEqDiff, Nat.reduceBEq, Int.reduceLE, Int.reduceLT, Int.reduceEq, Int.reduceNe, Int.reduceAdd, Int.reduceSub, Int.reduceMul, Int.reduceNeg, Int.reduceToNat, Int.reduceNatCast, reduceCtorEq, eq_self]
end Go.Proofs.Ytkapgooedfompaa
namespace Go.Proofs.Ytkapgooedfompaa
open Go.Proofs.YtkapgooedfompaaAw Go.RowKit
set_option linter.unusedVariables false
set_option linter.unusedSimpArgs false
def pickV (W : List Val) (C : List Nat) : List Val := C.map fun c => W.getD c zV
noncomputable def ofDict (b : List Nat) (n k : Int) : List Val × Int := if (toCodesV b n k).2.2 = 0 then (pickV (toCodesV b n k).1 (toCodesV b n k).2.1, 0) else ([], (toCodesV b n k).2.2)
theorem usedP_lt {C : List Nat} {n : Nat} (h : usedP C n = true) : ∀ c ∈ C, c < n := fun c hc => by
  unfold usedP at h
  rw [Bool.and_eq_true, List.all_eq_true] at h
  simpa using h.1 c ((toldL_mem C c).2 hc)
/-- What a good reading is. -/
theorem toCodes_ok {b : List Nat} {n k : Int} {W : List Val} {C : List Nat} (h : toCodesV b n k = (W, C, 0)) :
    ∃ (N many j i : Nat), n = (N : Int) ∧ N ≤ 4096 ∧ kindsP k = true ∧ getP b = (many, j, 0) ∧ many ≤ N ∧ readN k many (b.drop j) = (W, (b.drop j).drop i, 0) ∧ RiseN W ∧ W.length = many ∧
      unpackE ((b.drop j).drop i) N (widP W.length) = 0 ∧ C = unpackL ((b.drop j).drop i) N (widP W.length) ∧ usedP C W.length = true := by
  unfold toCodesV at h
  split at h
  · simp at h
  rename_i hk
  split at h
  · simp at h
  rename_i h1
  split at h
  · simp at h
  rename_i h2
  split at h
  · rename_i he
    simp only [Prod.mk.injEq] at h
    exact absurd h.2.2 he
  rename_i he
  split at h
  · simp at h
  rename_i h3
  rcases hg : getP b with ⟨many, j, e⟩
  rw [hg] at h he h3
  simp only at h he h3
  have he' : e = 0 := by simpa using he
  subst he'
  obtain ⟨i, hrs⟩ := readN_suffix k many (b.drop j)
  have hro := readR_ok (k := k) (n := many) (b := b.drop j)
  have hrl := readN_len k many (b.drop j)
  rcases hq : readR k many (b.drop j) with ⟨W', r, f⟩
  rw [hq] at h hro
  simp only at hro
  unfold tailV at h
  split at h
  · rename_i hf
    simp only [Prod.mk.injEq] at h
    exact absurd h.2.2 hf
  rename_i hf
  have hf' : f = 0 := by simpa using hf
  subst hf'
  obtain ⟨e1, e2, e3⟩ := hro rfl
  rw [← e1] at e3 hrs hrl
  simp only at h hrs
  split at h
  · rename_i hz
    simp only [Prod.mk.injEq] at h
    exact absurd h.2.2 hz
  rename_i hz
  split at h
  · rename_i hu
    simp only [Prod.mk.injEq] at h
    obtain ⟨rfl, rfl, _⟩ := h
    have hW : W'.length = many := hrl rfl
    subst hrs
    refine ⟨n.toNat, many, j, i, by omega, by omega, by simpa using hk, rfl, by omega, e1.symm, e3, hW, by simpa using hz, rfl, hu⟩
  · simp at h
set_option maxRecDepth 10000 in
set_option maxHeartbeats 2000000 in
theorem dictOf_does (b : List Nat) (n k : Int) (hl : b.length ≤ 140737488351232) (hb : ∀ c ∈ b, c < 256) (H : AHeap) :
    Does Try.prog 19 [.d (.list false (bys b)), iA n, iA k] H (.ok (.tup [.d (.list false ((ofDict b n k).1.map Val.enc)), iA (ofDict b n k).2])) H := by
  have htd := fun H => tocodes_does b n k hl hb H
  have hok := fun W C => toCodes_ok (b := b) (n := n) (k := k) (W := W) (C := C)
  unfold ofDict
  generalize toCodesV b n k = t at *
  obtain ⟨W, C, e⟩ := t
  simp only at htd hok ⊢
  by_cases he : e = 0
  · subst he
    obtain ⟨N, many, j, i, rfl, hN, _, _, hmN, _, _, hW, _, hC, hu⟩ := hok W C rfl
    have hlt := usedP_lt hu
    have hCl : C.length = N := by rw [hC, unpackL_len]
    clear hok hC hu
    rw [if_pos rfl]
    refine Does.of_awp (hint := (fun _ => false)) Try.func19 (by kernel_rfl) rfl [6, 7] (by kernel_rfl) (by decide) (by simp [Try.ntmps19]) ?_
    rw [Try.ntmps19]
    simp (implicitDefEqProofs := false) only [↓reduceIte, go_sem, oread, owrite, Nat.reduceAdd, Nat.reduceSub, Nat.reduceMul, Nat.reduceLT, Nat.reduceLeDiff, Nat.reduceEqDiff, Nat.reduceBEq, Int.reduceLE, Int.reduceLT, Int.reduceEq, Int.reduceNe, Int.reduceAdd, Int.reduceSub, Int.reduceMul, Int.reduceNeg, Int.reduceToNat, Int.reduceNatCast, reduceCtorEq, eq_self]
    refine KCall.ok (htd _) ?_
    simp (implicitDefEqProofs := false) only [↓reduceIte, go_sem, oread, owrite, Nat.reduceAdd, Nat.reduceSub, Nat.reduceMul, Nat.reduceLT, Nat.reduceLeDiff, Nat.reduceEqDiff, Nat.reduceBEq, Int.reduceLE, Int.reduceLT, Int.reduceEq, Int.reduceNe, Int.reduceAdd, Int.reduceSub, Int.reduceMul, Int.reduceNeg, Int.reduceToNat, Int.reduceNatCast, reduceCtorEq, eq_self]
    refine awp_for (fun i s H' => H' = H ++ [.arr 24 3 i ((pickV W (C.take i)).map Val.enc)] ∧ s 8 = .d (.list false (W.map Val.enc)) ∧ s 11 = .sl H.length i 0 i ∧ s 25 = .d (.list false (us C)) ∧ s 26 = iA C.length ∧ s 27 = iA i) C.length (by omega) (Weak.virt1 _ _ 11 24 3 (by decide) (by simp (implicitDefEqProofs := false) only [↓reduceIte, go_sem, oread, owrite, Nat.reduceAdd, Nat.reduceSub, Nat.reduceMul, Nat.reduceLT, Nat.reduceLeDiff, Nat.reduceEqDiff, Nat.reduceBEq, Int.reduceLE, Int.reduceLT, Int.reduceEq, Int.reduceNe, Int.reduceAdd, Int.reduceSub, Int.reduceMul, Int.reduceNeg, Int.reduceToNat, Int.reduceNatCast, reduceCtorEq, eq_self]) _) ?_ ?_ ?_
    · refine ⟨rfl, ?_⟩
      simp (implicitDefEqProofs := false) only [↓reduceIte, go_sem, oread, owrite, Nat.reduceAdd, Nat.reduceSub, Nat.reduceMul, Nat.reduceLT, Nat.reduceLeDiff, Nat.reduceEqDiff, Nat.reduceBEq, Int.reduceLE, Int.reduceLT, Int.reduceEq, Int.reduceNe, Int.reduceAdd, Int.reduceSub, Int.reduceMul, Int.reduceNeg, Int.reduceToNat, Int.reduceNatCast, reduceCtorEq, eq_self, us_len]
    · rintro i s H' hi hw ⟨rfl, t8, t11, t25, t26, t27⟩
      have hx := us_get C i hi
      have hcl := hlt _ (List.getElem_mem hi)
      have hwg := List.getElem?_eq_getElem hcl
      have e1 : pickV W (C.take (i + 1)) = pickV W (C.take i) ++ [W[C[i]]] := by
        unfold pickV
        rw [List.take_succ_eq_append_getElem hi, List.map_append]
        simp [List.getD, hcl]
      have hpl : (pickV W (C.take i)).length = i := by unfold pickV; rw [List.length_map, List.length_take]; omega
      rw [e1]
      generalize pickV W (C.take i) = L at *
      generalize W[C[i]] = v at *
      generalize C[i] = c at *
      have hc0 : ((0 : Int) ≤ (c : Int)) = True := eq_true (by omega)
      have hsn : L.map Val.enc ++ [[D.v (.int .i64 v.kind), D.v (.int .i64 v.i), D.v (.string v.s)]] = (L ++ [v]).map Val.enc := by simp [Val.enc]
      simp (implicitDefEqProofs := false) only [↓reduceIte, go_sem, oread, owrite, Nat.reduceAdd, Nat.reduceSub, Nat.reduceMul, Nat.reduceLT, Nat.reduceLeDiff, Nat.reduceEqDiff, Nat.reduceBEq, Int.reduceLE, Int.reduceLT, Int.reduceEq, Int.reduceNe, Int.reduceAdd, Int.reduceSub, Int.reduceMul, Int.reduceNeg, Int.reduceToNat, Int.reduceNatCast, reduceCtorEq, eq_self, t8, t11, t25, t26, t27, hi, hx, hwg, hcl, hc0, List.length_map, hpl, hsn, Val.enc]
      refine ⟨by omega, by omega, ?_⟩
      refine Rnd.same ⟨rfl, ?_⟩
      simp (implicitDefEqProofs := false) only [↓reduceIte, go_sem, oread, owrite, Nat.reduceAdd, Nat.reduceSub, Nat.reduceMul, Nat.reduceLT, Nat.reduceLeDiff, Nat.reduceEqDiff, Nat.reduceBEq, Int.reduceLE, Int.reduceLT, Int.reduceEq, Int.reduceNe, Int.reduceAdd, Int.reduceSub, Int.reduceMul, Int.reduceNeg, Int.reduceToNat, Int.reduceNatCast, reduceCtorEq, eq_self, t8, t25, t26, hw]
    · rintro s H' ⟨rfl, t8, t11, t25, t26, t27⟩
      simp (implicitDefEqProofs := false) only [↓reduceIte, go_sem, oread, owrite, Nat.reduceAdd, Nat.reduceSub, Nat.reduceMul, Nat.reduceLT, Nat.reduceLeDiff, Nat.reduceEqDiff, Nat.reduceBEq, Int.reduceLE, Int.reduceLT, Int.reduceEq, Int.reduceNe, Int.reduceAdd, Int.reduceSub, Int.reduceMul, Int.reduceNeg, Int.reduceToNat, Int.reduceNatCast, reduceCtorEq, eq_self, t11, t26, t27]
      refine AEnd.ret ?_
      rw [List.take_length]
      simp (implicitDefEqProofs := false) only [↓reduceIte, go_sem, oread, owrite, Nat.reduceAdd, Nat.reduceSub, Nat.reduceMul, Nat.reduceLT, Nat.reduceLeDiff, Nat.reduceEqDiff, Nat.reduceBEq, Int.reduceLE, Int.reduceLT, Int.reduceEq, Int.reduceNe, Int.reduceAdd, Int.reduceSub, Int.reduceMul, Int.reduceNeg, Int.reduceToNat, Int.reduceNatCast, reduceCtorEq, eq_self, List.take_of_length_le (show ((pickV W C).map Val.enc).length ≤ C.length by rw [List.length_map, pickV, List.length_map]; omega)]
  · rw [if_neg he]
    refine Does.subT (cs := [.d (.v (.slice none 0 0)), iA e]) ?_ (.cons .nil (.cons (.refl _) .nil))
    refine Does.of_awp (hint := (fun _ => false)) Try.func19 (by kernel_rfl) rfl [6, 7] (by kernel_rfl) (by decide) (by simp [Try.ntmps19]) ?_
    rw [Try.ntmps19]
    simp (implicitDefEqProofs := false) only [↓reduceIte, go_sem, oread, owrite, Nat.reduceAdd, Nat.reduceSub, Nat.reduceMul, Nat.reduceLT, Nat.reduceLeDiff, Nat.reduceEqDiff, Nat.reduceBEq, Int.reduceLE, Int.reduceLT, Int.reduceEq, Int.reduceNe, Int.reduceAdd, Int.reduceSub, Int.reduceMul, Int.reduceNeg, Int.reduceToNat, Int.reduceNatCast, reduceCtorEq, eq_self]
    refine KCall.ok (htd _) ?_
    simp (implicitDefEqProofs := false) only [↓reduceIte, go_sem, oread, owrite, Nat.reduceAdd, Nat.reduceSub, Nat.reduceMul, Nat.reduceLT, Nat.reduceLeDiff, Nat.reduceEqDiff, Nat.reduceBEq, Int.reduceLE, Int.reduceLT, Int.reduceEq, Int.reduceNe, Int.reduceAdd, Int.reduceSub, Int.reduceMul, Int.reduceNeg, Int.reduceToNat, Int.reduceNatCast, reduceCtorEq, eq_self, he]
    refine AEnd.ret0 ?_
    simp (implicitDefEqProofs := false) only [↓reduceIte, go_sem, oread, owrite, Nat.reduceAdd, Nat.reduceSub, Nat.reduceMul, Nat.reduceLT, Nat.reduceLeDiff, Nat.reduceEqDiff, Nat.reduceBEq, Int.reduceLE, Int.reduceLT, Int.reduceEq, Int.reduceNe, Int.reduceAdd, Int.reduceSub, Int.reduceMul, Int.reduceNeg, Int.reduceToNat, Int.reduceNatCast, reduceCtorEq, eq_self]
end Go.Proofs.Ytkapgooedfompaa
namespace Go.Proofs.Ytkapgooedfompaa
open Go.Proofs.YtkapgooedfompaaAw Go.RowKit
set_option linter.unusedVariables false
set_option linter.unusedSimpArgs false
/-! ### Numbers -/
theorem numP_put : ∀ (k acc n : Nat) (r : List Nat), k ≤ 9 → acc + n * 128 ^ (9 - k) < 18446744073709551616 → (9 ≤ k ∨ n ≠ 0) → numP (k + 1) acc (putP n ++ r) = (.ok (acc + n * 128 ^ (9 - k)), r) := by
  intro k
  induction k with
  | zero =>
    intro acc n r hk h hn
    have : n ≤ 1 := by
      rcases Nat.lt_or_ge n 2 with h' | h'
      · omega
      · have : 2 * 128 ^ 9 ≤ n * 128 ^ 9 := Nat.mul_le_mul_right _ h'
        simp only [Nat.sub_zero] at h
        omega
    rw [putP_small (by omega)]
    have hb : ¬ ((0 = 0 ∧ 1 < n) ∨ (0 < 9 ∧ n = 0)) := by omega
    rw [List.singleton_append]
    unfold numP
    rw [if_neg hb, if_pos (show n < 128 by omega), Nat.mod_eq_of_lt (show n < 128 by omega)]
  | succ k ih =>
    intro acc n r hk h hn
    by_cases hlt : n < 128
    · rw [putP_small hlt]
      have hb : ¬ ((k + 1 = 0 ∧ 1 < n) ∨ (k + 1 < 9 ∧ n = 0)) := by omega
      rw [List.singleton_append]
      unfold numP
      rw [if_neg hb, if_pos hlt, Nat.mod_eq_of_lt hlt]
    · rw [putP_big hlt]
      have hb : ¬ ((k + 1 = 0 ∧ 1 < n % 128 + 128) ∨ (k + 1 < 9 ∧ n % 128 + 128 = 0)) := by omega
      have hc : (n % 128 + 128) % 128 = n % 128 := by omega
      rw [List.cons_append]
      unfold numP
      rw [if_neg hb, if_neg (show ¬ n % 128 + 128 < 128 by omega), hc]
      have e : 9 - k = (9 - (k + 1)) + 1 := by omega
      have hp : n / 128 * 128 ^ (9 - k) = n / 128 * 128 * 128 ^ (9 - (k + 1)) := by rw [e, Nat.pow_succ, Nat.mul_comm (128 ^ _) 128, Nat.mul_assoc]
      have hs : acc + n % 128 * 128 ^ (9 - (k + 1)) + n / 128 * 128 ^ (9 - k) = acc + n * 128 ^ (9 - (k + 1)) := by
        rw [hp, Nat.add_assoc, ← Nat.add_mul]
        congr 2
        omega
      rw [ih _ _ r (by omega) (by rw [hs]; exact h) (.inr (by omega)), hs]
theorem getP_put (n : Nat) (h : n < 18446744073709551616) (r : List Nat) : getP (putP n ++ r) = (n, (putP n).length, 0) := by
  have := numP_put 9 0 n r (Nat.le_refl _) (by simpa using h) (.inl (Nat.le_refl _))
  unfold getP
  rw [this]
  simp
theorem numP_canon : ∀ (k acc : Nat) (b r : List Nat) (N : Nat), (∀ c ∈ b, c < 256) → k ≤ 9 → numP (k + 1) acc b = (.ok N, r) → ∃ n, b = putP n ++ r ∧ N = acc + n * 128 ^ (9 - k) ∧ (9 ≤ k ∨ n ≠ 0) := by
  intro k
  induction k with
  | zero =>
    intro acc b r N hb hk h
    cases b with
    | nil => simp [numP] at h
    | cons c b =>
      simp only [numP] at h
      split at h
      · simp at h
      · split at h
        · rename_i h1 h2
          simp only [Prod.mk.injEq, Except.ok.injEq] at h
          obtain ⟨rfl, rfl⟩ := h
          refine ⟨c, by rw [putP_small h2]; rfl, by rw [Nat.mod_eq_of_lt h2], .inr (by omega)⟩
        · simp at h
  | succ k ih =>
    intro acc b r N hb hk h
    cases b with
    | nil => simp [numP] at h
    | cons c b =>
      unfold numP at h
      split at h
      · simp at h
      · split at h
        · rename_i h1 h2
          simp only [Prod.mk.injEq, Except.ok.injEq] at h
          obtain ⟨rfl, rfl⟩ := h
          refine ⟨c, by rw [putP_small h2]; rfl, by rw [Nat.mod_eq_of_lt h2], ?_⟩
          omega
        · rename_i h1 h2
          obtain ⟨m, rfl, hN, hm⟩ := ih _ b r N (fun x hx => hb x (by simp [hx])) (by omega) h
          have hc := hb c (by simp)
          have hm0 : m ≠ 0 := by omega
          refine ⟨c % 128 + 128 * m, ?_, ?_, .inr (by omega)⟩
          · rw [putP_big (n := c % 128 + 128 * m) (by omega), show (c % 128 + 128 * m) % 128 + 128 = c by omega, show (c % 128 + 128 * m) / 128 = m by omega]; rfl
          · rw [hN, show 9 - k = (9 - (k + 1)) + 1 by omega, Nat.pow_succ, Nat.add_mul, Nat.add_assoc]
            congr 2
            rw [Nat.mul_comm (128 ^ _) 128, ← Nat.mul_assoc, Nat.mul_comm m 128]
theorem numP_err : ∀ (k acc : Nat) (b r : List Nat) (e : Int), numP k acc b = (.error e, r) → e ≠ 0
  | 0, _, _, _, _, h => by simp only [numP, Prod.mk.injEq, Except.error.injEq] at h; omega
  | _ + 1, _, [], _, _, h => by simp only [numP, Prod.mk.injEq, Except.error.injEq] at h; omega
  | k + 1, acc, c :: b, r, e, h => by
    unfold numP at h
    split at h
    · simp only [Prod.mk.injEq, Except.error.injEq] at h; omega
    · split at h
      · simp at h
      · exact numP_err k _ b r e h
theorem getP_canon {b : List Nat} {n k : Nat} (hb : ∀ c ∈ b, c < 256) (h : getP b = (n, k, 0)) : k = (putP n).length ∧ b = putP n ++ b.drop k := by
  unfold getP at h
  split at h
  · rename_i N r hn
    obtain ⟨m, rfl, hN, _⟩ := numP_canon 9 0 b r N hb (Nat.le_refl _) hn
    simp only [Prod.mk.injEq] at h
    obtain ⟨rfl, rfl, _⟩ := h
    have : N = m := by simpa using hN
    subst this
    refine ⟨by simp, by simp⟩
  · rename_i e r hn
    simp only [Prod.mk.injEq] at h
    exact absurd h.2.2 (numP_err _ _ _ _ _ hn)
/-! ### Bits -/
theorem byteOf_bit : ∀ (l : List Bool) (j : Nat), (byteOf l).testBit j = l.getD j false
  | [], j => by simp [byteOf]
  | b :: r, 0 => by
    rw [Nat.testBit_zero]
    simp only [byteOf, List.getD_cons_zero]
    cases b <;> simp <;> omega
  | b :: r, j + 1 => by
    rw [Nat.testBit_succ]
    have : (byteOf (b :: r)) / 2 = byteOf r := by simp only [byteOf]; cases b <;> simp <;> omega
    rw [this, byteOf_bit r j, List.getD_cons_succ]
theorem bitsN_byteOf (l : List Bool) : bitsN (byteOf l) l.length = l := by
  apply List.ext_getElem
  · rw [bitsN_len]
  · intro i h1 h2
    simp only [bitsN, List.getElem_map, List.getElem_range, byteOf_bit]
    simp [List.getD, h2]
theorem byteOf_bitsN (n w : Nat) (h : n < 2 ^ w) : byteOf (bitsN n w) = n := by
  apply Nat.eq_of_testBit_eq
  intro j
  rw [byteOf_bit]
  by_cases hj : j < w
  · simp [List.getD, bitsN, hj]
  · have : n.testBit j = false := Nat.testBit_lt_two_pow (Nat.lt_of_lt_of_le h (Nat.pow_le_pow_right (by decide) (by omega)))
    simp [List.getD, bitsN, hj, this]
theorem byteOf_pad (l : List Bool) : ∀ m : Nat, byteOf (l ++ List.replicate m false) = byteOf l := by
  intro m
  apply Nat.eq_of_testBit_eq
  intro j
  rw [byteOf_bit, byteOf_bit]
  simp only [List.getD]
  by_cases hj : j < l.length
  · rw [List.getElem?_append_left hj]
  · rw [List.getElem?_append_right (by omega), List.getElem?_eq_none (by omega : l.length ≤ j), List.getElem?_replicate]
    split <;> rfl
theorem byteOf_zero : ∀ l : List Bool, byteOf l = 0 → l = List.replicate l.length false
  | [], _ => rfl
  | b :: r, h => by
    have hb : b = false := by
      cases b
      · rfl
      · simp only [byteOf, Bool.toNat_true] at h; omega
    have hr : byteOf r = 0 := by simp only [byteOf] at h; omega
    rw [List.length_cons, List.replicate_succ, hb, ← byteOf_zero r hr]
/-- The bits of bytes of bits are these and some that are none. -/
theorem bitsB_pack (L : List Bool) : bitsB (packB L) = L ++ List.replicate (8 * ((L.length + 7) / 8) - L.length) false := by
  have hlen : (bitsB (packB L)).length = 8 * ((L.length + 7) / 8) := by rw [bitsB_len, packB_len]
  apply List.ext_getElem
  · rw [hlen, List.length_append, List.length_replicate]; omega
  · intro i h1 h2
    rw [hlen] at h1
    have hq : i / 8 < (L.length + 7) / 8 := by omega
    have hp : (packB L)[i / 8]? = some (byteAt L (i / 8)) := by simp [packB, hq]
    have h3 := bitsB_get (packB L) i _ hp
    rw [List.getElem?_eq_getElem (by rw [hlen]; exact h1)] at h3
    rw [Option.some.inj h3]
    unfold byteAt
    rw [byteOf_bit]
    have h8 : i % 8 < 8 := Nat.mod_lt _ (by decide)
    simp only [List.getD]
    rw [List.getElem?_take_of_lt h8, List.getElem?_drop, show 8 * (i / 8) + i % 8 = i by omega]
    by_cases hi : i < L.length
    · rw [List.getElem_append_left hi, List.getElem?_eq_getElem hi]; rfl
    · rw [List.getElem_append_right (by omega), List.getElem?_eq_none (by omega : L.length ≤ i)]
      simp
theorem bitsL_at : ∀ (S : List Nat) (w k : Nat) (x : Nat), S[k]? = some x → ((bitsL S w).drop (k * w)).take w = bitsN x w
  | [], w, k, x, h => by simp at h
  | y :: S, w, 0, x, h => by
    obtain rfl : y = x := by simpa using h
    have e : bitsL (y :: S) w = bitsN y w ++ bitsL S w := rfl
    rw [e, Nat.zero_mul, List.drop_zero, List.take_append_of_le_length (by rw [bitsN_len]; exact Nat.le_refl _), List.take_of_length_le (by rw [bitsN_len]; exact Nat.le_refl _)]
  | y :: S, w, k + 1, x, h => by
    have e : bitsL (y :: S) w = bitsN y w ++ bitsL S w := rfl
    rw [e, Nat.add_mul, Nat.one_mul, Nat.add_comm, ← List.drop_drop, List.drop_left' (bitsN_len y w)]
    exact bitsL_at S w k x h
/-- What is packed is unpacked. -/
theorem unpack_pack (S : List Nat) (w : Nat) (h : ∀ n ∈ S, n < 2 ^ w) : unpackL (packP S w) S.length w = S ∧ unpackE (packP S w) S.length w = 0 := by
  have hL := bitsL_len S w
  have hB := bitsB_pack (bitsL S w)
  have hpl : (packP S w).length = ((bitsL S w).length + 7) / 8 := packB_len _
  constructor
  · apply List.ext_getElem
    · rw [unpackL_len]
    · intro k h1 h2
      have hx := List.getElem?_eq_getElem h2
      have hlt := h _ (List.getElem_mem h2)
      simp only [unpackL, List.getElem_map, List.getElem_range, partP]
      unfold packP
      rw [hB]
      have hk : k * w + w ≤ (bitsL S w).length := by rw [hL, ← Nat.succ_mul]; exact Nat.mul_le_mul_right _ h2
      rw [List.drop_append_of_le_length (by omega), List.take_append_of_le_length (by rw [List.length_drop]; omega), bitsL_at S w k _ hx, byteOf_bitsN _ _ hlt]
  · unfold unpackE
    rw [if_neg (by omega), if_neg (by omega)]
    unfold packP
    rw [hB, List.drop_append_of_le_length (by omega), List.drop_of_length_le (by omega), byteOf_pad]
    rfl
theorem bitsN_at (b : List Nat) (i c : Nat) (h : b[i]? = some c) : ((bitsB b).drop (8 * i)).take 8 = bitsN c 8 := by
  have := bitsL_at b 8 i c h
  rw [Nat.mul_comm]
  exact this
/-- What is unpacked is packed as these very bytes. -/
theorem pack_unpack (b : List Nat) (n w : Nat) (hb : ∀ c ∈ b, c < 256) (h : unpackE b n w = 0) : packP (unpackL b n w) w = b := by
  unfold unpackE at h
  split at h
  · simp at h
  rename_i h1
  split at h
  · simp at h
  rename_i h2
  split at h
  · rename_i h3
    have hz := byteOf_zero _ h3
    have hlen := bitsB_len b
    have hU : ∀ m, m ≤ n → bitsL (unpackL b m w) w = (bitsB b).take (m * w) := by
      intro m
      induction m with
      | zero => intro _; simp [unpackL, bitsL]
      | succ m ih =>
        intro hm
        have hmw : (m + 1) * w ≤ n * w := Nat.mul_le_mul_right _ hm
        rw [unpackL_succ, bitsL_snoc, ih (by omega), Nat.succ_mul, List.take_add]
        congr 1
        unfold partP
        have hl : (((bitsB b).drop (m * w)).take w).length = w := by
          rw [Nat.succ_mul] at hmw
          rw [List.length_take, List.length_drop]; omega
        have := bitsN_byteOf (((bitsB b).drop (m * w)).take w)
        rw [hl] at this
        exact this
    have hB : bitsB b = bitsL (unpackL b n w) w ++ List.replicate ((bitsB b).drop (n * w)).length false := by
      rw [hU n (Nat.le_refl _), ← hz, List.take_append_drop]
    have hLl : (bitsL (unpackL b n w) w).length = n * w := by rw [bitsL_len, unpackL_len]
    apply List.ext_getElem
    · rw [packP, packB_len, hLl]; omega
    · intro i h4 h5
      have hx := List.getElem?_eq_getElem h5
      have hlt := hb _ (List.getElem_mem h5)
      have e8 := bitsN_at b i _ hx
      rw [hB] at e8
      simp only [packP, packB, List.getElem_map, List.getElem_range, byteAt]
      rw [← byteOf_bitsN b[i] 8 (by omega), ← e8]
      rw [List.drop_append, List.take_append, List.drop_replicate, List.take_replicate, byteOf_pad]
  · simp at h
end Go.Proofs.Ytkapgooedfompaa
namespace Go.Proofs.Ytkapgooedfompaa
open Go.Proofs.YtkapgooedfompaaAw Go.RowKit
set_option linter.unusedVariables false
set_option linter.unusedSimpArgs false
theorem zag_zig (n : Int) (h : I64 n) : zagP (zigP n) = n := by
  obtain ⟨h1, h2⟩ := h
  unfold zigP zagP
  by_cases h0 : 0 ≤ n
  · rw [if_pos h0, if_neg (by omega)]; omega
  · rw [if_neg h0, if_pos (by omega)]; omega
theorem zagP_rng (n : Nat) (h : n < 18446744073709551616) : I64 (zagP n) := by
  unfold zagP I64
  split <;> omega
theorem zig_zag (n : Nat) (h : n < 18446744073709551616) : zigP (zagP n) = n := by
  unfold zagP zigP
  split
  · rw [if_neg (by omega)]; omega
  · rw [if_pos (by omega)]; omega
end Go.Proofs.Ytkapgooedfompaa
namespace Go.Proofs.Ytkapgooedfompaa
open Go.Proofs.YtkapgooedfompaaAw Go.RowKit
set_option linter.unusedVariables false
set_option linter.unusedSimpArgs false
theorem wrap64_q (n : Int) : ∃ q : Int, IntKind.i64.wrap n = n + q * 18446744073709551616 := by
  have h1 := Int.emod_add_mul_ediv n 18446744073709551616
  simp only [IntKind.wrap, IntKind.signed, IntKind.bits]
  simp only [show ((2 : Int) ^ 64) = 18446744073709551616 from rfl, show ((2 : Int) ^ (64 - 1)) = 9223372036854775808 from rfl]
  by_cases h : n % 18446744073709551616 ≥ 9223372036854775808
  · refine ⟨-(n / 18446744073709551616) - 1, ?_⟩
    simp only [h, decide_true, Bool.true_and, if_true]
    omega
  · refine ⟨-(n / 18446744073709551616), ?_⟩
    simp only [h, decide_false, Bool.and_false, Bool.false_eq_true, if_false]
    omega
end Go.Proofs.Ytkapgooedfompaa
namespace Go.Proofs.Ytkapgooedfompaa
open Go.Proofs.YtkapgooedfompaaAw Go.RowKit
set_option linter.unusedVariables false
set_option linter.unusedSimpArgs false
theorem cleanN_idem (u : Nat) : cleanN (cleanN u) = cleanN u := by
  unfold cleanN
  by_cases h : nanN u = true
  · rw [if_pos h]; decide
  · rw [if_neg h, if_neg h]
theorem ubits_key (u : Nat) (h : u < 18446744073709551616) : ubitsP (keyN u) = cleanN u := by
  have hl := cleanN_lt u h
  have hi := cleanN_idem u
  unfold keyN
  generalize cleanN u = c at *
  unfold ubitsP
  by_cases h1 : 9223372036854775808 ≤ c
  · rw [if_pos h1, if_neg (by omega), show 18446744073709551615 - (18446744073709551615 - c) = c by omega, hi]
  · rw [if_neg h1, if_pos (by omega), show c + 9223372036854775808 - 9223372036854775808 = c by omega, hi]
theorem toI_toU {i : Int} (h : I64 i) : toI (toU i) = i := by
  obtain ⟨h1, h2⟩ := h
  unfold toI
  obtain ⟨q, hq⟩ := wrap64_q ((toU i : Nat) : Int)
  have hr := wrap64_rng ((toU i : Nat) : Int)
  have ht : ((toU i : Nat) : Int) = i % 18446744073709551616 := by unfold toU; omega
  omega
theorem toU_toI {n : Nat} (h : n < 18446744073709551616) : toU (toI n) = n := by
  unfold toI
  obtain ⟨q, hq⟩ := wrap64_q (n : Int)
  rw [hq]
  unfold toU
  omega
theorem toI_I64 (n : Nat) : I64 (toI n) := wrap64_rng _
/-! ### Eight bytes -/
theorem beN_take (n : Nat) (hn : n < 18446744073709551616) : ∀ k, k ≤ 8 → beN ((beP n).take k) = n / 256 ^ (8 - k) := by
  intro k
  induction k with
  | zero => intro _; rw [List.take_zero]; exact (Nat.div_eq_of_lt hn).symm
  | succ k ih =>
    intro hk
    rw [beP_take n k (by omega), beN_snoc, ih (by omega), show 8 - k = (7 - k) + 1 by omega, show 8 - (k + 1) = 7 - k by omega, Nat.pow_succ, ← Nat.div_div_eq_div_mul]
    omega
theorem beN_beP (n : Nat) (hn : n < 18446744073709551616) : beN (beP n) = n := by
  have h := beN_take n hn 8 (Nat.le_refl _)
  rw [List.take_of_length_le (by rw [beP_len]; exact Nat.le_refl _)] at h
  rw [h]; simp
theorem beN_inj : ∀ (k : Nat) (l m : List Nat), l.length = k → m.length = k → Byte l → Byte m → beN l = beN m → l = m := by
  intro k
  induction k with
  | zero => intro l m h1 h2 _ _ _; rw [List.length_eq_zero_iff.1 h1, List.length_eq_zero_iff.1 h2]
  | succ k ih =>
    intro l m h1 h2 b1 b2 h
    have n1 : l ≠ [] := fun e => by rw [e] at h1; simp at h1
    have n2 : m ≠ [] := fun e => by rw [e] at h2; simp at h2
    rw [← List.dropLast_concat_getLast n1, ← List.dropLast_concat_getLast n2, beN_snoc, beN_snoc] at h
    have c1 := b1 _ (List.getLast_mem n1)
    have c2 := b2 _ (List.getLast_mem n2)
    have e1 := ih l.dropLast m.dropLast (by simp [h1]) (by simp [h2]) (fun c hc => b1 c (List.dropLast_subset l hc)) (fun c hc => b2 c (List.dropLast_subset m hc)) (by omega)
    rw [← List.dropLast_concat_getLast n1, ← List.dropLast_concat_getLast n2, e1, show l.getLast n1 = m.getLast n2 by omega]
theorem beP_byte (n : Nat) : Byte (beP n) := fun c hc => by
  unfold beP at hc
  obtain ⟨i, _, rfl⟩ := List.mem_map.1 hc
  exact Nat.mod_lt _ (by decide)
theorem beP_beN {l : List Nat} (hl : l.length = 8) (hb : Byte l) : beP (beN l) = l := by
  have hlt : beN l < 18446744073709551616 := beN_lt 8 l hl hb
  exact beN_inj 8 _ _ (beP_len _) hl (beP_byte _) hb (beN_beP _ hlt)
/-! ### Texts -/
theorem bstr_sbytes (s : ByteArray) : bstr (sbytes s) = s := by
  apply toList_inj
  rw [bstr_list, sbytes, List.map_map, ByteArray.toList_eq]
  conv => rhs; rw [← List.map_id s.data.toList]
  apply List.map_congr_left
  intro x _
  simp
theorem sbytes_bstr {t : List Nat} (h : Byte t) : sbytes (bstr t) = t := by
  have hl := bstr_list t
  rw [ByteArray.toList_eq] at hl
  unfold sbytes
  rw [hl, List.map_map]
  conv => rhs; rw [← List.map_id t]
  apply List.map_congr_left
  intro x hx
  have := h x hx
  simp [Nat.mod_eq_of_lt this]
theorem numP_text (n : Nat) (h : n < 18446744073709551616) (r : List Nat) : numP 10 0 (putP n ++ r) = (.ok n, r) := by
  have := numP_put 9 0 n r (Nat.le_refl _) (by simpa using h) (.inl (Nat.le_refl _))
  simpa using this
theorem toText_put (s : ByteArray) (hs : s.size ≤ 1024) (r : List Nat) : toTextP (textP s ++ r) 1024 = (sbytes s, r, 0) := by
  unfold toTextP textP
  have hl := sbytes_len s
  rw [List.append_assoc, numP_text _ (by omega)]
  simp only
  rw [if_neg (by omega), if_neg (by rw [List.length_append]; omega), ← hl, List.take_left, List.drop_left]
theorem text_back {b t r : List Nat} (hb : Byte b) (h : toTextP b 1024 = (t, r, 0)) : b = textP (bstr t) ++ r ∧ t.length ≤ 1024 ∧ Byte t := by
  unfold toTextP at h
  split at h
  · rename_i n rr hn
    obtain ⟨m, hm, he, _⟩ := numP_canon 9 0 b rr n hb (Nat.le_refl _) hn
    have he' : n = m := by simpa using he
    subst he'
    split at h
    · simp at h
    split at h
    · simp at h
    rename_i h1 h2
    simp only [Prod.mk.injEq, and_true] at h
    obtain ⟨rfl, rfl⟩ := h
    have hrb : Byte rr := fun c hc => hb c (by rw [hm]; exact List.mem_append_right _ hc)
    have htb : Byte (rr.take n) := fun c hc => hrb c (List.mem_of_mem_take hc)
    have hsz : (bstr (rr.take n)).size = n := by
      rw [← sbytes_len, sbytes_bstr htb, List.length_take]; omega
    refine ⟨?_, by rw [List.length_take]; omega, htb⟩
    unfold textP
    rw [hsz, sbytes_bstr htb, List.append_assoc, List.take_append_drop]
    exact hm
  · rename_i e rr hn
    simp only [Prod.mk.injEq] at h
    exact absurd h.2.2 (numP_err 10 0 b rr e hn)
/-! ### Values -/
theorem kindsP_iff (k : Int) : kindsP k = true ↔ k = 1 ∨ k = 2 ∨ k = 3 := by unfold kindsP; simp; omega
theorem mayV_one {v : Val} (h : v.kind = 1) : mayV v = true ↔ v.s = noS := by
  unfold mayV
  rw [if_neg (by omega), if_pos h, decide_eq_true_eq, toList_nil_size]
theorem mayV_two {v : Val} (h : v.kind = 2) : mayV v = true ↔ toU v.i = cleanN (toU v.i) ∧ v.s = noS := by
  unfold mayV
  rw [if_pos h, Bool.and_eq_true, decide_eq_true_eq, decide_eq_true_eq, toList_nil_size]
theorem mayV_three {v : Val} (h : v.kind = 3) : mayV v = true ↔ v.i = 0 ∧ v.s.size ≤ 1024 := by
  unfold mayV
  rw [if_neg (by omega), if_neg (by omega), if_pos h, Bool.and_eq_true, decide_eq_true_eq, decide_eq_true_eq]
theorem val_ext {a b : Val} (h1 : a.kind = b.kind) (h2 : a.i = b.i) (h3 : a.s = b.s) : a = b := by
  cases a; cases b; simp only at h1 h2 h3; subst h1 h2 h3; rfl
theorem ofV_put {v : Val} (r : List Nat) (hi : I64 v.i) (hm : mayV v = true) (hk : kindsP v.kind = true) : ofV (valB v ++ r) v.kind = (v, r, 0) := by
  rcases (kindsP_iff _).1 hk with h | h | h
  · have hs := (mayV_one h).1 hm
    unfold ofV valB
    rw [h]
    simp only [if_true, show ((1 : Int) = 0) = False from by simp, if_false]
    rw [getP_put _ (zigP_lt hi.1 hi.2)]
    simp only [if_true]
    rw [zag_zig _ hi, List.drop_left]
    rw [show num10 v.i = v from val_ext h.symm rfl hs.symm]
  · obtain ⟨hc, hs⟩ := (mayV_two h).1 hm
    have hu := toU_lt v.i
    have hk := keyN_lt _ hu
    have hbl := beP_len (keyN (toU v.i))
    have ht : (beP (keyN (toU v.i)) ++ r).take 8 = beP (keyN (toU v.i)) := List.take_left' hbl
    have hd : (beP (keyN (toU v.i)) ++ r).drop 8 = r := List.drop_left' hbl
    unfold ofV valB
    rw [h]
    simp only [if_true, show ((2 : Int) = 0) = False from by simp, show ((2 : Int) = 1) = False from by simp, if_false]
    unfold floatV
    rw [if_neg (by rw [List.length_append, hbl]; omega), ht, hd, beN_beP _ hk, ubits_key _ hu, ← hc, if_pos rfl, toI_toU hi]
    rw [show (⟨2, v.i, noS⟩ : Val) = v from val_ext h.symm rfl hs.symm]
  · obtain ⟨h0, hsz⟩ := (mayV_three h).1 hm
    unfold ofV valB
    rw [h]
    simp only [if_true, show ((3 : Int) = 0) = False from by simp, show ((3 : Int) = 1) = False from by simp, show ((3 : Int) = 2) = False from by simp, if_false]
    rw [toText_put v.s hsz]
    simp only [if_true]
    rw [bstr_sbytes, show (⟨3, 0, v.s⟩ : Val) = v from val_ext h.symm h0.symm rfl]
theorem ofV_back {b r : List Nat} {k : Int} {v : Val} (hb : Byte b) (hk : kindsP k = true) (h : ofV b k = (v, r, 0)) : b = valB v ++ r ∧ mayV v = true ∧ v.kind = k ∧ I64 v.i := by
  rcases (kindsP_iff _).1 hk with rfl | rfl | rfl
  · unfold ofV at h
    rw [if_neg (by decide), if_pos rfl] at h
    split at h
    · rename_i he
      simp only [Prod.mk.injEq, and_true] at h
      obtain ⟨rfl, rfl⟩ := h
      rcases hg : getP b with ⟨n, j, e⟩
      rw [hg] at he
      simp only at he
      subst he
      have hn : n < 18446744073709551616 := by have := getP_lt b; rw [hg] at this; exact this
      obtain ⟨hj, hbe⟩ := getP_canon hb hg
      refine ⟨?_, mayV_num _, rfl, zagP_rng n hn⟩
      rw [show valB (num10 (zagP n)) = putP (zigP (zagP n)) from if_pos rfl, zig_zag n hn]
      exact hbe
    · rename_i he
      simp only [Prod.mk.injEq] at h
      exact absurd h.2.2 he
  · unfold ofV at h
    rw [if_neg (by decide), if_neg (by decide), if_pos rfl] at h
    unfold floatV at h
    split at h
    · simp at h
    rename_i h8
    split at h
    · rename_i hkey
      simp only [Prod.mk.injEq, and_true] at h
      obtain ⟨rfl, rfl⟩ := h
      have h8l : (b.take 8).length = 8 := by rw [List.length_take]; omega
      have h8b : Byte (b.take 8) := fun c hc => hb c (List.mem_of_mem_take hc)
      have hlt : beN (b.take 8) < 18446744073709551616 := beN_lt 8 _ h8l h8b
      have hul := ubitsP_lt hlt
      have hcl : ubitsP (beN (b.take 8)) = cleanN (ubitsP (beN (b.take 8))) := by
        unfold ubitsP
        split <;> rw [cleanN_idem]
      refine ⟨?_, (mayV_two rfl).2 ⟨?_, rfl⟩, rfl, toI_I64 _⟩
      · rw [show valB ⟨2, toI (ubitsP (beN (b.take 8))), noS⟩ = beP (keyN (toU (toI (ubitsP (beN (b.take 8)))))) from rfl, toU_toI hul, hkey, beP_beN h8l h8b, List.take_append_drop]
      · show toU (toI _) = cleanN (toU (toI _))
        rw [toU_toI hul]
        exact hcl
    · simp at h
  · unfold ofV at h
    rw [if_neg (by decide), if_neg (by decide), if_neg (by decide), if_pos rfl] at h
    split at h
    · rename_i he
      simp only [Prod.mk.injEq, and_true] at h
      obtain ⟨rfl, rfl⟩ := h
      rcases ht : toTextP b 1024 with ⟨t, rr, e⟩
      rw [ht] at he
      simp only at he
      subst he
      obtain ⟨h1, h2, h3⟩ := text_back hb ht
      refine ⟨h1, (mayV_three rfl).2 ⟨rfl, ?_⟩, rfl, by unfold I64; simp⟩
      show (bstr t).size ≤ 1024
      rw [← sbytes_len, sbytes_bstr h3]
      exact h2
    · rename_i he
      simp only [Prod.mk.injEq] at h
      exact absurd h.2.2 he
theorem val_same {a b : Val} (ha : mayV a = true) (hb : mayV b = true) (hk : a.kind = b.kind) (hkk : kindsP a.kind = true) (ia : I64 a.i) (ib : I64 b.i) (h : cmpV a b = 0) : a = b := by
  unfold cmpV at h
  rw [if_neg (by simpa using hk)] at h
  rcases (kindsP_iff _).1 hkk with k | k | k
  · rw [if_pos k] at h
    exact val_ext hk (cmpI_zero.1 h) (((mayV_one k).1 ha).trans ((mayV_one (hk ▸ k)).1 hb).symm)
  · rw [if_neg (by omega), if_pos k] at h
    obtain ⟨c1, s1⟩ := (mayV_two k).1 ha
    obtain ⟨c2, s2⟩ := (mayV_two (hk ▸ k)).1 hb
    have hkey : keyN (toU a.i) = keyN (toU b.i) := by
      unfold cmpF ordI at h
      by_cases h1 : keyN (toU a.i) < keyN (toU b.i)
      · simp [h1] at h
      · by_cases h2 : keyN (toU b.i) < keyN (toU a.i)
        · simp [h1, h2] at h
        · omega
    have e : toU a.i = toU b.i := by
      rw [c1, c2, ← ubits_key _ (toU_lt a.i), ← ubits_key _ (toU_lt b.i), hkey]
    exact val_ext hk (by rw [← toI_toU ia, ← toI_toU ib, e]) (s1.trans s2.symm)
  · rw [if_neg (by omega), if_neg (by omega), if_pos k] at h
    exact val_ext hk ((((mayV_three k).1 ha).1).trans (((mayV_three (hk ▸ k)).1 hb).1).symm) (cmpS_zero.1 h)
end Go.Proofs.Ytkapgooedfompaa
namespace Go.Proofs.Ytkapgooedfompaa
open Go.Proofs.YtkapgooedfompaaAw Go.RowKit
set_option linter.unusedVariables false
set_option linter.unusedSimpArgs false
/-- What a column's value is. -/
def GoodV (k : Int) (v : Val) : Prop := mayV v = true ∧ v.kind = k ∧ I64 v.i
theorem readN_put {k : Int} (hk : kindsP k = true) : ∀ (W : List Val) (r : List Nat), (∀ v ∈ W, GoodV k v) → readN k W.length (wbytes W ++ r) = (W, r, 0)
  | [], r, _ => rfl
  | v :: W, r, h => by
    obtain ⟨h1, h2, h3⟩ := h v (by simp)
    have e : wbytes (v :: W) ++ r = valB v ++ (wbytes W ++ r) := by simp [wbytes]
    have ho := ofV_put (v := v) (wbytes W ++ r) h3 h1 (by rw [h2]; exact hk)
    rw [h2] at ho
    rw [e, List.length_cons]
    unfold readN
    rw [ho]
    simp only [if_true]
    rw [readN_put hk W r fun x hx => h x (by simp [hx])]
    simp
theorem readN_back {k : Int} (hk : kindsP k = true) : ∀ (n : Nat) (b : List Nat) (W : List Val) (r : List Nat), Byte b → readN k n b = (W, r, 0) → b = wbytes W ++ r ∧ ∀ v ∈ W, GoodV k v
  | 0, b, W, r, _, h => by
    simp only [readN, Prod.mk.injEq, and_true] at h
    obtain ⟨rfl, rfl⟩ := h
    exact ⟨by simp [wbytes], by simp⟩
  | n + 1, b, W, r, hb, h => by
    unfold readN at h
    rcases hv : ofV b k with ⟨v, c, e⟩
    rw [hv] at h
    simp only at h
    split at h
    · rename_i he
      subst he
      obtain ⟨h1, h2, h3, h4⟩ := ofV_back hb hk hv
      rcases hr : readN k n c with ⟨W', r', f⟩
      rw [hr] at h
      simp only at h
      split at h
      · rename_i hf
        subst hf
        simp only [Prod.mk.injEq, and_true] at h
        obtain ⟨rfl, rfl⟩ := h
        have hc : Byte c := fun x hx => hb x (by rw [h1]; exact List.mem_append_right _ hx)
        obtain ⟨g1, g2⟩ := readN_back hk n c W' r' hc hr
        refine ⟨?_, ?_⟩
        · rw [h1, g1]; simp [wbytes]
        · intro x hx
          rcases List.mem_cons.1 hx with rfl | hx
          · exact ⟨h2, h3, h4⟩
          · exact g2 x hx
      · rename_i hf
        simp only [Prod.mk.injEq] at h
        exact absurd h.2.2 hf
    · rename_i he
      simp only [Prod.mk.injEq] at h
      exact absurd h.2.2 he
/-! ### Columns -/
theorem plainP_iff (l : List Val) (k : Int) : plainP l k = 0 ↔ kindsP k = true ∧ l.length ≤ 4096 ∧ ∀ v ∈ l, v.kind = k ∧ mayV v = true := by
  constructor
  · intro h
    refine ⟨?_, plainP_len h, fun v hv => ⟨?_, plainP_may h v hv⟩⟩
    · unfold plainP at h
      cases hk : kindsP k with
      | true => rfl
      | false => rw [hk] at h; simp at h
    · unfold plainP at h
      split at h
      · simp at h
      split at h
      · simp at h
      split at h
      · simp at h
      · rename_i h3
        have h3' : l.any (fun v => !decide (v.kind = k)) = false := by simpa using h3
        simpa using List.any_eq_false.1 h3' v hv
  · rintro ⟨h1, h2, h3⟩
    unfold plainP
    rw [h1, if_neg (by simp), if_neg (by omega), if_neg, if_neg]
    · rw [Bool.not_eq_true, List.any_eq_false]
      intro v hv
      simp [(h3 v hv).2]
    · rw [Bool.not_eq_true, List.any_eq_false]
      intro v hv
      simp [(h3 v hv).1]
/-! ### Words that rise -/
theorem Tri.lt_trans {α : Type} {c : α → α → Int} (h : Tri c) {x y z : α} (h1 : c x y < 0) (h2 : c y z < 0) : c x z < 0 := by
  have h3 := h.le_trans (x := x) (y := y) (z := z) (by omega) (by omega)
  rcases Int.lt_or_eq_of_le h3 with h4 | h4
  · exact h4
  · have h5 := (h.congr_l (z := y) h4).1 h1
    have h6 := (h.anti y z).1 h2
    omega
theorem RiseN.rise {W : List Val} (h : RiseN W) : Rise W := by
  unfold Rise
  rw [List.pairwise_iff_getElem]
  have key : ∀ (d i : Nat) (x y : Val), W[i]? = some x → W[i + d + 1]? = some y → cmpV x y < 0 := by
    intro d
    induction d with
    | zero => intro i x y hx hy; exact h i x y hx hy
    | succ d ih =>
      intro i x y hx hy
      have hlt := (List.getElem?_eq_some_iff.1 hy).1
      have hz := List.getElem?_eq_getElem (show i + d + 1 < W.length by omega)
      exact cmpV_tri.lt_trans (ih i x _ hx hz) (h (i + d + 1) _ y hz (by rw [← hy, show i + d + 1 + 1 = i + (d + 1) + 1 by omega]))
  intro i j h1 h2 hij
  have := key (j - i - 1) i _ _ (List.getElem?_eq_getElem h1) (by rw [show i + (j - i - 1) + 1 = j by omega]; exact List.getElem?_eq_getElem h2)
  simpa [ltT] using this
theorem Rise.riseN {W : List Val} (h : Rise W) : RiseN W := fun i x y hx hy => (h.get hx hy).2 (by omega)
theorem Rise.zero {W : List Val} (h : Rise W) {i j : Nat} {x y : Val} (hx : W[i]? = some x) (hy : W[j]? = some y) (hc : cmpV x y = 0) : i = j := by
  have h1 := h.get hx hy
  have h2 := h.get hy hx
  have h3 := (cmpV_tri.zero x y).1 hc
  omega
/-- Lists that rise and have the same members are one. -/
theorem rise_ext : ∀ {A B : List Val}, Rise A → Rise B → (∀ x, x ∈ A ↔ x ∈ B) → A = B
  | [], [], _, _, _ => rfl
  | [], b :: B, _, _, h => by have := (h b).2 (by simp); simp at this
  | a :: A, [], _, _, h => by have := (h a).1 (by simp); simp at this
  | a :: A, b :: B, hA, hB, h => by
    obtain ⟨a1, a2⟩ := List.pairwise_cons.1 hA
    obtain ⟨b1, b2⟩ := List.pairwise_cons.1 hB
    have irr : ∀ x, ltT cmpV x x = true → False := fun x hx => by
      have := cmpV_tri.self x
      simp [ltT, this] at hx
    have hab : a = b := by
      rcases List.mem_cons.1 ((h a).1 (by simp)) with e | ha
      · exact e
      rcases List.mem_cons.1 ((h b).2 (by simp)) with e | hb
      · exact e.symm
      have g1 := b1 a ha
      have g2 := a1 b hb
      simp only [ltT, decide_eq_true_eq] at g1 g2
      have := (cmpV_tri.anti a b).1 g2
      omega
    subst hab
    rw [rise_ext a2 b2 fun x => ?_]
    constructor
    · intro hx
      rcases List.mem_cons.1 ((h x).1 (by simp [hx])) with rfl | hx'
      · exact absurd (a1 _ hx) (fun e => irr _ e)
      · exact hx'
    · intro hx
      rcases List.mem_cons.1 ((h x).2 (by simp [hx])) with rfl | hx'
      · exact absurd (b1 _ hx) (fun e => irr _ e)
      · exact hx'
/-! ### Codes that are all used -/
theorem nodup_len : ∀ {A B : List Nat}, A.Nodup → (∀ x ∈ A, x ∈ B) → A.length ≤ B.length
  | [], B, _, _ => by simp
  | a :: A, B, hA, h => by
    obtain ⟨h1, h2⟩ := List.nodup_cons.1 hA
    have ha := h a (by simp)
    have := nodup_len (B := B.erase a) h2 fun x hx => by
      have hne : x ≠ a := fun e => h1 (e ▸ hx)
      exact (List.mem_erase_of_ne hne).2 (h x (by simp [hx]))
    rw [List.length_erase_of_mem ha] at this
    have hp : 0 < B.length := List.length_pos_of_mem ha
    simp only [List.length_cons]
    omega
theorem usedP_iff {C : List Nat} {n : Nat} : usedP C n = true ↔ (∀ c ∈ C, c < n) ∧ ∀ i, i < n → i ∈ C := by
  constructor
  · intro h
    have hlt := usedP_lt h
    refine ⟨hlt, fun i hi => ?_⟩
    unfold usedP at h
    rw [Bool.and_eq_true, decide_eq_true_eq] at h
    refine Classical.byContradiction fun hn => ?_
    have hT : i ∉ toldL C := fun e => hn ((toldL_mem C i).1 e)
    have := seen_len (m := n) (seen := i :: toldL C) (List.nodup_cons.2 ⟨hT, toldL_nodup C⟩) fun j hj => by
      rcases List.mem_cons.1 hj with rfl | hj
      · exact hi
      · exact hlt j ((toldL_mem C j).1 hj)
    simp only [List.length_cons] at this
    omega
  · rintro ⟨h1, h2⟩
    have g1 := seen_len (m := n) (toldL_nodup C) fun j hj => h1 j ((toldL_mem C j).1 hj)
    have g2 := nodup_len (A := List.range n) (B := toldL C) List.nodup_range fun x hx => (toldL_mem C x).2 (h2 x (List.mem_range.1 hx))
    rw [List.length_range] at g2
    unfold usedP
    rw [Bool.and_eq_true, decide_eq_true_eq, List.all_eq_true]
    exact ⟨fun c hc => by simpa using h1 c ((toldL_mem C c).1 hc), by omega⟩
/-! ### Round trips -/
theorem codeW_at {l : List Val} {i : Nat} {w : Val} (h : (wordsP cmpV l)[i]? = some w) : codeW l w = i := by
  obtain ⟨j, y, h1, h2, h3⟩ := words_place (words_mem cmpV_tri (List.mem_of_getElem? h))
  unfold codeW
  rw [h1, Int.toNat_natCast]
  exact (words_Rise l).zero h2 h h3
theorem codeW_same {l : List Val} {k : Int} {a : Val} (hk : kindsP k = true) (hg : ∀ v ∈ l, GoodV k v) (ha : a ∈ l) : (wordsP cmpV l)[codeW l a]? = some a := by
  obtain ⟨j, y, h1, h2, h3⟩ := words_place ha
  have hy := words_mem cmpV_tri (List.mem_of_getElem? h2)
  obtain ⟨m1, k1, i1⟩ := hg y hy
  obtain ⟨m2, k2, i2⟩ := hg a ha
  have e := val_same m1 m2 (by rw [k1, k2]) (by rw [k1]; exact hk) i1 i2 h3
  unfold codeW
  rw [h1, Int.toNat_natCast, h2, e]
theorem dict_of_bytes {l : List Val} {k : Int} (h : plainP l k = 0) (hok : ∀ v ∈ l, I64 v.i) : toCodesV (dictB l) l.length k = (wordsP cmpV l, l.map (codeW l), 0) ∧ ofDict (dictB l) l.length k = (l, 0) := by
  obtain ⟨hk, hl, hv⟩ := (plainP_iff l k).1 h
  have hg : ∀ v ∈ l, GoodV k v := fun v hm => ⟨(hv v hm).2, (hv v hm).1, hok v hm⟩
  have hgW : ∀ v ∈ wordsP cmpV l, GoodV k v := fun v hm => hg v (words_mem cmpV_tri hm)
  have hwl := words_len l
  have hfit := code_fits (l := l)
  have hrise := (words_Rise l).riseN
  have hu : usedP (l.map (codeW l)) (wordsP cmpV l).length = true := by
    rw [usedP_iff]
    constructor
    · intro c hc
      obtain ⟨a, ha, rfl⟩ := List.mem_map.1 hc
      exact codeW_lt ha
    · intro i hi
      have h1 := List.getElem?_eq_getElem hi
      exact List.mem_map.2 ⟨_, words_mem cmpV_tri (List.mem_of_getElem? h1), codeW_at h1⟩
  have hpick : pickV (wordsP cmpV l) (l.map (codeW l)) = l := by
    unfold pickV
    rw [List.map_map]
    conv => rhs; rw [← List.map_id l]
    apply List.map_congr_left
    intro a ha
    simp only [Function.comp_apply, id_eq, List.getD, codeW_same hk hg ha, Option.getD_some]
  have hcl : (l.map (codeW l)).length = l.length := by simp
  have hun := unpack_pack (l.map (codeW l)) (widP (wordsP cmpV l).length) hfit
  rw [hcl] at hun
  have hrd := readN_put hk (wordsP cmpV l) (packP (l.map (codeW l)) (widP (wordsP cmpV l).length)) hgW
  have hB : dictB l = putP (wordsP cmpV l).length ++ (wbytes (wordsP cmpV l) ++ packP (l.map (codeW l)) (widP (wordsP cmpV l).length)) := by unfold dictB; rw [List.append_assoc]
  have hT : toCodesV (dictB l) l.length k = (wordsP cmpV l, l.map (codeW l), 0) := by
    rw [hB]
    unfold toCodesV
    rw [hk, if_neg (by simp), if_neg (by omega), if_neg (by omega), getP_put _ (by omega)]
    simp only
    rw [if_neg (by simp), if_neg (by omega), List.drop_left, Int.toNat_natCast]
    unfold readR
    rw [hrd]
    simp only [if_true]
    rw [if_pos hrise]
    unfold tailV
    simp only
    rw [if_neg (by simp), hun.2, if_neg (by simp), hun.1, if_pos hu]
  refine ⟨hT, ?_⟩
  unfold ofDict
  rw [hT]
  simp only [if_true]
  rw [hpick]
theorem dict_back {b : List Nat} {n k : Int} {l : List Val} (hb : Byte b) (h : ofDict b n k = (l, 0)) : plainP l k = 0 ∧ dictB l = b ∧ (l.length : Int) = n ∧ ∀ v ∈ l, I64 v.i := by
  unfold ofDict at h
  rcases ht : toCodesV b n k with ⟨W, C, e⟩
  rw [ht] at h
  simp only at h
  by_cases he : e = 0
  · subst he
    simp only [if_true, Prod.mk.injEq, and_true] at h
    obtain ⟨N, many, j, i, rfl, hN, hk, hgp, hmN, hrd, hrise, hWl, huE, hC, hu⟩ := toCodes_ok ht
    obtain ⟨hj, hbe⟩ := getP_canon hb hgp
    have hdb : Byte (b.drop j) := fun c hc => hb c (List.mem_of_mem_drop hc)
    obtain ⟨hdr, hgW⟩ := readN_back hk many _ W _ hdb hrd
    generalize hr : (b.drop j).drop i = r at *
    have hrb : Byte r := fun c hc => hdb c (by rw [hdr]; exact List.mem_append_right _ hc)
    have hpu := pack_unpack r N (widP W.length) hrb huE
    rw [← hC] at hpu
    have hCl : C.length = N := by rw [hC, unpackL_len]
    obtain ⟨u1, u2⟩ := usedP_iff.1 hu
    have hat : ∀ c ∈ C, W[c]? = some (W.getD c zV) := fun c hc => by
      have := u1 c hc
      simp [List.getD, this]
    have hmem : ∀ x, x ∈ l ↔ x ∈ W := by
      intro x
      rw [← h]
      unfold pickV
      constructor
      · intro hx
        obtain ⟨c, hc, rfl⟩ := List.mem_map.1 hx
        exact List.mem_of_getElem? (hat c hc)
      · intro hx
        obtain ⟨i, hi, rfl⟩ := List.mem_iff_getElem.1 hx
        exact List.mem_map.2 ⟨i, u2 i hi, by simp [List.getD, hi]⟩
    have hgl : ∀ v ∈ l, GoodV k v := fun v hv => hgW v ((hmem v).1 hv)
    have hll : l.length = N := by rw [← h, pickV, List.length_map, hCl]
    have hwords : wordsP cmpV l = W := by
      refine rise_ext (words_Rise l) hrise.rise fun x => ?_
      constructor
      · intro hx
        exact (hmem x).1 (words_mem cmpV_tri hx)
      · intro hx
        have hxl := (hmem x).2 hx
        exact List.mem_of_getElem? (codeW_same hk hgl hxl)
    have hcodes : l.map (codeW l) = C := by
      conv => lhs; arg 2; rw [← h]
      unfold pickV
      rw [List.map_map]
      conv => rhs; rw [← List.map_id C]
      apply List.map_congr_left
      intro c hc
      exact codeW_at (by rw [hwords]; exact hat c hc)
    refine ⟨(plainP_iff l k).2 ⟨hk, by omega, fun v hv => ⟨(hgl v hv).2.1, (hgl v hv).1⟩⟩, ?_, by omega, fun v hv => (hgl v hv).2.2⟩
    unfold dictB
    rw [hwords, hcodes, hpu, List.append_assoc, ← hdr, hWl]
    exact hbe.symm
  · rw [if_neg he] at h
    simp only [Prod.mk.injEq] at h
    exact absurd h.2 he
end Go.Proofs.Ytkapgooedfompaa
namespace Go.Proofs.Ytkapgooedfompaa
open Go.Proofs.YtkapgooedfompaaAw Go.RowKit
set_option linter.unusedVariables false
set_option linter.unusedSimpArgs false
theorem int_arg {x : AV} (h : ArgOk Try.prog 3 x) : ∃ n : Int, x = .d (.v (.int .i64 n)) ∧ I64 n := by
  obtain ⟨d, rfl, hf⟩ := arg_one h K.agB3 (sh := .int .i64) (by kernel_rfl)
  obtain ⟨n, rfl, hn⟩ := Fits.i64_inv hf
  exact ⟨n, rfl, hn⟩
theorem bytes_arg {x : AV} (h : ArgOk Try.prog 41 x) : ∃ b : List Nat, x = .d (.list false (bys b)) ∧ b.length ≤ 140737488351232 ∧ ∀ c ∈ b, c < 256 := by
  obtain ⟨d, rfl, hf⟩ := arg_one h K.agB41 (sh := .slice 1 [.int .u8]) (by kernel_rfl)
  obtain ⟨l, rfl, h1, h2⟩ := Fits.slice_inv hf
  obtain ⟨la, rfl, h3⟩ := map_inv (enc := fun n : Nat => [.v (.int .u8 (n : Int))]) (p := fun n => n < 256) fun e he => by
    obtain ⟨x, xs, rfl, hx, h⟩ := FitsL.cons_inv (h2 e he)
    cases FitsL.nil_inv h
    obtain ⟨n, rfl, hn⟩ := Fits.int_inv hx
    have hn : IntKind.u8.min ≤ n ∧ n ≤ IntKind.u8.max := by simpa [Lit.wf] using hn
    have h0 : IntKind.u8.min = 0 := by decide
    have h1 : IntKind.u8.max = 255 := by decide
    obtain ⟨m, rfl⟩ := Int.eq_ofNat_of_zero_le (show 0 ≤ n by omega)
    exact ⟨m, rfl, by omega⟩
  exact ⟨la, rfl, by simpa using h1, h3⟩
theorem vals_arg {x : AV} (h : ArgOk Try.prog 22 x) : ∃ l : List Val, x = .d (.list false (l.map Val.enc)) ∧ l.length ≤ 140737488351232 ∧ ∀ a ∈ l, a.Ok := by
  obtain ⟨d, rfl, hf⟩ := arg_one h K.agB22 (sh := .slice 32 shVal) (by kernel_rfl)
  obtain ⟨l, rfl, hl, hn⟩ := vals_inv hf
  exact ⟨l, rfl, by omega, hn⟩
end Go.Proofs.Ytkapgooedfompaa
namespace Go.Proofs.Ytkapgooedfompaa
open Go.Proofs.YtkapgooedfompaaAw Go.RowKit
set_option linter.unusedVariables false
set_option linter.unusedSimpArgs false
theorem valB_byte {v : Val} (hi : I64 v.i) (hm : mayV v = true) : Byte (valB v) := by
  unfold valB
  split
  · exact putP_byte64 (zigP_lt hi.1 hi.2)
  · split
    · exact beP_byte _
    · split
      · rename_i h3
        have hs := may_size hm h3
        intro c hc
        unfold textP at hc
        rcases List.mem_append.1 hc with h | h
        · exact putP_byte64 (n := v.s.size) (by omega) c h
        · exact sbytes_byte _ c h
      · intro c hc; simp at hc
theorem dictB_byte {l : List Val} {k : Int} (h : plainP l k = 0) (hok : ∀ v ∈ l, I64 v.i) : Byte (dictB l) := by
  have hmay := plainP_may h
  have h4 := plainP_len h
  have hwl := words_len l
  intro c hc
  unfold dictB at hc
  rcases List.mem_append.1 hc with hc | hc
  · rcases List.mem_append.1 hc with hc | hc
    · exact putP_byte64 (n := (wordsP cmpV l).length) (by omega) c hc
    · obtain ⟨v, hv, hc⟩ := List.mem_flatMap.1 hc
      have hv' := words_mem cmpV_tri hv
      exact valB_byte (hok v hv') (hmay v hv') c hc
  · obtain ⟨i, _, rfl⟩ := List.mem_map.1 hc
    exact byteAt_lt _ _
theorem wbytes_len : ∀ (W : List Val), (∀ v ∈ W, I64 v.i ∧ mayV v = true) → (wbytes W).length ≤ W.length * 1035
  | [], _ => by simp [wbytes]
  | v :: W, h => by
    have h1 := wbytes_len W fun x hx => h x (by simp [hx])
    have h2 := valB_len (h v (by simp)).1 (h v (by simp)).2
    have e : wbytes (v :: W) = valB v ++ wbytes W := by simp [wbytes]
    rw [e, List.length_append, List.length_cons]
    omega
theorem dictB_len {l : List Val} {k : Int} (h : plainP l k = 0) (hok : ∀ v ∈ l, I64 v.i) : (dictB l).length ≤ 10000000 := by
  have hmay := plainP_may h
  have h4 := plainP_len h
  have hwl := words_len l
  have h1 := wbytes_len (wordsP cmpV l) fun v hv => ⟨hok v (words_mem cmpV_tri hv), hmay v (words_mem cmpV_tri hv)⟩
  have h2 := putP_len 10 (wordsP cmpV l).length (by omega)
  have hw := widP_le (n := (wordsP cmpV l).length) (by omega)
  have h3 : (l.map (codeW l)).length * widP (wordsP cmpV l).length ≤ 4096 * 12 := Nat.mul_le_mul (by rw [List.length_map]; omega) hw
  unfold dictB
  rw [List.length_append, List.length_append, packP, packB_len, bitsL_len]
  omega
theorem ofDict_bad {b : List Nat} {n k : Int} (h : (ofDict b n k).2 ≠ 0) : (ofDict b n k).1 = [] := by
  unfold ofDict at *
  split
  · rename_i he
    rw [if_pos he] at h
    exact absurd rfl h
  · rfl
set_option maxRecDepth 10000 in
set_option maxHeartbeats 1000000 in
theorem dictBack_walk (l : List Val) (k : Int) (b : List Nat) (n : Int) (hl : l.length ≤ 140737488351232) (hls : ∀ v ∈ l, v.Ok) (hbl : b.length ≤ 140737488351232) (hb : ∀ c ∈ b, c < 256) (H : AHeap) :
    Does Try.prog 7 [.d (.list false (l.map Val.enc)), .d (.v (.int .i64 k)), .d (.list false (bys b)), .d (.v (.int .i64 n))] H (.ok (bA true)) H := by
  have hok : ∀ v ∈ l, I64 v.i := fun v hv => (hls v hv).i
  have hfd := few09_does l false H (by omega) fun k hk => (hls k hk).s
  cases hf : fewP l with
  | false =>
    rw [hf] at hfd
    refine Does.of_awp (hint := (fun _ => false)) Try.func7 (by kernel_rfl) rfl [8] (by kernel_rfl) (by decide) (by simp [Try.ntmps7]) ?_
    rw [Try.ntmps7]
    simp (implicitDefEqProofs := false) only [↓reduceIte, go_sem, oread, owrite, Nat.reduceAdd, Nat.reduceSub, Nat.reduceMul, Nat.reduceLT, Nat.reduceLeDiff, Nat.reduceEqDiff, Nat.reduceBEq, Int.reduceLE, Int.reduceLT, Int.reduceEq, Int.reduceNe, Int.reduceAdd, Int.reduceSub, Int.reduceMul, Int.reduceNeg, Int.reduceToNat, Int.reduceNatCast, reduceCtorEq, eq_self]
    refine KCall.ok (shown09_does _) ?_
    simp (implicitDefEqProofs := false) only [↓reduceIte, go_sem, oread, owrite, Nat.reduceAdd, Nat.reduceSub, Nat.reduceMul, Nat.reduceLT, Nat.reduceLeDiff, Nat.reduceEqDiff, Nat.reduceBEq, Int.reduceLE, Int.reduceLT, Int.reduceEq, Int.reduceNe, Int.reduceAdd, Int.reduceSub, Int.reduceMul, Int.reduceNeg, Int.reduceToNat, Int.reduceNatCast, reduceCtorEq, eq_self]
    refine KCall.ok hfd ?_
    simp (implicitDefEqProofs := false) only [↓reduceIte, go_sem, oread, owrite, Nat.reduceAdd, Nat.reduceSub, Nat.reduceMul, Nat.reduceLT, Nat.reduceLeDiff, Nat.reduceEqDiff, Nat.reduceBEq, Int.reduceLE, Int.reduceLT, Int.reduceEq, Int.reduceNe, Int.reduceAdd, Int.reduceSub, Int.reduceMul, Int.reduceNeg, Int.reduceToNat, Int.reduceNatCast, reduceCtorEq, eq_self]
    refine AEnd.ret0 ?_
    simp (implicitDefEqProofs := false) only [↓reduceIte, go_sem, oread, owrite, Nat.reduceAdd, Nat.reduceSub, Nat.reduceMul, Nat.reduceLT, Nat.reduceLeDiff, Nat.reduceEqDiff, Nat.reduceBEq, Int.reduceLE, Int.reduceLT, Int.reduceEq, Int.reduceNe, Int.reduceAdd, Int.reduceSub, Int.reduceMul, Int.reduceNeg, Int.reduceToNat, Int.reduceNatCast, reduceCtorEq, eq_self]
  | true =>
    rw [hf] at hfd
    have hll := fewP_len hf
    have hbd := dictBytes_does l k hok H (by omega)
    have hbk := dict_back (b := b) (n := n) (k := k) (l := (ofDict b n k).1) hb
    have hbad := ofDict_bad (b := b) (n := n) (k := k)
    have hod := dictOf_does b n k hbl hb H
    have hsd := same05_does l l false false H (by omega)
    rw [decide_eq_true rfl] at hsd
    have v3 : ((pushAll (b.map fun (n : Nat) => (n : Int))).toList == (pushAll (b.map fun (n : Nat) => (n : Int))).toList) = true := by simp
    have hx : ∃ M f, (∀ H, Does Try.prog 19 [.d (.list false (bys (dictL l k))), iA l.length, iA k] H (.ok (.tup [.d (.list false (M.map Val.enc)), iA f])) H) ∧ (plainP l k = 0 → M = l ∧ f = 0) := by
      by_cases hp : plainP l k = 0
      · have h1 := (dict_of_bytes hp hok).2
        have h2 := fun H => dictOf_does (dictB l) l.length k (by have := dictB_len hp hok; omega) (dictB_byte hp hok) H
        rw [h1] at h2
        rw [show dictL l k = dictB l from if_pos hp]
        exact ⟨l, 0, h2, fun _ => ⟨rfl, rfl⟩⟩
      · rw [show dictL l k = [] from if_neg hp]
        exact ⟨_, _, fun H => dictOf_does [] l.length k (by simp) (by simp) H, fun h => absurd h hp⟩
    obtain ⟨M, f, hmd, hmf⟩ := hx
    generalize ofDict b n k = t at *
    obtain ⟨K, h⟩ := t
    simp only at hbk hbad hod
    generalize plainP l k = p at *
    generalize dictL l k = X at *
    by_cases hh : h = 0
    · subst hh
      obtain ⟨g1, g2, g3, g4⟩ := hbk rfl
      have hkd := dictBytes_does K k g4 H (by have := plainP_len g1; omega)
      rw [g1, show dictL K k = dictB K from if_pos g1, g2] at hkd
      by_cases hp : p = 0
      · obtain ⟨rfl, rfl⟩ := hmf hp
        subst hp
        refine Does.of_awp (hint := (fun _ => false)) Try.func7 (by kernel_rfl) rfl [8] (by kernel_rfl) (by decide) (by simp [Try.ntmps7]) ?_
        rw [Try.ntmps7]
        simp (implicitDefEqProofs := false) only [↓reduceIte, go_sem, oread, owrite, Nat.reduceAdd, Nat.reduceSub, Nat.reduceMul, Nat.reduceLT, Nat.reduceLeDiff, Nat.reduceEqDiff, Nat.reduceBEq, Int.reduceLE, Int.reduceLT, Int.reduceEq, Int.reduceNe, Int.reduceAdd, Int.reduceSub, Int.reduceMul, Int.reduceNeg, Int.reduceToNat, Int.reduceNatCast, reduceCtorEq, eq_self]
        refine KCall.ok (shown09_does _) ?_
        simp (implicitDefEqProofs := false) only [↓reduceIte, go_sem, oread, owrite, Nat.reduceAdd, Nat.reduceSub, Nat.reduceMul, Nat.reduceLT, Nat.reduceLeDiff, Nat.reduceEqDiff, Nat.reduceBEq, Int.reduceLE, Int.reduceLT, Int.reduceEq, Int.reduceNe, Int.reduceAdd, Int.reduceSub, Int.reduceMul, Int.reduceNeg, Int.reduceToNat, Int.reduceNatCast, reduceCtorEq, eq_self]
        refine KCall.ok hfd ?_
        simp (implicitDefEqProofs := false) only [↓reduceIte, go_sem, oread, owrite, Nat.reduceAdd, Nat.reduceSub, Nat.reduceMul, Nat.reduceLT, Nat.reduceLeDiff, Nat.reduceEqDiff, Nat.reduceBEq, Int.reduceLE, Int.reduceLT, Int.reduceEq, Int.reduceNe, Int.reduceAdd, Int.reduceSub, Int.reduceMul, Int.reduceNeg, Int.reduceToNat, Int.reduceNatCast, reduceCtorEq, eq_self]
        refine KCall.ok hbd ?_
        simp (implicitDefEqProofs := false) only [↓reduceIte, go_sem, oread, owrite, Nat.reduceAdd, Nat.reduceSub, Nat.reduceMul, Nat.reduceLT, Nat.reduceLeDiff, Nat.reduceEqDiff, Nat.reduceBEq, Int.reduceLE, Int.reduceLT, Int.reduceEq, Int.reduceNe, Int.reduceAdd, Int.reduceSub, Int.reduceMul, Int.reduceNeg, Int.reduceToNat, Int.reduceNatCast, reduceCtorEq, eq_self, List.length_map]
        refine KCall.ok (hmd _) ?_
        simp (implicitDefEqProofs := false) only [↓reduceIte, go_sem, oread, owrite, Nat.reduceAdd, Nat.reduceSub, Nat.reduceMul, Nat.reduceLT, Nat.reduceLeDiff, Nat.reduceEqDiff, Nat.reduceBEq, Int.reduceLE, Int.reduceLT, Int.reduceEq, Int.reduceNe, Int.reduceAdd, Int.reduceSub, Int.reduceMul, Int.reduceNeg, Int.reduceToNat, Int.reduceNatCast, reduceCtorEq, eq_self]
        refine KCall.ok hsd ?_
        simp (implicitDefEqProofs := false) only [↓reduceIte, go_sem, oread, owrite, Nat.reduceAdd, Nat.reduceSub, Nat.reduceMul, Nat.reduceLT, Nat.reduceLeDiff, Nat.reduceEqDiff, Nat.reduceBEq, Int.reduceLE, Int.reduceLT, Int.reduceEq, Int.reduceNe, Int.reduceAdd, Int.reduceSub, Int.reduceMul, Int.reduceNeg, Int.reduceToNat, Int.reduceNatCast, reduceCtorEq, eq_self]
        refine KCall.ok hod ?_
        simp (implicitDefEqProofs := false) only [↓reduceIte, go_sem, oread, owrite, Nat.reduceAdd, Nat.reduceSub, Nat.reduceMul, Nat.reduceLT, Nat.reduceLeDiff, Nat.reduceEqDiff, Nat.reduceBEq, Int.reduceLE, Int.reduceLT, Int.reduceEq, Int.reduceNe, Int.reduceAdd, Int.reduceSub, Int.reduceMul, Int.reduceNeg, Int.reduceToNat, Int.reduceNatCast, reduceCtorEq, eq_self]
        refine KCall.ok hkd ?_
        simp (implicitDefEqProofs := false) only [↓reduceIte, go_sem, oread, owrite, Nat.reduceAdd, Nat.reduceSub, Nat.reduceMul, Nat.reduceLT, Nat.reduceLeDiff, Nat.reduceEqDiff, Nat.reduceBEq, Int.reduceLE, Int.reduceLT, Int.reduceEq, Int.reduceNe, Int.reduceAdd, Int.reduceSub, Int.reduceMul, Int.reduceNeg, Int.reduceToNat, Int.reduceNatCast, reduceCtorEq, eq_self, asBytes_bys, v3, List.length_map, g3]
        refine AEnd.ret0 ?_
        simp (implicitDefEqProofs := false) only [↓reduceIte, go_sem, oread, owrite, Nat.reduceAdd, Nat.reduceSub, Nat.reduceMul, Nat.reduceLT, Nat.reduceLeDiff, Nat.reduceEqDiff, Nat.reduceBEq, Int.reduceLE, Int.reduceLT, Int.reduceEq, Int.reduceNe, Int.reduceAdd, Int.reduceSub, Int.reduceMul, Int.reduceNeg, Int.reduceToNat, Int.reduceNatCast, reduceCtorEq, eq_self]
      · clear hmf
        refine Does.of_awp (hint := (fun _ => false)) Try.func7 (by kernel_rfl) rfl [8] (by kernel_rfl) (by decide) (by simp [Try.ntmps7]) ?_
        rw [Try.ntmps7]
        simp (implicitDefEqProofs := false) only [↓reduceIte, go_sem, oread, owrite, Nat.reduceAdd, Nat.reduceSub, Nat.reduceMul, Nat.reduceLT, Nat.reduceLeDiff, Nat.reduceEqDiff, Nat.reduceBEq, Int.reduceLE, Int.reduceLT, Int.reduceEq, Int.reduceNe, Int.reduceAdd, Int.reduceSub, Int.reduceMul, Int.reduceNeg, Int.reduceToNat, Int.reduceNatCast, reduceCtorEq, eq_self]
        refine KCall.ok (shown09_does _) ?_
        simp (implicitDefEqProofs := false) only [↓reduceIte, go_sem, oread, owrite, Nat.reduceAdd, Nat.reduceSub, Nat.reduceMul, Nat.reduceLT, Nat.reduceLeDiff, Nat.reduceEqDiff, Nat.reduceBEq, Int.reduceLE, Int.reduceLT, Int.reduceEq, Int.reduceNe, Int.reduceAdd, Int.reduceSub, Int.reduceMul, Int.reduceNeg, Int.reduceToNat, Int.reduceNatCast, reduceCtorEq, eq_self]
        refine KCall.ok hfd ?_
        simp (implicitDefEqProofs := false) only [↓reduceIte, go_sem, oread, owrite, Nat.reduceAdd, Nat.reduceSub, Nat.reduceMul, Nat.reduceLT, Nat.reduceLeDiff, Nat.reduceEqDiff, Nat.reduceBEq, Int.reduceLE, Int.reduceLT, Int.reduceEq, Int.reduceNe, Int.reduceAdd, Int.reduceSub, Int.reduceMul, Int.reduceNeg, Int.reduceToNat, Int.reduceNatCast, reduceCtorEq, eq_self]
        refine KCall.ok hbd ?_
        simp (implicitDefEqProofs := false) only [↓reduceIte, go_sem, oread, owrite, Nat.reduceAdd, Nat.reduceSub, Nat.reduceMul, Nat.reduceLT, Nat.reduceLeDiff, Nat.reduceEqDiff, Nat.reduceBEq, Int.reduceLE, Int.reduceLT, Int.reduceEq, Int.reduceNe, Int.reduceAdd, Int.reduceSub, Int.reduceMul, Int.reduceNeg, Int.reduceToNat, Int.reduceNatCast, reduceCtorEq, eq_self, List.length_map]
        refine KCall.ok (hmd _) ?_
        simp (implicitDefEqProofs := false) only [↓reduceIte, go_sem, oread, owrite, Nat.reduceAdd, Nat.reduceSub, Nat.reduceMul, Nat.reduceLT, Nat.reduceLeDiff, Nat.reduceEqDiff, Nat.reduceBEq, Int.reduceLE, Int.reduceLT, Int.reduceEq, Int.reduceNe, Int.reduceAdd, Int.reduceSub, Int.reduceMul, Int.reduceNeg, Int.reduceToNat, Int.reduceNatCast, reduceCtorEq, eq_self, hp]
        refine KCall.ok hod ?_
        simp (implicitDefEqProofs := false) only [↓reduceIte, go_sem, oread, owrite, Nat.reduceAdd, Nat.reduceSub, Nat.reduceMul, Nat.reduceLT, Nat.reduceLeDiff, Nat.reduceEqDiff, Nat.reduceBEq, Int.reduceLE, Int.reduceLT, Int.reduceEq, Int.reduceNe, Int.reduceAdd, Int.reduceSub, Int.reduceMul, Int.reduceNeg, Int.reduceToNat, Int.reduceNatCast, reduceCtorEq, eq_self]
        refine KCall.ok hkd ?_
        simp (implicitDefEqProofs := false) only [↓reduceIte, go_sem, oread, owrite, Nat.reduceAdd, Nat.reduceSub, Nat.reduceMul, Nat.reduceLT, Nat.reduceLeDiff, Nat.reduceEqDiff, Nat.reduceBEq, Int.reduceLE, Int.reduceLT, Int.reduceEq, Int.reduceNe, Int.reduceAdd, Int.reduceSub, Int.reduceMul, Int.reduceNeg, Int.reduceToNat, Int.reduceNatCast, reduceCtorEq, eq_self, asBytes_bys, v3, List.length_map, g3]
        refine AEnd.ret0 ?_
        simp (implicitDefEqProofs := false) only [↓reduceIte, go_sem, oread, owrite, Nat.reduceAdd, Nat.reduceSub, Nat.reduceMul, Nat.reduceLT, Nat.reduceLeDiff, Nat.reduceEqDiff, Nat.reduceBEq, Int.reduceLE, Int.reduceLT, Int.reduceEq, Int.reduceNe, Int.reduceAdd, Int.reduceSub, Int.reduceMul, Int.reduceNeg, Int.reduceToNat, Int.reduceNatCast, reduceCtorEq, eq_self]
    · have hK := hbad hh
      subst hK
      by_cases hp : p = 0
      · obtain ⟨rfl, rfl⟩ := hmf hp
        subst hp
        refine Does.of_awp (hint := (fun _ => false)) Try.func7 (by kernel_rfl) rfl [8] (by kernel_rfl) (by decide) (by simp [Try.ntmps7]) ?_
        rw [Try.ntmps7]
        simp (implicitDefEqProofs := false) only [↓reduceIte, go_sem, oread, owrite, Nat.reduceAdd, Nat.reduceSub, Nat.reduceMul, Nat.reduceLT, Nat.reduceLeDiff, Nat.reduceEqDiff, Nat.reduceBEq, Int.reduceLE, Int.reduceLT, Int.reduceEq, Int.reduceNe, Int.reduceAdd, Int.reduceSub, Int.reduceMul, Int.reduceNeg, Int.reduceToNat, Int.reduceNatCast, reduceCtorEq, eq_self]
        refine KCall.ok (shown09_does _) ?_
        simp (implicitDefEqProofs := false) only [↓reduceIte, go_sem, oread, owrite, Nat.reduceAdd, Nat.reduceSub, Nat.reduceMul, Nat.reduceLT, Nat.reduceLeDiff, Nat.reduceEqDiff, Nat.reduceBEq, Int.reduceLE, Int.reduceLT, Int.reduceEq, Int.reduceNe, Int.reduceAdd, Int.reduceSub, Int.reduceMul, Int.reduceNeg, Int.reduceToNat, Int.reduceNatCast, reduceCtorEq, eq_self]
        refine KCall.ok hfd ?_
        simp (implicitDefEqProofs := false) only [↓reduceIte, go_sem, oread, owrite, Nat.reduceAdd, Nat.reduceSub, Nat.reduceMul, Nat.reduceLT, Nat.reduceLeDiff, Nat.reduceEqDiff, Nat.reduceBEq, Int.reduceLE, Int.reduceLT, Int.reduceEq, Int.reduceNe, Int.reduceAdd, Int.reduceSub, Int.reduceMul, Int.reduceNeg, Int.reduceToNat, Int.reduceNatCast, reduceCtorEq, eq_self]
        refine KCall.ok hbd ?_
        simp (implicitDefEqProofs := false) only [↓reduceIte, go_sem, oread, owrite, Nat.reduceAdd, Nat.reduceSub, Nat.reduceMul, Nat.reduceLT, Nat.reduceLeDiff, Nat.reduceEqDiff, Nat.reduceBEq, Int.reduceLE, Int.reduceLT, Int.reduceEq, Int.reduceNe, Int.reduceAdd, Int.reduceSub, Int.reduceMul, Int.reduceNeg, Int.reduceToNat, Int.reduceNatCast, reduceCtorEq, eq_self, List.length_map]
        refine KCall.ok (hmd _) ?_
        simp (implicitDefEqProofs := false) only [↓reduceIte, go_sem, oread, owrite, Nat.reduceAdd, Nat.reduceSub, Nat.reduceMul, Nat.reduceLT, Nat.reduceLeDiff, Nat.reduceEqDiff, Nat.reduceBEq, Int.reduceLE, Int.reduceLT, Int.reduceEq, Int.reduceNe, Int.reduceAdd, Int.reduceSub, Int.reduceMul, Int.reduceNeg, Int.reduceToNat, Int.reduceNatCast, reduceCtorEq, eq_self]
        refine KCall.ok hsd ?_
        simp (implicitDefEqProofs := false) only [↓reduceIte, go_sem, oread, owrite, Nat.reduceAdd, Nat.reduceSub, Nat.reduceMul, Nat.reduceLT, Nat.reduceLeDiff, Nat.reduceEqDiff, Nat.reduceBEq, Int.reduceLE, Int.reduceLT, Int.reduceEq, Int.reduceNe, Int.reduceAdd, Int.reduceSub, Int.reduceMul, Int.reduceNeg, Int.reduceToNat, Int.reduceNatCast, reduceCtorEq, eq_self]
        refine KCall.ok hod ?_
        simp (implicitDefEqProofs := false) only [↓reduceIte, go_sem, oread, owrite, Nat.reduceAdd, Nat.reduceSub, Nat.reduceMul, Nat.reduceLT, Nat.reduceLeDiff, Nat.reduceEqDiff, Nat.reduceBEq, Int.reduceLE, Int.reduceLT, Int.reduceEq, Int.reduceNe, Int.reduceAdd, Int.reduceSub, Int.reduceMul, Int.reduceNeg, Int.reduceToNat, Int.reduceNatCast, reduceCtorEq, eq_self, hh]
        refine AEnd.ret0 ?_
        simp (implicitDefEqProofs := false) only [↓reduceIte, go_sem, oread, owrite, Nat.reduceAdd, Nat.reduceSub, Nat.reduceMul, Nat.reduceLT, Nat.reduceLeDiff, Nat.reduceEqDiff, Nat.reduceBEq, Int.reduceLE, Int.reduceLT, Int.reduceEq, Int.reduceNe, Int.reduceAdd, Int.reduceSub, Int.reduceMul, Int.reduceNeg, Int.reduceToNat, Int.reduceNatCast, reduceCtorEq, eq_self]
      · clear hmf
        refine Does.of_awp (hint := (fun _ => false)) Try.func7 (by kernel_rfl) rfl [8] (by kernel_rfl) (by decide) (by simp [Try.ntmps7]) ?_
        rw [Try.ntmps7]
        simp (implicitDefEqProofs := false) only [↓reduceIte, go_sem, oread, owrite, Nat.reduceAdd, Nat.reduceSub, Nat.reduceMul, Nat.reduceLT, Nat.reduceLeDiff, Nat.reduceEqDiff, Nat.reduceBEq, Int.reduceLE, Int.reduceLT, Int.reduceEq, Int.reduceNe, Int.reduceAdd, Int.reduceSub, Int.reduceMul, Int.reduceNeg, Int.reduceToNat, Int.reduceNatCast, reduceCtorEq, eq_self]
        refine KCall.ok (shown09_does _) ?_
        simp (implicitDefEqProofs := false) only [↓reduceIte, go_sem, oread, owrite, Nat.reduceAdd, Nat.reduceSub, Nat.reduceMul, Nat.reduceLT, Nat.reduceLeDiff, Nat.reduceEqDiff, Nat.reduceBEq, Int.reduceLE, Int.reduceLT, Int.reduceEq, Int.reduceNe, Int.reduceAdd, Int.reduceSub, Int.reduceMul, Int.reduceNeg, Int.reduceToNat, Int.reduceNatCast, reduceCtorEq, eq_self]
        refine KCall.ok hfd ?_
        simp (implicitDefEqProofs := false) only [↓reduceIte, go_sem, oread, owrite, Nat.reduceAdd, Nat.reduceSub, Nat.reduceMul, Nat.reduceLT, Nat.reduceLeDiff, Nat.reduceEqDiff, Nat.reduceBEq, Int.reduceLE, Int.reduceLT, Int.reduceEq, Int.reduceNe, Int.reduceAdd, Int.reduceSub, Int.reduceMul, Int.reduceNeg, Int.reduceToNat, Int.reduceNatCast, reduceCtorEq, eq_self]
        refine KCall.ok hbd ?_
        simp (implicitDefEqProofs := false) only [↓reduceIte, go_sem, oread, owrite, Nat.reduceAdd, Nat.reduceSub, Nat.reduceMul, Nat.reduceLT, Nat.reduceLeDiff, Nat.reduceEqDiff, Nat.reduceBEq, Int.reduceLE, Int.reduceLT, Int.reduceEq, Int.reduceNe, Int.reduceAdd, Int.reduceSub, Int.reduceMul, Int.reduceNeg, Int.reduceToNat, Int.reduceNatCast, reduceCtorEq, eq_self, List.length_map]
        refine KCall.ok (hmd _) ?_
        simp (implicitDefEqProofs := false) only [↓reduceIte, go_sem, oread, owrite, Nat.reduceAdd, Nat.reduceSub, Nat.reduceMul, Nat.reduceLT, Nat.reduceLeDiff, Nat.reduceEqDiff, Nat.reduceBEq, Int.reduceLE, Int.reduceLT, Int.reduceEq, Int.reduceNe, Int.reduceAdd, Int.reduceSub, Int.reduceMul, Int.reduceNeg, Int.reduceToNat, Int.reduceNatCast, reduceCtorEq, eq_self, hp]
        refine KCall.ok hod ?_
        simp (implicitDefEqProofs := false) only [↓reduceIte, go_sem, oread, owrite, Nat.reduceAdd, Nat.reduceSub, Nat.reduceMul, Nat.reduceLT, Nat.reduceLeDiff, Nat.reduceEqDiff, Nat.reduceBEq, Int.reduceLE, Int.reduceLT, Int.reduceEq, Int.reduceNe, Int.reduceAdd, Int.reduceSub, Int.reduceMul, Int.reduceNeg, Int.reduceToNat, Int.reduceNatCast, reduceCtorEq, eq_self, hh]
        refine AEnd.ret0 ?_
        simp (implicitDefEqProofs := false) only [↓reduceIte, go_sem, oread, owrite, Nat.reduceAdd, Nat.reduceSub, Nat.reduceMul, Nat.reduceLT, Nat.reduceLeDiff, Nat.reduceEqDiff, Nat.reduceBEq, Int.reduceLE, Int.reduceLT, Int.reduceEq, Int.reduceNe, Int.reduceAdd, Int.reduceSub, Int.reduceMul, Int.reduceNeg, Int.reduceToNat, Int.reduceNatCast, reduceCtorEq, eq_self]
theorem dictBack_does (x0 : AV) (h0 : ArgOk Try.prog 22 x0) (x1 : AV) (h1 : ArgOk Try.prog 3 x1) (x2 : AV) (h2 : ArgOk Try.prog 41 x2) (x3 : AV) (h3 : ArgOk Try.prog 3 x3) : Does Try.prog 7 [x0, x1, x2, x3] [] (.ok (.d (.v (.bool true)))) [] := by
  obtain ⟨l, rfl, hl, hls⟩ := vals_arg h0
  obtain ⟨k, rfl, _⟩ := int_arg h1
  obtain ⟨b, rfl, hbl, hb⟩ := bytes_arg h2
  obtain ⟨n, rfl, _⟩ := int_arg h3
  exact dictBack_walk l k b n hl hls hbl hb []
end Go.Proofs.Ytkapgooedfompaa

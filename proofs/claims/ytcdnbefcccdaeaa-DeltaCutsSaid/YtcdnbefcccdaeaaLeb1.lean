/- leb.Get, leb.Zag: what they do. -/
import Derived.Test.YtcdnbefcccdaeaaAwV
import Derived.Test.YtcdnbefcccdaeaaUs
import Derived.Test.YtcdnbefcccdaeaaNat
import Derived.Test.YtcdnbefcccdaeaaDelta2
namespace Go.Proofs.Ytcdnbefcccdaeaa
open Go.Proofs.YtcdnbefcccdaeaaAw Go.RowKit
set_option linter.unusedVariables false
set_option linter.unusedSimpArgs false
abbrev eV (e : Int) : Value := .iface 28 (.int .i64 e)
/-- The box of a row of bytes. -/
def rowB (b : List Nat) : AObj := .box 85 1 0 1 [.d (.list false (bys b))]
theorem next_short (H : AHeap) (id : Nat) (ho : H[id]? = some (rowB [])) : Does Try.prog 71 [.ptr id 0 0 0] H (.panic (eV 3)) H := by
  refine Does.of_awp (hint := (fun _ => false)) Try.func71 (by kernel_rfl) rfl [2] (by kernel_rfl) (by decide) (by simp [Try.ntmps71]) ?_
  rw [Try.ntmps71]
  simp (implicitDefEqProofs := false) only [↓reduceIte, go_sem, oread, owrite, Nat.reduceAdd, Nat.reduceSub, Nat.reduceMul, Nat.reduceLT, Nat.reduceLeDiff, Nat.reduceEqDiff, Nat.reduceBEq, Int.reduceLE, Int.reduceLT, Int.reduceEq, Int.reduceNe, Int.reduceAdd, Int.reduceSub, Int.reduceMul, Int.reduceNeg, Int.reduceToNat, Int.reduceNatCast, reduceCtorEq, eq_self, ho, rowB, bys_nil]
  exact ⟨_, .refl _ _, rfl⟩
set_option maxRecDepth 10000 in
theorem next_does (H : AHeap) (id : Nat) (c : Nat) (b : List Nat) (hl : b.length < 1000000000000000) (ho : H[id]? = some (rowB (c :: b))) : Does Try.prog 71 [.ptr id 0 0 0] H (.ok (.d (.v (.int .u8 c)))) (H.set id (rowB b)) := by
  refine Does.of_awp (hint := (fun _ => false)) Try.func71 (by kernel_rfl) rfl [2] (by kernel_rfl) (by decide) (by simp [Try.ntmps71]) ?_
  rw [Try.ntmps71]
  have hne : ((b.length : Int) + 1 = 0) = False := eq_false (by omega)
  have hid : id < H.length := (List.getElem?_eq_some_iff.1 ho).1
  have hget : (bys (c :: b))[0]? = some [.v (.int .u8 c)] := rfl
  simp (implicitDefEqProofs := false) only [↓reduceIte, go_sem, oread, owrite, Nat.reduceAdd, Nat.reduceSub, Nat.reduceMul, Nat.reduceLT, Nat.reduceLeDiff, Nat.reduceEqDiff, Nat.reduceBEq, Int.reduceLE, Int.reduceLT, Int.reduceEq, Int.reduceNe, Int.reduceAdd, Int.reduceSub, Int.reduceMul, Int.reduceNeg, Int.reduceToNat, Int.reduceNatCast, reduceCtorEq, eq_self, ho, rowB, bys_len, hne, hget, Int.toNat_zero, Nat.zero_mul]
  refine awp_drawK 14 K.mixed (by kernel_rfl) (by kernel_rfl) ?_
  simp (implicitDefEqProofs := false) only [↓reduceIte, go_sem, oread, owrite, Nat.reduceAdd, Nat.reduceSub, Nat.reduceMul, Nat.reduceLT, Nat.reduceLeDiff, Nat.reduceEqDiff, Nat.reduceBEq, Int.reduceLE, Int.reduceLT, Int.reduceEq, Int.reduceNe, Int.reduceAdd, Int.reduceSub, Int.reduceMul, Int.reduceNeg, Int.reduceToNat, Int.reduceNatCast, reduceCtorEq, eq_self, ho, rowB, bys_len, bys_one]
  have hd : List.drop 1 (List.take (b.length + 1 : Int).toNat (bys (c :: b))) = bys b := by
    rw [List.take_of_length_le (by rw [bys_len, List.length_cons]; omega)]; rfl
  rw [hd]
  refine ⟨by omega, by omega, by omega, _, Weak.refl _ _, ?_⟩
  simp (implicitDefEqProofs := false) only [↓reduceIte, go_sem, oread, owrite, Nat.reduceAdd, Nat.reduceSub, Nat.reduceMul, Nat.reduceLT, Nat.reduceLeDiff, Nat.reduceEqDiff, Nat.reduceBEq, Int.reduceLE, Int.reduceLT, Int.reduceEq, Int.reduceNe, Int.reduceAdd, Int.reduceSub, Int.reduceMul, Int.reduceNeg, Int.reduceToNat, Int.reduceNatCast, reduceCtorEq, eq_self]
/-- What number reads, from place 10 - k on. -/
def numP : Nat → Nat → List Nat → Except Int Nat × List Nat
  | 0, _, b => (.error 4, b)
  | _ + 1, _, [] => (.error 3, [])
  | k + 1, acc, c :: b =>
    if (k = 0 ∧ 1 < c) ∨ (k < 9 ∧ c = 0) then (.error 4, b)
    else if c < 128 then (.ok (acc + c % 128 * 128 ^ (9 - k)), b)
    else numP k (acc + c % 128 * 128 ^ (9 - k)) b
theorem andNot128 : ∀ m : Nat, m < 256 → IntKind.u64.wrap (IntKind.u8.wrap (andNotI .u8 (m : Int) 128)) = ((m % 128 : Nat) : Int) := by decide +kernel
theorem shlN (m j : Nat) (hj : j ≤ 63) (hm : m * 2 ^ j < 18446744073709551616) : IntKind.u64.wrap (shlI .u64 (m : Int) (j : Int)) = ((m * 2 ^ j : Nat) : Int) := by
  have h1 : min j 64 = j := by omega
  have h3 : shlI .u64 (m : Int) (j : Int) = ((m * 2 ^ j : Nat) : Int) := by
    simp only [shlI, IntKind.bits, Int.toNat_natCast, h1]
    push_cast
    rfl
  rw [h3]
  exact wrapU64N _ hm
theorem orN (a m j : Nat) (ha : a < 2 ^ j) (hm : a + m * 2 ^ j < 18446744073709551616) : IntKind.u64.wrap (orI .u64 (a : Int) ((m * 2 ^ j : Nat) : Int)) = ((a + m * 2 ^ j : Nat) : Int) := by
  rw [orI_nat .u64 a (m * 2 ^ j) (by simp only [IntKind.bits]; omega) (by simp only [IntKind.bits]; omega)]
  have h4 : a ||| m * 2 ^ j = a + m * 2 ^ j := by
    rw [Nat.or_comm, Nat.mul_comm, ← Nat.two_pow_add_eq_or_of_lt ha]
    omega
  rw [h4]
  exact wrapU64N _ hm
theorem pow128 (i : Nat) : 128 ^ i = 2 ^ (7 * i) := by rw [Nat.pow_mul]
set_option maxRecDepth 10000 in
set_option maxHeartbeats 1000000 in
theorem number_does (H : AHeap) (id : Nat) (b : List Nat) (hl : b.length < 1000000000000000) (hb : ∀ c ∈ b, c < 256) (ho : H[id]? = some (rowB b)) :
    Does Try.prog 55 [.ptr id 0 0 0] H (match (numP 10 0 b).1 with | .ok n => .ok (uA n) | .error e => .panic (eV e)) (H.set id (rowB (numP 10 0 b).2)) := by
  have hid : id < H.length := (List.getElem?_eq_some_iff.1 ho).1
  have hself : H = H.set id (rowB b) := by
    apply List.ext_getElem?
    intro j
    by_cases hj : j = id
    · subst hj; rw [ho, List.getElem?_set_self hid]
    · rw [List.getElem?_set_ne (Ne.symm hj)]
  refine Does.of_awp (hint := (fun _ => false)) Try.func55 (by kernel_rfl) rfl [2] (by kernel_rfl) (by decide) (by simp [Try.ntmps55]) ?_
  rw [Try.ntmps55]
  simp (implicitDefEqProofs := false) only [↓reduceIte, go_sem, oread, owrite, Nat.reduceAdd, Nat.reduceSub, Nat.reduceMul, Nat.reduceLT, Nat.reduceLeDiff, Nat.reduceEqDiff, Nat.reduceBEq, Int.reduceLE, Int.reduceLT, Int.reduceEq, Int.reduceNe, Int.reduceAdd, Int.reduceSub, Int.reduceMul, Int.reduceNeg, Int.reduceToNat, Int.reduceNatCast, reduceCtorEq, eq_self]
  refine awp_loop _ _ _ _ (fun (x : Nat × Nat × List Nat) s H' => x.1 ≤ 10 ∧ x.2.1 < 128 ^ (10 - x.1) ∧ x.2.2.length < 1000000000000000 ∧ (∀ c ∈ x.2.2, c < 256) ∧ H' = H.set id (rowB x.2.2) ∧ numP 10 0 b = numP x.1 x.2.1 x.2.2 ∧ s 0 = .ptr id 0 0 0 ∧ s 3 = uA x.2.1 ∧ s 4 = iA ((10 - x.1 : Nat) : Int)) (fun x => x.1) (10, 0, b) (Weak.refl _ _) ?_ ?_
  · refine ⟨Nat.le_refl _, Nat.zero_lt_one, hl, hb, hself, rfl, ?_⟩
    simp (implicitDefEqProofs := false) only [↓reduceIte, go_sem, oread, owrite, Nat.reduceAdd, Nat.reduceSub, Nat.reduceMul, Nat.reduceLT, Nat.reduceLeDiff, Nat.reduceEqDiff, Nat.reduceBEq, Int.reduceLE, Int.reduceLT, Int.reduceEq, Int.reduceNe, Int.reduceAdd, Int.reduceSub, Int.reduceMul, Int.reduceNeg, Int.reduceToNat, Int.reduceNatCast, reduceCtorEq, eq_self]
  · rintro ⟨k, acc, r⟩ s H' ⟨h1, h2, h3, h4, rfl, h5, t0, t3, t4⟩
    simp only at h1 h2 h3 h4 h5 t0 t3 t4
    rw [h5]
    have hget : (H.set id (rowB r))[id]? = some (rowB r) := List.getElem?_set_self hid
    cases k with
    | zero =>
      simp (implicitDefEqProofs := false) only [↓reduceIte, go_sem, oread, owrite, Nat.reduceAdd, Nat.reduceSub, Nat.reduceMul, Nat.reduceLT, Nat.reduceLeDiff, Nat.reduceEqDiff, Nat.reduceBEq, Int.reduceLE, Int.reduceLT, Int.reduceEq, Int.reduceNe, Int.reduceAdd, Int.reduceSub, Int.reduceMul, Int.reduceNeg, Int.reduceToNat, Int.reduceNatCast, reduceCtorEq, eq_self, t0, t3, t4]
      exact ⟨_, .refl _ _, rfl⟩
    | succ k =>
      obtain ⟨i, hi⟩ : ∃ i, i = 9 - k := ⟨_, rfl⟩
      have hi2 : 10 - (k + 1) = i := by omega
      rw [hi2] at t4 h2
      have hne : ((i : Int) = 10) = False := eq_false (by omega)
      simp (implicitDefEqProofs := false) only [↓reduceIte, go_sem, oread, owrite, Nat.reduceAdd, Nat.reduceSub, Nat.reduceMul, Nat.reduceLT, Nat.reduceLeDiff, Nat.reduceEqDiff, Nat.reduceBEq, Int.reduceLE, Int.reduceLT, Int.reduceEq, Int.reduceNe, Int.reduceAdd, Int.reduceSub, Int.reduceMul, Int.reduceNeg, Int.reduceToNat, Int.reduceNatCast, reduceCtorEq, eq_self, t0, t3, t4, hne]
      cases r with
      | nil =>
        refine KCall.panic (next_short _ id hget) ?_
        simp (implicitDefEqProofs := false) only [↓reduceIte, go_sem, oread, owrite, Nat.reduceAdd, Nat.reduceSub, Nat.reduceMul, Nat.reduceLT, Nat.reduceLeDiff, Nat.reduceEqDiff, Nat.reduceBEq, Int.reduceLE, Int.reduceLT, Int.reduceEq, Int.reduceNe, Int.reduceAdd, Int.reduceSub, Int.reduceMul, Int.reduceNeg, Int.reduceToNat, Int.reduceNatCast, reduceCtorEq, eq_self]
        exact ⟨_, .refl _ _, rfl⟩
      | cons c r =>
        refine KCall.ok (next_does _ id c r (by simp at h3; omega) hget) ?_
        have hc : c < 256 := h4 c (by simp)
        by_cases hbad : (k = 0 ∧ 1 < c) ∨ (k < 9 ∧ c = 0)
        · rw [show numP (k + 1) acc (c :: r) = (.error 4, r) by simp [numP, hbad]]
          have fin : ∀ s, AEnd [2] H (ARes.panic (eV 4)) (List.set H id (rowB r)) (AX.panic (Value.iface 28 (Value.int IntKind.i64 4))) s (List.set H id (rowB r)) := fun s => ⟨_, .refl _ _, rfl⟩
          by_cases h9 : k = 0
          · have e1 : ((i : Int) = 9) = True := eq_true (by omega)
            by_cases hc1 : 1 < c
            · have e2 : (1 < (c : Int)) = True := eq_true (by omega)
              simp (implicitDefEqProofs := false) only [↓reduceIte, go_sem, oread, owrite, Nat.reduceAdd, Nat.reduceSub, Nat.reduceMul, Nat.reduceLT, Nat.reduceLeDiff, Nat.reduceEqDiff, Nat.reduceBEq, Int.reduceLE, Int.reduceLT, Int.reduceEq, Int.reduceNe, Int.reduceAdd, Int.reduceSub, Int.reduceMul, Int.reduceNeg, Int.reduceToNat, Int.reduceNatCast, reduceCtorEq, eq_self, List.set_set, t4, e1, e2]
              exact fin _
            · have e2 : (1 < (c : Int)) = False := eq_false (by omega)
              have e3 : (0 < (i : Int)) = True := eq_true (by omega)
              have e4 : ((c : Int) = 0) = True := eq_true (by omega)
              simp (implicitDefEqProofs := false) only [↓reduceIte, go_sem, oread, owrite, Nat.reduceAdd, Nat.reduceSub, Nat.reduceMul, Nat.reduceLT, Nat.reduceLeDiff, Nat.reduceEqDiff, Nat.reduceBEq, Int.reduceLE, Int.reduceLT, Int.reduceEq, Int.reduceNe, Int.reduceAdd, Int.reduceSub, Int.reduceMul, Int.reduceNeg, Int.reduceToNat, Int.reduceNatCast, reduceCtorEq, eq_self, List.set_set, t4, e1, e2, e3, e4]
              exact fin _
          · have e1 : ((i : Int) = 9) = False := eq_false (by omega)
            have e3 : (0 < (i : Int)) = True := eq_true (by omega)
            have e4 : ((c : Int) = 0) = True := eq_true (by omega)
            simp (implicitDefEqProofs := false) only [↓reduceIte, go_sem, oread, owrite, Nat.reduceAdd, Nat.reduceSub, Nat.reduceMul, Nat.reduceLT, Nat.reduceLeDiff, Nat.reduceEqDiff, Nat.reduceBEq, Int.reduceLE, Int.reduceLT, Int.reduceEq, Int.reduceNe, Int.reduceAdd, Int.reduceSub, Int.reduceMul, Int.reduceNeg, Int.reduceToNat, Int.reduceNatCast, reduceCtorEq, eq_self, List.set_set, t4, e1, e3, e4]
            exact fin _
        · have hstep : numP (k + 1) acc (c :: r) = if c < 128 then (.ok (acc + c % 128 * 128 ^ i), r) else numP k (acc + c % 128 * 128 ^ i) r := by
            rw [hi]; simp only [numP, if_neg hbad]
          rw [hstep]
          have hpart := andNot128 c hc
          obtain ⟨j, hj⟩ : ∃ j, j = 7 * i := ⟨_, rfl⟩
          have hp2 := pow128 i
          rw [← hj] at hp2
          have hm : c % 128 * 2 ^ j + 2 ^ j ≤ 18446744073709551616 := by
            by_cases h9 : k = 0
            · have : j = 63 := by omega
              subst this
              have : c ≤ 1 := by omega
              have : c % 128 ≤ 1 := by omega
              omega
            · have h56 : 2 ^ j ≤ 2 ^ 56 := Nat.pow_le_pow_right (by decide) (by omega)
              have : c % 128 < 128 := Nat.mod_lt _ (by decide)
              have : c % 128 * 2 ^ j ≤ 127 * 2 ^ j := Nat.mul_le_mul_right _ (by omega)
              omega
          rw [hp2] at h2
          rw [hp2]
          have e5 : IntKind.i64.wrap (7 * (i : Int)) = (j : Int) := by rw [wrap64_in _ (by omega) (by omega)]; omega
          have e6 : IntKind.u64.wrap (j : Int) = (j : Int) := wrapU64N _ (by omega)
          have e7 := shlN (c % 128) j (by omega) (by omega)
          have e8 := orN acc (c % 128) j h2 (by omega)
          have hA : acc + c % 128 * 2 ^ j < 2 ^ j * 128 := by
            have : c % 128 < 128 := Nat.mod_lt _ (by decide)
            have : c % 128 * 2 ^ j ≤ 127 * 2 ^ j := Nat.mul_le_mul_right _ (by omega)
            omega
          generalize c % 128 = m at *
          generalize m * 2 ^ j = P at *
          generalize acc + P = A at *
          have hw2 : IntKind.i64.wrap ((i : Int) + 1) = ((10 - k : Nat) : Int) := by rw [wrap64_in _ (by omega) (by omega)]; omega
          have fin : ∀ s, s 2 = uA A → AEnd [2] H (ARes.ok (uA A)) (List.set H id (rowB r)) AX.ret s (List.set H id (rowB r)) := fun s hs => ⟨_, .refl _ _, by simp only [ares, hs]⟩
          have nxt : ∀ s, s 0 = .ptr id 0 0 0 → s 3 = uA A → s 4 = iA ((10 - k : Nat) : Int) → ∃ s'' H'' , ∃ y : Nat × Nat × List Nat, Weak H s (List.set H id (rowB r)) s'' H'' ∧ (y.1 ≤ 10 ∧ y.2.1 < 128 ^ (10 - y.1) ∧ y.2.2.length < 1000000000000000 ∧ (∀ c ∈ y.2.2, c < 256) ∧ H'' = H.set id (rowB y.2.2) ∧ numP k A r = numP y.1 y.2.1 y.2.2 ∧ s'' 0 = .ptr id 0 0 0 ∧ s'' 3 = uA y.2.1 ∧ s'' 4 = iA ((10 - y.1 : Nat) : Int)) ∧ y.1 < k + 1 := by
            intro s g0 g3 g4
            refine ⟨s, _, (k, A, r), .refl _ _, ⟨by simp only; omega, ?_, by simp at h3; simp only; omega, fun c hc => h4 c (by simp [hc]), rfl, rfl, g0, g3, g4⟩, Nat.lt_succ_self _⟩
            show A < 128 ^ (10 - k)
            rw [show 10 - k = i + 1 by omega, Nat.pow_succ, pow128, ← hj]
            exact hA
          by_cases hlt : c < 128
          · rw [if_pos hlt]
            have hlt' : ((c : Int) < 128) = True := eq_true (by omega)
            by_cases h9 : k = 0
            · have e1 : ((i : Int) = 9) = True := eq_true (by omega)
              have e2 : (1 < (c : Int)) = False := eq_false (by omega)
              have e3 : (0 < (i : Int)) = True := eq_true (by omega)
              have e4 : ((c : Int) = 0) = False := eq_false (by omega)
              simp (implicitDefEqProofs := false) only [↓reduceIte, go_sem, oread, owrite, Nat.reduceAdd, Nat.reduceSub, Nat.reduceMul, Nat.reduceLT, Nat.reduceLeDiff, Nat.reduceEqDiff, Nat.reduceBEq, Int.reduceLE, Int.reduceLT, Int.reduceEq, Int.reduceNe, Int.reduceAdd, Int.reduceSub, Int.reduceMul, Int.reduceNeg, Int.reduceToNat, Int.reduceNatCast, reduceCtorEq, eq_self, List.set_set, t0, t3, t4, e1, e2, e3, e4, hpart, e5, e6, e7, e8, hlt', hw2]
              exact fin _ (by simp (implicitDefEqProofs := false) only [↓reduceIte, go_sem, oread, owrite, Nat.reduceAdd, Nat.reduceSub, Nat.reduceMul, Nat.reduceLT, Nat.reduceLeDiff, Nat.reduceEqDiff, Nat.reduceBEq, Int.reduceLE, Int.reduceLT, Int.reduceEq, Int.reduceNe, Int.reduceAdd, Int.reduceSub, Int.reduceMul, Int.reduceNeg, Int.reduceToNat, Int.reduceNatCast, reduceCtorEq, eq_self])
            · have e1 : ((i : Int) = 9) = False := eq_false (by omega)
              by_cases h0 : i = 0
              · have e3 : (0 < (i : Int)) = False := eq_false (by omega)
                simp (implicitDefEqProofs := false) only [↓reduceIte, go_sem, oread, owrite, Nat.reduceAdd, Nat.reduceSub, Nat.reduceMul, Nat.reduceLT, Nat.reduceLeDiff, Nat.reduceEqDiff, Nat.reduceBEq, Int.reduceLE, Int.reduceLT, Int.reduceEq, Int.reduceNe, Int.reduceAdd, Int.reduceSub, Int.reduceMul, Int.reduceNeg, Int.reduceToNat, Int.reduceNatCast, reduceCtorEq, eq_self, List.set_set, t0, t3, t4, e1, e3, hpart, e5, e6, e7, e8, hlt', hw2]
                exact fin _ (by simp (implicitDefEqProofs := false) only [↓reduceIte, go_sem, oread, owrite, Nat.reduceAdd, Nat.reduceSub, Nat.reduceMul, Nat.reduceLT, Nat.reduceLeDiff, Nat.reduceEqDiff, Nat.reduceBEq, Int.reduceLE, Int.reduceLT, Int.reduceEq, Int.reduceNe, Int.reduceAdd, Int.reduceSub, Int.reduceMul, Int.reduceNeg, Int.reduceToNat, Int.reduceNatCast, reduceCtorEq, eq_self])
              · have e3 : (0 < (i : Int)) = True := eq_true (by omega)
                have e4 : ((c : Int) = 0) = False := eq_false (by omega)
                simp (implicitDefEqProofs := false) only [↓reduceIte, go_sem, oread, owrite, Nat.reduceAdd, Nat.reduceSub, Nat.reduceMul, Nat.reduceLT, Nat.reduceLeDiff, Nat.reduceEqDiff, Nat.reduceBEq, Int.reduceLE, Int.reduceLT, Int.reduceEq, Int.reduceNe, Int.reduceAdd, Int.reduceSub, Int.reduceMul, Int.reduceNeg, Int.reduceToNat, Int.reduceNatCast, reduceCtorEq, eq_self, List.set_set, t0, t3, t4, e1, e3, e4, hpart, e5, e6, e7, e8, hlt', hw2]
                exact fin _ (by simp (implicitDefEqProofs := false) only [↓reduceIte, go_sem, oread, owrite, Nat.reduceAdd, Nat.reduceSub, Nat.reduceMul, Nat.reduceLT, Nat.reduceLeDiff, Nat.reduceEqDiff, Nat.reduceBEq, Int.reduceLE, Int.reduceLT, Int.reduceEq, Int.reduceNe, Int.reduceAdd, Int.reduceSub, Int.reduceMul, Int.reduceNeg, Int.reduceToNat, Int.reduceNatCast, reduceCtorEq, eq_self])
          · rw [if_neg hlt]
            have hlt' : ((c : Int) < 128) = False := eq_false (by omega)
            by_cases h9 : k = 0
            · have e1 : ((i : Int) = 9) = True := eq_true (by omega)
              have e2 : (1 < (c : Int)) = False := eq_false (by omega)
              have e3 : (0 < (i : Int)) = True := eq_true (by omega)
              have e4 : ((c : Int) = 0) = False := eq_false (by omega)
              simp (implicitDefEqProofs := false) only [↓reduceIte, go_sem, oread, owrite, Nat.reduceAdd, Nat.reduceSub, Nat.reduceMul, Nat.reduceLT, Nat.reduceLeDiff, Nat.reduceEqDiff, Nat.reduceBEq, Int.reduceLE, Int.reduceLT, Int.reduceEq, Int.reduceNe, Int.reduceAdd, Int.reduceSub, Int.reduceMul, Int.reduceNeg, Int.reduceToNat, Int.reduceNatCast, reduceCtorEq, eq_self, List.set_set, t0, t3, t4, e1, e2, e3, e4, hpart, e5, e6, e7, e8, hlt', hw2]
              exact nxt _ (by simp (implicitDefEqProofs := false) only [↓reduceIte, go_sem, oread, owrite, Nat.reduceAdd, Nat.reduceSub, Nat.reduceMul, Nat.reduceLT, Nat.reduceLeDiff, Nat.reduceEqDiff, Nat.reduceBEq, Int.reduceLE, Int.reduceLT, Int.reduceEq, Int.reduceNe, Int.reduceAdd, Int.reduceSub, Int.reduceMul, Int.reduceNeg, Int.reduceToNat, Int.reduceNatCast, reduceCtorEq, eq_self, t0]) (by simp (implicitDefEqProofs := false) only [↓reduceIte, go_sem, oread, owrite, Nat.reduceAdd, Nat.reduceSub, Nat.reduceMul, Nat.reduceLT, Nat.reduceLeDiff, Nat.reduceEqDiff, Nat.reduceBEq, Int.reduceLE, Int.reduceLT, Int.reduceEq, Int.reduceNe, Int.reduceAdd, Int.reduceSub, Int.reduceMul, Int.reduceNeg, Int.reduceToNat, Int.reduceNatCast, reduceCtorEq, eq_self]) (by simp (implicitDefEqProofs := false) only [↓reduceIte, go_sem, oread, owrite, Nat.reduceAdd, Nat.reduceSub, Nat.reduceMul, Nat.reduceLT, Nat.reduceLeDiff, Nat.reduceEqDiff, Nat.reduceBEq, Int.reduceLE, Int.reduceLT, Int.reduceEq, Int.reduceNe, Int.reduceAdd, Int.reduceSub, Int.reduceMul, Int.reduceNeg, Int.reduceToNat, Int.reduceNatCast, reduceCtorEq, eq_self, t4, hw2])
            · have e1 : ((i : Int) = 9) = False := eq_false (by omega)
              by_cases h0 : i = 0
              · have e3 : (0 < (i : Int)) = False := eq_false (by omega)
                simp (implicitDefEqProofs := false) only [↓reduceIte, go_sem, oread, owrite, Nat.reduceAdd, Nat.reduceSub, Nat.reduceMul, Nat.reduceLT, Nat.reduceLeDiff, Nat.reduceEqDiff, Nat.reduceBEq, Int.reduceLE, Int.reduceLT, Int.reduceEq, Int.reduceNe, Int.reduceAdd, Int.reduceSub, Int.reduceMul, Int.reduceNeg, Int.reduceToNat, Int.reduceNatCast, reduceCtorEq, eq_self, List.set_set, t0, t3, t4, e1, e3, hpart, e5, e6, e7, e8, hlt', hw2]
                exact nxt _ (by simp (implicitDefEqProofs := false) only [↓reduceIte, go_sem, oread, owrite, Nat.reduceAdd, Nat.reduceSub, Nat.reduceMul, Nat.reduceLT, Nat.reduceLeDiff, Nat.reduceEqDiff, Nat.reduceBEq, Int.reduceLE, Int.reduceLT, Int.reduceEq, Int.reduceNe, Int.reduceAdd, Int.reduceSub, Int.reduceMul, Int.reduceNeg, Int.reduceToNat, Int.reduceNatCast, reduceCtorEq, eq_self, t0]) (by simp (implicitDefEqProofs := false) only [↓reduceIte, go_sem, oread, owrite, Nat.reduceAdd, Nat.reduceSub, Nat.reduceMul, Nat.reduceLT, Nat.reduceLeDiff, Nat.reduceEqDiff, Nat.reduceBEq, Int.reduceLE, Int.reduceLT, Int.reduceEq, Int.reduceNe, Int.reduceAdd, Int.reduceSub, Int.reduceMul, Int.reduceNeg, Int.reduceToNat, Int.reduceNatCast, reduceCtorEq, eq_self]) (by simp (implicitDefEqProofs := false) only [↓reduceIte, go_sem, oread, owrite, Nat.reduceAdd, Nat.reduceSub, Nat.reduceMul, Nat.reduceLT, Nat.reduceLeDiff, Nat.reduceEqDiff, Nat.reduceBEq, Int.reduceLE, Int.reduceLT, Int.reduceEq, Int.reduceNe, Int.reduceAdd, Int.reduceSub, Int.reduceMul, Int.reduceNeg, Int.reduceToNat, Int.reduceNatCast, reduceCtorEq, eq_self, t4, hw2])
              · have e3 : (0 < (i : Int)) = True := eq_true (by omega)
                have e4 : ((c : Int) = 0) = False := eq_false (by omega)
                simp (implicitDefEqProofs := false) only [↓reduceIte, go_sem, oread, owrite, Nat.reduceAdd, Nat.reduceSub, Nat.reduceMul, Nat.reduceLT, Nat.reduceLeDiff, Nat.reduceEqDiff, Nat.reduceBEq, Int.reduceLE, Int.reduceLT, Int.reduceEq, Int.reduceNe, Int.reduceAdd, Int.reduceSub, Int.reduceMul, Int.reduceNeg, Int.reduceToNat, Int.reduceNatCast, reduceCtorEq, eq_self, List.set_set, t0, t3, t4, e1, e3, e4, hpart, e5, e6, e7, e8, hlt', hw2]
                exact nxt _ (by simp (implicitDefEqProofs := false) only [↓reduceIte, go_sem, oread, owrite, Nat.reduceAdd, Nat.reduceSub, Nat.reduceMul, Nat.reduceLT, Nat.reduceLeDiff, Nat.reduceEqDiff, Nat.reduceBEq, Int.reduceLE, Int.reduceLT, Int.reduceEq, Int.reduceNe, Int.reduceAdd, Int.reduceSub, Int.reduceMul, Int.reduceNeg, Int.reduceToNat, Int.reduceNatCast, reduceCtorEq, eq_self, t0]) (by simp (implicitDefEqProofs := false) only [↓reduceIte, go_sem, oread, owrite, Nat.reduceAdd, Nat.reduceSub, Nat.reduceMul, Nat.reduceLT, Nat.reduceLeDiff, Nat.reduceEqDiff, Nat.reduceBEq, Int.reduceLE, Int.reduceLT, Int.reduceEq, Int.reduceNe, Int.reduceAdd, Int.reduceSub, Int.reduceMul, Int.reduceNeg, Int.reduceToNat, Int.reduceNatCast, reduceCtorEq, eq_self]) (by simp (implicitDefEqProofs := false) only [↓reduceIte, go_sem, oread, owrite, Nat.reduceAdd, Nat.reduceSub, Nat.reduceMul, Nat.reduceLT, Nat.reduceLeDiff, Nat.reduceEqDiff, Nat.reduceBEq, Int.reduceLE, Int.reduceLT, Int.reduceEq, Int.reduceNe, Int.reduceAdd, Int.reduceSub, Int.reduceMul, Int.reduceNeg, Int.reduceToNat, Int.reduceNatCast, reduceCtorEq, eq_self, t4, hw2])
/-! ### saved -/
theorem saved_ret (H : AHeap) (a : AV) : DoesD Try.prog 54 [a] H .returning H .returning := by
  refine DoesD.of_awp (hint := fun _ => false) Try.func54 (by kernel_rfl) rfl ⟨_, rfl⟩ rfl rfl rfl rfl rfl (by rw [Try.ntmps54]; decide) rfl (by simp [Try.ntmps54]) .ret ?_
  rw [Try.ntmps54]
  simp (implicitDefEqProofs := false) only [↓reduceIte, go_sem, oread, owrite, Nat.reduceAdd, Nat.reduceSub, Nat.reduceMul, Nat.reduceLT, Nat.reduceLeDiff, Nat.reduceEqDiff, Nat.reduceBEq, Int.reduceLE, Int.reduceLT, Int.reduceEq, Int.reduceNe, Int.reduceAdd, Int.reduceSub, Int.reduceMul, Int.reduceNeg, Int.reduceToNat, Int.reduceNatCast, reduceCtorEq, eq_self]
  exact ⟨_, .refl _ _⟩
theorem saved_pan (H : AHeap) (id : Nat) (x : AV) (e : Int) (ho : H[id]? = some (.box 28 1 0 1 [x])) : DoesD Try.prog 54 [.ptr id 0 0 0] H (mPan (eV e)) (H.set id (.box 28 1 0 1 [iA e])) (mRec (eV e)) := by
  refine DoesD.of_awp (hint := fun _ => false) Try.func54 (by kernel_rfl) rfl ⟨_, rfl⟩ rfl rfl rfl rfl rfl (by rw [Try.ntmps54]; decide) rfl (by simp [Try.ntmps54]) (.pan _) ?_
  rw [Try.ntmps54]
  simp (implicitDefEqProofs := false) only [↓reduceIte, go_sem, oread, owrite, Nat.reduceAdd, Nat.reduceSub, Nat.reduceMul, Nat.reduceLT, Nat.reduceLeDiff, Nat.reduceEqDiff, Nat.reduceBEq, Int.reduceLE, Int.reduceLT, Int.reduceEq, Int.reduceNe, Int.reduceAdd, Int.reduceSub, Int.reduceMul, Int.reduceNeg, Int.reduceToNat, Int.reduceNatCast, reduceCtorEq, eq_self, ho]
  exact ⟨_, .refl _ _⟩
/-! ### Get -/
theorem numP_len : ∀ (k acc : Nat) (b : List Nat), (numP k acc b).2.length ≤ b.length
  | 0, _, b => Nat.le_refl _
  | _ + 1, _, [] => Nat.le_refl _
  | k + 1, acc, c :: b => by
    simp only [numP]
    split
    · simp
    · split
      · simp
      · exact Nat.le_trans (numP_len k _ b) (by simp)
def getP (b : List Nat) : Nat × Nat × Int := match numP 10 0 b with
  | (.ok n, r) => (n, b.length - r.length, 0)
  | (.error e, _) => (0, 0, e)
set_option maxRecDepth 10000 in
theorem get_does (b : List Nat) (hl : b.length < 1000000000000000) (hb : ∀ c ∈ b, c < 256) (H : AHeap) : Does Try.prog 31 [.d (.list false (bys b))] H (.ok (.tup [uA (getP b).1, iA (getP b).2.1, iA (getP b).2.2])) H := by
  refine Does.of_awpD (hint := fun _ => false) Try.func31 (by kernel_rfl) rfl [.tmp 2, .tmp 3, .cell 4 28] (by kernel_rfl) rfl rfl rfl rfl (by simp [Try.ntmps31]) ?_
  rw [Try.ntmps31]
  simp (implicitDefEqProofs := false) only [↓reduceIte, go_sem, oread, owrite, Nat.reduceAdd, Nat.reduceSub, Nat.reduceMul, Nat.reduceLT, Nat.reduceLeDiff, Nat.reduceEqDiff, Nat.reduceBEq, Int.reduceLE, Int.reduceLT, Int.reduceEq, Int.reduceNe, Int.reduceAdd, Int.reduceSub, Int.reduceMul, Int.reduceNeg, Int.reduceToNat, Int.reduceNatCast, reduceCtorEq, eq_self]
  have hd := number_does (H ++ [.box 28 1 0 1 [iA 0], rowB b]) (H.length + 1) b hl hb (by simp)
  have hset : ∀ x y z : AObj, (H ++ [x, y]).set (H.length + 1) z = H ++ [x, z] := fun x y z => by simp [List.set_append]
  have hset0 : ∀ x y z : AObj, (H ++ [x, y]).set H.length z = H ++ [z, y] := fun x y z => by simp [List.set_append]
  rw [hset] at hd
  have hg : getP b = match numP 10 0 b with
    | (.ok n, r) => (n, b.length - r.length, 0)
    | (.error e, _) => (0, 0, e) := rfl
  rcases hn : numP 10 0 b with ⟨_ | n, r⟩
  · rename_i e
    rw [hn] at hd hg
    rw [hg]
    refine KCall.panic hd ?_
    simp (implicitDefEqProofs := false) only [↓reduceIte, go_sem, oread, owrite, Nat.reduceAdd, Nat.reduceSub, Nat.reduceMul, Nat.reduceLT, Nat.reduceLeDiff, Nat.reduceEqDiff, Nat.reduceBEq, Int.reduceLE, Int.reduceLT, Int.reduceEq, Int.reduceNe, Int.reduceAdd, Int.reduceSub, Int.reduceMul, Int.reduceNeg, Int.reduceToNat, Int.reduceNatCast, reduceCtorEq, eq_self]
    refine ⟨_, saved_pan _ _ (iA 0) e (by simp), ?_⟩
    rw [hset0]
    refine AEndC.ret ?_
    simp (implicitDefEqProofs := false) only [↓reduceIte, go_sem, oread, owrite, Nat.reduceAdd, Nat.reduceSub, Nat.reduceMul, Nat.reduceLT, Nat.reduceLeDiff, Nat.reduceEqDiff, Nat.reduceBEq, Int.reduceLE, Int.reduceLT, Int.reduceEq, Int.reduceNe, Int.reduceAdd, Int.reduceSub, Int.reduceMul, Int.reduceNeg, Int.reduceToNat, Int.reduceNatCast, reduceCtorEq, eq_self, resAll, resAV]
  · rw [hn] at hd hg
    rw [hg]
    refine KCall.ok hd ?_
    simp (implicitDefEqProofs := false) only [↓reduceIte, go_sem, oread, owrite, Nat.reduceAdd, Nat.reduceSub, Nat.reduceMul, Nat.reduceLT, Nat.reduceLeDiff, Nat.reduceEqDiff, Nat.reduceBEq, Int.reduceLE, Int.reduceLT, Int.reduceEq, Int.reduceNe, Int.reduceAdd, Int.reduceSub, Int.reduceMul, Int.reduceNeg, Int.reduceToNat, Int.reduceNatCast, reduceCtorEq, eq_self, rowB]
    refine awp_drawK 7 K.mixed (by kernel_rfl) (by kernel_rfl) ?_
    have hw : IntKind.i64.wrap ((b.length : Int) - (r.length : Int)) = ((b.length - r.length : Nat) : Int) := by
      have := numP_len 10 0 b
      rw [hn] at this
      simp only at this
      rw [wrap64_in _ (by omega) (by omega)]; omega
    simp (implicitDefEqProofs := false) only [↓reduceIte, go_sem, oread, owrite, Nat.reduceAdd, Nat.reduceSub, Nat.reduceMul, Nat.reduceLT, Nat.reduceLeDiff, Nat.reduceEqDiff, Nat.reduceBEq, Int.reduceLE, Int.reduceLT, Int.reduceEq, Int.reduceNe, Int.reduceAdd, Int.reduceSub, Int.reduceMul, Int.reduceNeg, Int.reduceToNat, Int.reduceNatCast, reduceCtorEq, eq_self, bys_len, hw]
    refine ⟨_, saved_ret _ _, ?_⟩
    refine AEndC.ret ?_
    simp (implicitDefEqProofs := false) only [↓reduceIte, go_sem, oread, owrite, Nat.reduceAdd, Nat.reduceSub, Nat.reduceMul, Nat.reduceLT, Nat.reduceLeDiff, Nat.reduceEqDiff, Nat.reduceBEq, Int.reduceLE, Int.reduceLT, Int.reduceEq, Int.reduceNe, Int.reduceAdd, Int.reduceSub, Int.reduceMul, Int.reduceNeg, Int.reduceToNat, Int.reduceNatCast, reduceCtorEq, eq_self, resAll, resAV]
theorem getN_does (b : List Nat) (nn : Bool) (hl : b.length < 1000000000000000) (hb : ∀ c ∈ b, c < 256) (H : AHeap) : Does Try.prog 31 [.d (.list nn (bys b))] H (.ok (.tup [uA (getP b).1, iA (getP b).2.1, iA (getP b).2.2])) H := by
  cases nn
  · exact get_does b hl hb H
  · exact (get_does b hl hb H).sub (.cons (.nn _) .nil)
/-! ### Zag -/
def zagP (n : Nat) : Int := if n % 2 = 1 then -((n / 2 : Nat) : Int) - 1 else ((n / 2 : Nat) : Int)
theorem xorI_nat (k : IntKind) (a b : Nat) (ha : a < 2 ^ k.bits) (hb : b < 2 ^ k.bits) : xorI k (a : Int) (b : Int) = ((a ^^^ b : Nat) : Int) := by
  simp [xorI, BitVec.toNat_xor, BitVec.ofInt_natCast, Nat.mod_eq_of_lt ha, Nat.mod_eq_of_lt hb]
theorem xor_nat (a b : Nat) (ha : a < 18446744073709551616) (hb : b < 18446744073709551616) : xorI .i64 (a : Int) (b : Int) = ((a ^^^ b : Nat) : Int) := xorI_nat .i64 a b ha hb
theorem zag_eq (n : Nat) (h : n < 18446744073709551616) : IntKind.i64.wrap (xorI .i64 (IntKind.i64.wrap (shrI .u64 (n : Int) 1)) (IntKind.i64.wrap (0 - IntKind.i64.wrap (IntKind.u64.wrap (andI .u64 (n : Int) 1))))) = zagP n := by
  have s1 : shrI .u64 (n : Int) 1 = ((n / 2 : Nat) : Int) := shrU n 1 (by decide)
  have s2 : andI .u64 (n : Int) 1 = ((n % 2 : Nat) : Int) := by
    have := andI_nat .u64 n 1 (by simp only [IntKind.bits]; omega) (by decide)
    rw [Nat.and_one_is_mod] at this
    exact this
  rw [s1, s2, wrapU64N _ (by omega), wrap64_in (n / 2 : Nat) (by omega) (by omega), wrap64_in (n % 2 : Nat) (by omega) (by omega)]
  unfold zagP
  by_cases h1 : n % 2 = 1
  · rw [if_pos h1, h1]
    have e : xorI .i64 ((n / 2 : Nat) : Int) (IntKind.i64.wrap (0 - ((1 : Nat) : Int))) = xorI .i64 ((n / 2 : Nat) : Int) ((18446744073709551615 : Nat) : Int) := by
      have : BitVec.ofInt 64 (IntKind.i64.wrap (0 - ((1 : Nat) : Int))) = BitVec.ofInt 64 ((18446744073709551615 : Nat) : Int) := by decide
      simp only [xorI, IntKind.bits, this]
    rw [e, xor_nat _ _ (by omega) (by omega), Nat.xor_comm, Nat.xor_comm, xorAll _ (by omega)]
    simp only [IntKind.wrap, IntKind.signed, IntKind.bits]
    simp only [show ((2 : Int) ^ 64) = 18446744073709551616 from rfl, show ((2 : Int) ^ (64 - 1)) = 9223372036854775808 from rfl]
    simp
    split <;> omega
  · rw [if_neg h1, show n % 2 = 0 by omega]
    have e : IntKind.i64.wrap (0 - ((0 : Nat) : Int)) = ((0 : Nat) : Int) := by decide
    rw [e, xor_nat _ _ (by omega) (by omega), Nat.xor_zero]
    exact wrap64_in _ (by omega) (by omega)
set_option maxRecDepth 10000 in
theorem zag_does (n : Nat) (h : n < 18446744073709551616) (H : AHeap) : Does Try.prog 33 [uA n] H (.ok (iA (zagP n))) H := by
  refine Does.of_awp (hint := (fun _ => false)) Try.func33 (by kernel_rfl) rfl [2] (by kernel_rfl) (by decide) (by simp [Try.ntmps33]) ?_
  rw [Try.ntmps33]
  simp (implicitDefEqProofs := false) only [↓reduceIte, go_sem, oread, owrite, Nat.reduceAdd, Nat.reduceSub, Nat.reduceMul, Nat.reduceLT, Nat.reduceLeDiff, Nat.reduceEqDiff, Nat.reduceBEq, Int.reduceLE, Int.reduceLT, Int.reduceEq, Int.reduceNe, Int.reduceAdd, Int.reduceSub, Int.reduceMul, Int.reduceNeg, Int.reduceToNat, Int.reduceNatCast, reduceCtorEq, eq_self]
  refine AEnd.ret0 ?_
  simp (implicitDefEqProofs := false) only [↓reduceIte, go_sem, oread, owrite, Nat.reduceAdd, Nat.reduceSub, Nat.reduceMul, Nat.reduceLT, Nat.reduceLeDiff, Nat.reduceEqDiff, Nat.reduceBEq, Int.reduceLE, Int.reduceLT, Int.reduceEq, Int.reduceNe, Int.reduceAdd, Int.reduceSub, Int.reduceMul, Int.reduceNeg, Int.reduceToNat, Int.reduceNatCast, reduceCtorEq, eq_self, zag_eq n h]
end Go.Proofs.Ytcdnbefcccdaeaa

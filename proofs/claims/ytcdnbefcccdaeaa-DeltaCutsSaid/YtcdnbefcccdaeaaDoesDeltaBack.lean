/- The law DeltaBack: what it does. -/
import Derived.Test.YtcdnbefcccdaeaaDelta6
namespace Go.Proofs.Ytcdnbefcccdaeaa
open Go.Proofs.YtcdnbefcccdaeaaAw Go.RowKit
set_option linter.unusedVariables false
set_option linter.unusedSimpArgs false
def valsK (b : List Nat) (n : Int) : List Val := (ofR b n).1.getD []
theorem ofB_none (b : List Nat) (n : Nat) (h : (ofB b n).2 ≠ 0) : (ofB b n).1 = none := by
  unfold ofB at *
  repeat' split
  all_goals first | rfl | (exfalso; simp_all; done)
theorem ofR_none (b : List Nat) (n : Int) (h : (ofR b n).2 ≠ 0) : valsK b n = [] := by
  have : (ofR b n).1 = none := by
    unfold ofR at *
    by_cases h1 : n < 0 ∨ 4096 < n
    · rw [if_pos h1]
    · rw [if_neg h1] at h ⊢
      by_cases h2 : n = 0
      · rw [if_pos h2]
      · rw [if_neg h2] at h ⊢
        exact ofB_none b _ h
  unfold valsK
  rw [this]; rfl
theorem ofB_some (b : List Nat) (n : Nat) (h : (ofB b n).2 = 0) : ∃ k, ofB b n = (some k, 0) := by
  unfold ofB at *
  split at h
  · contradiction
  · split at h
    · contradiction
    · split at h
      · simp at h
      · split at h
        · contradiction
        · split at h
          · simp at h
          · rename_i h1 h2 h3 h4 h5
            exact ⟨_, by rw [if_neg h1, if_neg h2, if_neg h3, if_neg h4, if_neg h5]⟩
theorem ofR_ok (b : List Nat) (n : Int) (hb : ∀ c ∈ b, c < 256) (h : (ofR b n).2 = 0) : bytesD (valsK b n) = b ∧ ((valsK b n).length : Int) = n ∧ plainP (valsK b n) 1 = 0 ∧ ∀ v ∈ valsK b n, I64 v.i := by
  by_cases h1 : n < 0 ∨ 4096 < n
  · unfold ofR at h; rw [if_pos h1] at h; simp at h
  by_cases h2 : n = 0
  · subst h2
    unfold ofR at h
    rw [if_neg h1, if_pos rfl] at h
    have hl : ¬ 0 < b.length := by intro hl; simp [hl] at h
    have hb0 : b = [] := List.eq_nil_of_length_eq_zero (by omega)
    subst hb0
    have hk : valsK [] 0 = [] := rfl
    rw [hk]
    exact ⟨rfl, rfl, plainP_num (fun v hv => by simp at hv) (by simp), fun v hv => by simp at hv⟩
  · have e : ofR b n = ofB b n.toNat := by unfold ofR; rw [if_neg h1, if_neg h2]
    rw [e] at h
    obtain ⟨k, hk⟩ := ofB_some b _ h
    rw [hk] at e
    obtain ⟨g1, g2, g3, g4, g5, g6⟩ := bytes_of b n k hb e
    have hv : valsK b n = k := by unfold valsK; rw [e]; rfl
    rw [hv]
    exact ⟨g1, g2, plainP_num (fun v hv => ⟨_, g5 v hv⟩) (by omega), g6⟩
theorem ofR_bytes (l : List Val) (hm : l.length ≤ 4096) (hn : ∀ v ∈ l, v = num10 v.i) (hok : ∀ v ∈ l, I64 v.i) : (ofR (bytesD l) l.length).2 = 0 ∧ valsK (bytesD l) l.length = l := by
  by_cases h : l = []
  · subst h; exact ⟨rfl, rfl⟩
  · have := of_bytes l h hm hn hok
    unfold valsK
    rw [this]
    exact ⟨rfl, rfl⟩
theorem ofL_does (b : List Nat) (n : Int) (nn : Bool) (hl : b.length ≤ 140737488351232) (hb : ∀ c ∈ b, c < 256) (H : AHeap) :
    Does Try.prog 15 [.d (.list nn (bys b)), iA n] H (.ok (.tup [.d (.list false ((valsK b n).map Val.enc)), iA (ofR b n).2])) H := by
  refine (of_does b n nn hl hb H).subT (.cons ?_ (.cons (.refl _) .nil))
  unfold valsK valsA
  cases (ofR b n).1 with
  | none => exact .nil
  | some l => exact .refl _
theorem dbytesL_does (l : List Val) (hp : plainP l 1 = 0) (hok : ∀ v ∈ l, I64 v.i) (H : AHeap) : Does Try.prog 9 [.d (.list false (l.map Val.enc))] H (.ok (.tup [.d (.list false (bys (bytesD l))), iA 0])) H := by
  have h := dbytes_does l hok false H (by have := plainP_len hp; omega)
  unfold deltaR at h
  by_cases hl : l = []
  · subst hl
    rw [if_neg (by simp), hp] at h
    exact h.subT (.cons .nil (.cons (.refl _) .nil))
  · rw [if_pos ⟨hp, hl⟩] at h
    exact h
theorem bytesD_byte2 (l : List Val) (hok : ∀ v ∈ l, I64 v.i) : ∀ c ∈ bytesD l, c < 256 := by
  cases l with
  | nil => intro c hc; simp [bytesD] at hc
  | cons v r =>
    have hv := hok v (by simp)
    have hz := zigP_lt hv.1 hv.2
    have hw := widthP_le (stepsP_lt (v :: r))
    rw [bytesD_cons]
    intro c hc
    rcases List.mem_append.1 hc with h | h
    · exact putP_byte 10 _ (by omega) c h
    · rcases List.mem_append.1 h with h | h
      · exact putP_byte 10 _ (by omega) c h
      · obtain ⟨i, _, rfl⟩ := List.mem_map.1 h
        exact byteAt_lt _ _
theorem bytesD_len (l : List Val) (hl : l.length ≤ 4096) (hok : ∀ v ∈ l, I64 v.i) : (bytesD l).length ≤ 100000 := by
  cases l with
  | nil => simp [bytesD]
  | cons v r =>
    have hv := hok v (by simp)
    have hz := zigP_lt hv.1 hv.2
    have hw := widthP_le (stepsP_lt (v :: r))
    have l1 := putP_len 10 (zigP v.i) (by omega)
    have l2 := putP_len 10 (widthP (stepsP (v :: r))) (by omega)
    have h3 : (stepsP (v :: r)).length * widthP (stepsP (v :: r)) ≤ 4096 * 64 := Nat.mul_le_mul (by rw [stepsP_len]; omega) hw
    rw [bytesD_cons, List.length_append, List.length_append, packP, packB_len, bitsL_len]
    omega
set_option maxRecDepth 10000 in
set_option maxHeartbeats 1000000 in
theorem deltaBack_walk (l : List Int) (b : List Nat) (n : Int) (hl : l.length ≤ 140737488355328) (hi : ∀ n ∈ l, I64 n) (hbl : b.length ≤ 140737488351232) (hb : ∀ c ∈ b, c < 256) (hn : I64 n) (H : AHeap) :
    Does Try.prog 6 [.d (.list false (ints l)), .d (.list false (bys b)), .d (.v (.int .i64 n))] H (.ok (bA true)) H := by
  refine Does.of_awp (hint := (fun t => t == 1000009)) Try.func6 (by kernel_rfl) rfl [6] (by kernel_rfl) (by decide) (by simp [Try.ntmps6]) ?_
  rw [Try.ntmps6]
  simp (implicitDefEqProofs := false) only [↓reduceIte, go_sem, oread, owrite, Nat.reduceAdd, Nat.reduceSub, Nat.reduceMul, Nat.reduceLT, Nat.reduceLeDiff, Nat.reduceEqDiff, Nat.reduceBEq, Int.reduceLE, Int.reduceLT, Int.reduceEq, Int.reduceNe, Int.reduceAdd, Int.reduceSub, Int.reduceMul, Int.reduceNeg, Int.reduceToNat, Int.reduceNatCast, reduceCtorEq, eq_self]
  refine KCall.ok (shown10_does _) ?_
  by_cases h1 : 1000 < l.length
  · simp (implicitDefEqProofs := false) only [↓reduceIte, go_sem, oread, owrite, Nat.reduceAdd, Nat.reduceSub, Nat.reduceMul, Nat.reduceLT, Nat.reduceLeDiff, Nat.reduceEqDiff, Nat.reduceBEq, Int.reduceLE, Int.reduceLT, Int.reduceEq, Int.reduceNe, Int.reduceAdd, Int.reduceSub, Int.reduceMul, Int.reduceNeg, Int.reduceToNat, Int.reduceNatCast, reduceCtorEq, eq_self, ints_len, show ((1000 : Int) < (l.length : Int)) = True from eq_true (by omega)]
    refine AEnd.ret0 ?_
    simp (implicitDefEqProofs := false) only [↓reduceIte, go_sem, oread, owrite, Nat.reduceAdd, Nat.reduceSub, Nat.reduceMul, Nat.reduceLT, Nat.reduceLeDiff, Nat.reduceEqDiff, Nat.reduceBEq, Int.reduceLE, Int.reduceLT, Int.reduceEq, Int.reduceNe, Int.reduceAdd, Int.reduceSub, Int.reduceMul, Int.reduceNeg, Int.reduceToNat, Int.reduceNatCast, reduceCtorEq, eq_self]
  · simp (implicitDefEqProofs := false) only [↓reduceIte, go_sem, oread, owrite, Nat.reduceAdd, Nat.reduceSub, Nat.reduceMul, Nat.reduceLT, Nat.reduceLeDiff, Nat.reduceEqDiff, Nat.reduceBEq, Int.reduceLE, Int.reduceLT, Int.reduceEq, Int.reduceNe, Int.reduceAdd, Int.reduceSub, Int.reduceMul, Int.reduceNeg, Int.reduceToNat, Int.reduceNatCast, reduceCtorEq, eq_self, ints_len, show ((1000 : Int) < (l.length : Int)) = False from eq_false (by omega)]
    refine awp_for3 (fun k s H' => H' = H ++ [.arr 26 3 k (((l.map num10).take k).map Val.enc)] ∧ s 0 = .d (.list false (ints l)) ∧ s 1 = .d (.list false (bys b)) ∧ s 2 = .d (.v (.int .i64 n)) ∧ s 7 = bA true ∧ s 8 = .sl H.length k 0 k ∧ s 9 = iA k) l.length (by omega) (Weak.virt1 _ _ 8 26 3 (by decide) (by simp (implicitDefEqProofs := false) only [↓reduceIte, go_sem, oread, owrite, Nat.reduceAdd, Nat.reduceSub, Nat.reduceMul, Nat.reduceLT, Nat.reduceLeDiff, Nat.reduceEqDiff, Nat.reduceBEq, Int.reduceLE, Int.reduceLT, Int.reduceEq, Int.reduceNe, Int.reduceAdd, Int.reduceSub, Int.reduceMul, Int.reduceNeg, Int.reduceToNat, Int.reduceNatCast, reduceCtorEq, eq_self]) _) ?_ ?_ ?_
    · refine ⟨by simp, ?_⟩
      simp (implicitDefEqProofs := false) only [↓reduceIte, go_sem, oread, owrite, Nat.reduceAdd, Nat.reduceSub, Nat.reduceMul, Nat.reduceLT, Nat.reduceLeDiff, Nat.reduceEqDiff, Nat.reduceBEq, Int.reduceLE, Int.reduceLT, Int.reduceEq, Int.reduceNe, Int.reduceAdd, Int.reduceSub, Int.reduceMul, Int.reduceNeg, Int.reduceToNat, Int.reduceNatCast, reduceCtorEq, eq_self]
    · rintro k s H' hk hw ⟨rfl, t0, t1, t2, t7, t8, t9⟩
      have hx := ints_get l k hk
      have e1 : (l.map num10).take (k + 1) = (l.map num10).take k ++ [num10 l[k]] := by rw [← List.map_take, List.take_succ_eq_append_getElem hk, List.map_append, List.map_take]; rfl
      have e5 : ((l.map num10).take k).length = k := by simp; omega
      generalize l[k] = x at hx e1
      rw [e1]
      generalize (l.map num10).take k = A at *
      have q1 : A.map Val.enc ++ [(num10 x).enc] = (A ++ [num10 x]).map Val.enc := by simp
      simp only [Val.enc, num10, noS] at q1
      simp (implicitDefEqProofs := false) only [↓reduceIte, go_sem, oread, owrite, Nat.reduceAdd, Nat.reduceSub, Nat.reduceMul, Nat.reduceLT, Nat.reduceLeDiff, Nat.reduceEqDiff, Nat.reduceBEq, Int.reduceLE, Int.reduceLT, Int.reduceEq, Int.reduceNe, Int.reduceAdd, Int.reduceSub, Int.reduceMul, Int.reduceNeg, Int.reduceToNat, Int.reduceNatCast, reduceCtorEq, eq_self, t0, t8, t9, hk, ints_len, hx, e5]
      refine ⟨by omega, by omega, Rnd.same ⟨?_, ?_⟩⟩
      · simp (implicitDefEqProofs := false) only [↓reduceIte, go_sem, oread, owrite, Nat.reduceAdd, Nat.reduceSub, Nat.reduceMul, Nat.reduceLT, Nat.reduceLeDiff, Nat.reduceEqDiff, Nat.reduceBEq, Int.reduceLE, Int.reduceLT, Int.reduceEq, Int.reduceNe, Int.reduceAdd, Int.reduceSub, Int.reduceMul, Int.reduceNeg, Int.reduceToNat, Int.reduceNatCast, reduceCtorEq, eq_self, q1, num10, noS]
      · simp (implicitDefEqProofs := false) only [↓reduceIte, go_sem, oread, owrite, Nat.reduceAdd, Nat.reduceSub, Nat.reduceMul, Nat.reduceLT, Nat.reduceLeDiff, Nat.reduceEqDiff, Nat.reduceBEq, Int.reduceLE, Int.reduceLT, Int.reduceEq, Int.reduceNe, Int.reduceAdd, Int.reduceSub, Int.reduceMul, Int.reduceNeg, Int.reduceToNat, Int.reduceNatCast, reduceCtorEq, eq_self, t0, t1, t2, t7, hw]
    · rintro s H' ⟨rfl, t0, t1, t2, t7, t8, t9⟩
      have m1 : (l.map num10).take l.length = l.map num10 := List.take_of_length_le (by simp)
      have hok : ∀ v ∈ l.map num10, I64 v.i := fun v hv => by obtain ⟨x, hx, rfl⟩ := List.mem_map.1 hv; exact hi x hx
      have hnum : ∀ v ∈ l.map num10, v = num10 v.i := fun v hv => by obtain ⟨x, _, rfl⟩ := List.mem_map.1 hv; rfl
      have hml : (l.map num10).length = l.length := by simp
      have hpl : plainP (l.map num10) 1 = 0 := plainP_num (fun v hv => ⟨_, hnum v hv⟩) (by omega)
      have d1 := dbytesL_does (l.map num10) hpl hok H
      have hx1 := ofR_bytes (l.map num10) (by omega) hnum hok
      have d2 := ofL_does (bytesD (l.map num10)) (l.map num10).length false (by have := bytesD_len (l.map num10) (by omega) hok; omega) (bytesD_byte2 _ hok) H
      rw [hx1.1, hx1.2] at d2
      have d3 := ofL_does b n false hbl hb H
      rw [hml] at d2
      have d4 := same05_does (l.map num10) (l.map num10) false false H (by omega)
      simp (implicitDefEqProofs := false) only [↓reduceIte, go_sem, oread, owrite, Nat.reduceAdd, Nat.reduceSub, Nat.reduceMul, Nat.reduceLT, Nat.reduceLeDiff, Nat.reduceEqDiff, Nat.reduceBEq, Int.reduceLE, Int.reduceLT, Int.reduceEq, Int.reduceNe, Int.reduceAdd, Int.reduceSub, Int.reduceMul, Int.reduceNeg, Int.reduceToNat, Int.reduceNatCast, reduceCtorEq, eq_self, t0, t9, ints_len]
      refine ⟨_, _, Weak.drop H _ _, ?_⟩
      simp (implicitDefEqProofs := false) only [↓reduceIte, go_sem, oread, owrite, Nat.reduceAdd, Nat.reduceSub, Nat.reduceMul, Nat.reduceLT, Nat.reduceLeDiff, Nat.reduceEqDiff, Nat.reduceBEq, Int.reduceLE, Int.reduceLT, Int.reduceEq, Int.reduceNe, Int.reduceAdd, Int.reduceSub, Int.reduceMul, Int.reduceNeg, Int.reduceToNat, Int.reduceNatCast, reduceCtorEq, eq_self, t8, take_len, m1, hml]
      refine KCall.ok d1 ?_
      simp (implicitDefEqProofs := false) only [↓reduceIte, go_sem, oread, owrite, Nat.reduceAdd, Nat.reduceSub, Nat.reduceMul, Nat.reduceLT, Nat.reduceLeDiff, Nat.reduceEqDiff, Nat.reduceBEq, Int.reduceLE, Int.reduceLT, Int.reduceEq, Int.reduceNe, Int.reduceAdd, Int.reduceSub, Int.reduceMul, Int.reduceNeg, Int.reduceToNat, Int.reduceNatCast, reduceCtorEq, eq_self, t0, ints_len]
      refine KCall.ok d2 ?_
      simp (implicitDefEqProofs := false) only [↓reduceIte, go_sem, oread, owrite, Nat.reduceAdd, Nat.reduceSub, Nat.reduceMul, Nat.reduceLT, Nat.reduceLeDiff, Nat.reduceEqDiff, Nat.reduceBEq, Int.reduceLE, Int.reduceLT, Int.reduceEq, Int.reduceNe, Int.reduceAdd, Int.reduceSub, Int.reduceMul, Int.reduceNeg, Int.reduceToNat, Int.reduceNatCast, reduceCtorEq, eq_self, t8, take_len, m1, hml]
      refine KCall.ok d4 ?_
      simp (implicitDefEqProofs := false) only [↓reduceIte, go_sem, oread, owrite, Nat.reduceAdd, Nat.reduceSub, Nat.reduceMul, Nat.reduceLT, Nat.reduceLeDiff, Nat.reduceEqDiff, Nat.reduceBEq, Int.reduceLE, Int.reduceLT, Int.reduceEq, Int.reduceNe, Int.reduceAdd, Int.reduceSub, Int.reduceMul, Int.reduceNeg, Int.reduceToNat, Int.reduceNatCast, reduceCtorEq, eq_self, t1, t2, decide_true]
      refine KCall.ok d3 ?_
      by_cases he : (ofR b n).2 = 0
      · obtain ⟨g1, g2, g3, g4⟩ := ofR_ok b n hb he
        have d5 := dbytesL_does (valsK b n) g3 g4 H
        rw [g1] at d5
        simp (implicitDefEqProofs := false) only [↓reduceIte, go_sem, oread, owrite, Nat.reduceAdd, Nat.reduceSub, Nat.reduceMul, Nat.reduceLT, Nat.reduceLeDiff, Nat.reduceEqDiff, Nat.reduceBEq, Int.reduceLE, Int.reduceLT, Int.reduceEq, Int.reduceNe, Int.reduceAdd, Int.reduceSub, Int.reduceMul, Int.reduceNeg, Int.reduceToNat, Int.reduceNatCast, reduceCtorEq, eq_self, he]
        refine KCall.ok d5 ?_
        have v3 : ((pushAll (b.map fun (n : Nat) => (n : Int))).toList == (pushAll (b.map fun (n : Nat) => (n : Int))).toList) = true := by simp
        simp (implicitDefEqProofs := false) only [↓reduceIte, go_sem, oread, owrite, Nat.reduceAdd, Nat.reduceSub, Nat.reduceMul, Nat.reduceLT, Nat.reduceLeDiff, Nat.reduceEqDiff, Nat.reduceBEq, Int.reduceLE, Int.reduceLT, Int.reduceEq, Int.reduceNe, Int.reduceAdd, Int.reduceSub, Int.reduceMul, Int.reduceNeg, Int.reduceToNat, Int.reduceNatCast, reduceCtorEq, eq_self, t1, t2, t7, asBytes_bys, v3, List.length_map, g2]
        refine AEnd.ret0 ?_
        simp (implicitDefEqProofs := false) only [↓reduceIte, go_sem, oread, owrite, Nat.reduceAdd, Nat.reduceSub, Nat.reduceMul, Nat.reduceLT, Nat.reduceLeDiff, Nat.reduceEqDiff, Nat.reduceBEq, Int.reduceLE, Int.reduceLT, Int.reduceEq, Int.reduceNe, Int.reduceAdd, Int.reduceSub, Int.reduceMul, Int.reduceNeg, Int.reduceToNat, Int.reduceNatCast, reduceCtorEq, eq_self]
      · have hk := ofR_none b n he
        simp (implicitDefEqProofs := false) only [↓reduceIte, go_sem, oread, owrite, Nat.reduceAdd, Nat.reduceSub, Nat.reduceMul, Nat.reduceLT, Nat.reduceLeDiff, Nat.reduceEqDiff, Nat.reduceBEq, Int.reduceLE, Int.reduceLT, Int.reduceEq, Int.reduceNe, Int.reduceAdd, Int.reduceSub, Int.reduceMul, Int.reduceNeg, Int.reduceToNat, Int.reduceNatCast, reduceCtorEq, eq_self, he, t7, hk]
        refine AEnd.ret0 ?_
        simp (implicitDefEqProofs := false) only [↓reduceIte, go_sem, oread, owrite, Nat.reduceAdd, Nat.reduceSub, Nat.reduceMul, Nat.reduceLT, Nat.reduceLeDiff, Nat.reduceEqDiff, Nat.reduceBEq, Int.reduceLE, Int.reduceLT, Int.reduceEq, Int.reduceNe, Int.reduceAdd, Int.reduceSub, Int.reduceMul, Int.reduceNeg, Int.reduceToNat, Int.reduceNatCast, reduceCtorEq, eq_self]
theorem argIntsB {x : AV} (h : ArgOk Try.prog 22 x) : ∃ l : List Int, x = .d (.list false (ints l)) ∧ l.length ≤ 17592186044416 * 8 ∧ ∀ n ∈ l, I64 n := by
  obtain ⟨d, rfl, hf⟩ := arg_one h K.agB22 (sh := .slice 8 [.int .i64]) (by kernel_rfl)
  obtain ⟨l, rfl, h1, h2⟩ := ints_inv hf
  exact ⟨l, rfl, by omega, h2⟩
theorem argIntB {x : AV} (h : ArgOk Try.prog 3 x) : ∃ n : Int, x = .d (.v (.int .i64 n)) ∧ I64 n := by
  obtain ⟨d, rfl, hf⟩ := arg_one h K.agB3 (sh := .int .i64) (by kernel_rfl)
  obtain ⟨n, rfl, hn⟩ := Fits.i64_inv hf
  exact ⟨n, rfl, hn⟩
theorem argBytes {x : AV} (h : ArgOk Try.prog 27 x) : ∃ b : List Nat, x = .d (.list false (bys b)) ∧ b.length ≤ 140737488351232 ∧ ∀ c ∈ b, c < 256 := by
  obtain ⟨d, rfl, hf⟩ := arg_one h K.agB27 (sh := .slice 1 [.int .u8]) (by kernel_rfl)
  obtain ⟨l, rfl, h1, h2⟩ := Fits.slice_inv hf
  obtain ⟨la, rfl, h3⟩ := map_inv (enc := fun n : Nat => [.v (.int .u8 (n : Int))]) (p := fun n => n < 256) fun e he => by
    obtain ⟨x, xs, rfl, hx, h⟩ := FitsL.cons_inv (h2 e he)
    cases FitsL.nil_inv h
    obtain ⟨n, rfl, hn⟩ := Fits.int_inv hx
    have hn : IntKind.u8.min ≤ n ∧ n ≤ IntKind.u8.max := by simpa [Lit.wf] using hn
    have h0 : IntKind.u8.min = 0 := by decide
    have h1 : IntKind.u8.max = 255 := by decide
    obtain ⟨m, rfl⟩ := Int.eq_ofNat_of_zero_le (show 0 ≤ n by omega)
    exact ⟨m, rfl, by omega⟩
  exact ⟨la, rfl, by simpa using h1, h3⟩
theorem deltaBack_does (x0 : AV) (h0 : ArgOk Try.prog 22 x0) (x1 : AV) (h1 : ArgOk Try.prog 27 x1) (x2 : AV) (h2 : ArgOk Try.prog 3 x2) : Does Try.prog 6 [x0, x1, x2] [] (.ok (.d (.v (.bool true)))) [] := by
  obtain ⟨l, rfl, hl, hi⟩ := argIntsB h0
  obtain ⟨b, rfl, hbl, hb⟩ := argBytes h1
  obtain ⟨n, rfl, hn⟩ := argIntB h2
  exact deltaBack_walk l b n (by omega) hi hbl hb hn []
end Go.Proofs.Ytcdnbefcccdaeaa

/- dict.Codes, the reference's place and Codes: what they do. -/
import Derived.Test.YtkapgooedfompaaDict1
namespace Go.Proofs.Ytkapgooedfompaa
open Go.Proofs.YtkapgooedfompaaAw Go.RowKit
set_option linter.unusedVariables false
set_option linter.unusedSimpArgs false
def placeP (words : List Val) (v : Val) : Int := idxP (fun w => decide (cmpV w v = 0)) words
theorem placeP_rng (words : List Val) (v : Val) : -1 ≤ placeP words v ∧ placeP words v < words.length ∨ words = [] ∧ placeP words v = -1 := by
  unfold placeP idxP
  split
  · rename_i h
    obtain ⟨x, hx, hp⟩ := List.any_eq_true.1 h
    have : words.findIdx (fun w => decide (cmpV w v = 0)) < words.length := List.findIdx_lt_length_of_exists ⟨x, hx, hp⟩
    left; omega
  · cases words with
    | nil => exact .inr ⟨rfl, rfl⟩
    | cons a l => left; simp; omega
/-- The codes, or none. -/
def codesOk (words l : List Val) : Bool := l.all fun v => decide (0 ≤ placeP words v)
def codesP (words l : List Val) : List Nat := if codesOk words l then l.map fun v => (placeP words v).toNat else []
def codesE (words l : List Val) : Int := if codesOk words l then 0 else 6
def codesR (words l : List Val) : AV := .tup [.d (.list false (us (codesP words l))), iA (codesE words l)]
theorem codes_bad {words l : List Val} {k : Nat} (hk : k < l.length) (h : placeP words l[k] < 0) : codesOk words l = false := by
  rw [Bool.eq_false_iff]
  intro g
  unfold codesOk at g
  rw [List.all_eq_true] at g
  have := g _ (List.getElem_mem hk)
  simp at this
  omega
theorem codes_good {words l : List Val} (h : ∀ i (hi : i < l.length), 0 ≤ placeP words l[i]) : codesOk words l = true := by
  unfold codesOk
  rw [List.all_eq_true]
  intro v hv
  obtain ⟨i, hi, rfl⟩ := List.mem_iff_getElem.1 hv
  simpa using h i hi
def vbox (v : Val) : AObj := .box 24 3 0 1 [iA v.kind, iA v.i, sA v.s]
set_option maxRecDepth 10000 in
theorem codes1_does (w v : Val) (id : Nat) (H : AHeap) (hb : H[id]? = some (vbox v)) : Does Try.prog 21 [w.av, .ptr id 0 0 0] H (.ok (bA (decide (cmpV w v = 0)))) H := by
  have hlt : id < H.length := (List.getElem?_eq_some_iff.1 hb).1
  unfold vbox at hb
  refine Does.of_awp (hint := (fun _ => false)) Try.func21 (by kernel_rfl) rfl [3] (by kernel_rfl) (by decide) (by simp [Try.ntmps21]) ?_
  rw [Try.ntmps21]
  simp (implicitDefEqProofs := false) only [↓reduceIte, go_sem, oread, owrite, Nat.reduceAdd, Nat.reduceSub, Nat.reduceMul, Nat.reduceLT, Nat.reduceLeDiff, Nat.reduceEqDiff, Nat.reduceBEq, Int.reduceLE, Int.reduceLT, Int.reduceEq, Int.reduceNe, Int.reduceAdd, Int.reduceSub, Int.reduceMul, Int.reduceNeg, Int.reduceToNat, Int.reduceNatCast, reduceCtorEq, eq_self, hb, List.getElem?_append_left hlt]
  refine KCall.ok (vcmp_does w v _) ?_
  simp (implicitDefEqProofs := false) only [↓reduceIte, go_sem, oread, owrite, Nat.reduceAdd, Nat.reduceSub, Nat.reduceMul, Nat.reduceLT, Nat.reduceLeDiff, Nat.reduceEqDiff, Nat.reduceBEq, Int.reduceLE, Int.reduceLT, Int.reduceEq, Int.reduceNe, Int.reduceAdd, Int.reduceSub, Int.reduceMul, Int.reduceNeg, Int.reduceToNat, Int.reduceNatCast, reduceCtorEq, eq_self]
  refine AEnd.ret ?_
  simp (implicitDefEqProofs := false) only [↓reduceIte, go_sem, oread, owrite, Nat.reduceAdd, Nat.reduceSub, Nat.reduceMul, Nat.reduceLT, Nat.reduceLeDiff, Nat.reduceEqDiff, Nat.reduceBEq, Int.reduceLE, Int.reduceLT, Int.reduceEq, Int.reduceNe, Int.reduceAdd, Int.reduceSub, Int.reduceMul, Int.reduceNeg, Int.reduceToNat, Int.reduceNatCast, reduceCtorEq, eq_self]
set_option maxRecDepth 10000 in
set_option maxHeartbeats 1000000 in
theorem codes_does' (words l : List Val) (n1 n2 : Bool) (H : AHeap) (hw : words.length ≤ 1000000000000) (hl : l.length ≤ 1000000000000) : Does Try.prog 10 [.d (.list n1 (words.map Val.enc)), .d (.list n2 (l.map Val.enc))] H
    (.ok (if codesOk words l then .tup [.d (.list false (us (l.map fun v => (placeP words v).toNat))), iA 0] else .tup [.d (.v (.slice none 0 0)), iA 6])) H := by
  refine Does.of_awp (hint := (fun _ => false)) Try.func10 (by kernel_rfl) rfl [4, 5] (by kernel_rfl) (by decide) (by simp [Try.ntmps10]) ?_
  rw [Try.ntmps10]
  simp (implicitDefEqProofs := false) only [↓reduceIte, go_sem, oread, owrite, Nat.reduceAdd, Nat.reduceSub, Nat.reduceMul, Nat.reduceLT, Nat.reduceLeDiff, Nat.reduceEqDiff, Nat.reduceBEq, Int.reduceLE, Int.reduceLT, Int.reduceEq, Int.reduceNe, Int.reduceAdd, Int.reduceSub, Int.reduceMul, Int.reduceNeg, Int.reduceToNat, Int.reduceNatCast, reduceCtorEq, eq_self]
  refine awp_for (fun k s H' => H' = H ++ [.arr 37 1 k (us ((l.take k).map fun v => (placeP words v).toNat))] ∧ (∀ i (hi : i < k) (hl : i < l.length), 0 ≤ placeP words l[i]) ∧ s 0 = .d (.list n1 (words.map Val.enc)) ∧ s 6 = .sl H.length k 0 k ∧ s 10 = .d (.list n2 (l.map Val.enc)) ∧ s 11 = iA l.length ∧ s 12 = iA k) l.length (by omega) (Weak.virt1 _ _ 6 37 1 (by decide) (by simp (implicitDefEqProofs := false) only [↓reduceIte, go_sem, oread, owrite, Nat.reduceAdd, Nat.reduceSub, Nat.reduceMul, Nat.reduceLT, Nat.reduceLeDiff, Nat.reduceEqDiff, Nat.reduceBEq, Int.reduceLE, Int.reduceLT, Int.reduceEq, Int.reduceNe, Int.reduceAdd, Int.reduceSub, Int.reduceMul, Int.reduceNeg, Int.reduceToNat, Int.reduceNatCast, reduceCtorEq, eq_self]) _) ?_ ?_ ?_
  · refine ⟨rfl, fun i hi => by omega, ?_⟩
    simp (implicitDefEqProofs := false) only [↓reduceIte, go_sem, oread, owrite, Nat.reduceAdd, Nat.reduceSub, Nat.reduceMul, Nat.reduceLT, Nat.reduceLeDiff, Nat.reduceEqDiff, Nat.reduceBEq, Int.reduceLE, Int.reduceLT, Int.reduceEq, Int.reduceNe, Int.reduceAdd, Int.reduceSub, Int.reduceMul, Int.reduceNeg, Int.reduceToNat, Int.reduceNatCast, reduceCtorEq, eq_self]
  · rintro k s H' hk hw' ⟨rfl, hp, t0, t6, t10, t11, t12⟩
    have hx := List.getElem?_eq_getElem hk
    have e1 : (l.take (k + 1)).map (fun v => (placeP words v).toNat) = (l.take k).map (fun v => (placeP words v).toNat) ++ [(placeP words l[k]).toNat] := by rw [List.take_succ_eq_append_getElem hk, List.map_append]; rfl
    have hbad := codes_bad (words := words) hk
    have hrng := placeP_rng words l[k]
    have hpp : 0 ≤ placeP words l[k] → ∀ i (hi : i < k + 1) (hl : i < l.length), 0 ≤ placeP words l[i] := fun h0 i hi hl' => by
      rcases Nat.lt_or_ge i k with h | h
      · exact hp i h hl'
      · obtain rfl : i = k := by omega
        exact h0
    have hlen : ((l.take k).map fun v => (placeP words v).toNat).length = k := by simp; omega
    generalize l[k] = x at hx e1 hbad hrng hpp
    generalize (l.take k).map (fun v => (placeP words v).toNat) = L at e1 hlen ⊢
    simp (implicitDefEqProofs := false) only [↓reduceIte, go_sem, oread, owrite, Nat.reduceAdd, Nat.reduceSub, Nat.reduceMul, Nat.reduceLT, Nat.reduceLeDiff, Nat.reduceEqDiff, Nat.reduceBEq, Int.reduceLE, Int.reduceLT, Int.reduceEq, Int.reduceNe, Int.reduceAdd, Int.reduceSub, Int.reduceMul, Int.reduceNeg, Int.reduceToNat, Int.reduceNatCast, reduceCtorEq, eq_self, t10, t11, t12, hk, hx, Val.enc]
    simp (implicitDefEqProofs := false) only [↓reduceIte, go_sem, oread, owrite, Nat.reduceAdd, Nat.reduceSub, Nat.reduceMul, Nat.reduceLT, Nat.reduceLeDiff, Nat.reduceEqDiff, Nat.reduceBEq, Int.reduceLE, Int.reduceLT, Int.reduceEq, Int.reduceNe, Int.reduceAdd, Int.reduceSub, Int.reduceMul, Int.reduceNeg, Int.reduceToNat, Int.reduceNatCast, reduceCtorEq, eq_self, t0]
    refine KCall.ok (indexV_does words (fun w => decide (cmpV w x = 0)) 21 [.ptr (H.length + 1) 0 0 0] n1 _ (by omega) fun w _ => codes1_does w x _ _ (by simp [vbox])) ?_
    have hpl : idxP (fun w => decide (cmpV w x = 0)) words = placeP words x := rfl
    rw [hpl]
    generalize hq : placeP words x = q at *
    by_cases hq0 : q < 0
    · simp (implicitDefEqProofs := false) only [↓reduceIte, go_sem, oread, owrite, Nat.reduceAdd, Nat.reduceSub, Nat.reduceMul, Nat.reduceLT, Nat.reduceLeDiff, Nat.reduceEqDiff, Nat.reduceBEq, Int.reduceLE, Int.reduceLT, Int.reduceEq, Int.reduceNe, Int.reduceAdd, Int.reduceSub, Int.reduceMul, Int.reduceNeg, Int.reduceToNat, Int.reduceNatCast, reduceCtorEq, eq_self, hq0]
      refine AEnd.ret ?_
      rw [hbad hq0]
      simp (implicitDefEqProofs := false) only [↓reduceIte, go_sem, oread, owrite, Nat.reduceAdd, Nat.reduceSub, Nat.reduceMul, Nat.reduceLT, Nat.reduceLeDiff, Nat.reduceEqDiff, Nat.reduceBEq, Int.reduceLE, Int.reduceLT, Int.reduceEq, Int.reduceNe, Int.reduceAdd, Int.reduceSub, Int.reduceMul, Int.reduceNeg, Int.reduceToNat, Int.reduceNatCast, reduceCtorEq, eq_self, Bool.false_eq_true]
    · obtain ⟨n, rfl⟩ : ∃ n : Nat, q = (n : Int) := ⟨q.toNat, by omega⟩
      have hnw : n < 1000000000000 := by omega
      have hu : IntKind.u64.wrap (n : Int) = (n : Int) := wrapu64_in _ (by omega) (by omega)
      simp (implicitDefEqProofs := false) only [↓reduceIte, go_sem, oread, owrite, Nat.reduceAdd, Nat.reduceSub, Nat.reduceMul, Nat.reduceLT, Nat.reduceLeDiff, Nat.reduceEqDiff, Nat.reduceBEq, Int.reduceLE, Int.reduceLT, Int.reduceEq, Int.reduceNe, Int.reduceAdd, Int.reduceSub, Int.reduceMul, Int.reduceNeg, Int.reduceToNat, Int.reduceNatCast, reduceCtorEq, eq_self, t6, t12, hq0, hu, us_len, hlen, us_snoc]
      refine ⟨by omega, by omega, ?_⟩
      refine Rnd.cut [.arr 37 1 (k + 1) (us (L ++ [n]))] [vbox x] 1 rfl rfl (by simp (implicitDefEqProofs := false) only [↓reduceIte, go_sem, oread, owrite, Nat.reduceAdd, Nat.reduceSub, Nat.reduceMul, Nat.reduceLT, Nat.reduceLeDiff, Nat.reduceEqDiff, Nat.reduceBEq, Int.reduceLE, Int.reduceLT, Int.reduceEq, Int.reduceNe, Int.reduceAdd, Int.reduceSub, Int.reduceMul, Int.reduceNeg, Int.reduceToNat, Int.reduceNatCast, reduceCtorEq, eq_self]) ?_
      refine ⟨by rw [e1]; simp, hpp (by omega), ?_⟩
      simp (implicitDefEqProofs := false) only [↓reduceIte, go_sem, oread, owrite, Nat.reduceAdd, Nat.reduceSub, Nat.reduceMul, Nat.reduceLT, Nat.reduceLeDiff, Nat.reduceEqDiff, Nat.reduceBEq, Int.reduceLE, Int.reduceLT, Int.reduceEq, Int.reduceNe, Int.reduceAdd, Int.reduceSub, Int.reduceMul, Int.reduceNeg, Int.reduceToNat, Int.reduceNatCast, reduceCtorEq, eq_self, t0, t10, t11, hw', Nat.lt_succ_self, Nat.lt_add_one]
  · rintro s H' ⟨rfl, hp, t0, t6, t10, t11, t12⟩
    have hg := codes_good (words := words) fun i hi => hp i hi hi
    rw [List.take_length, hg]
    simp (implicitDefEqProofs := false) only [↓reduceIte, go_sem, oread, owrite, Nat.reduceAdd, Nat.reduceSub, Nat.reduceMul, Nat.reduceLT, Nat.reduceLeDiff, Nat.reduceEqDiff, Nat.reduceBEq, Int.reduceLE, Int.reduceLT, Int.reduceEq, Int.reduceNe, Int.reduceAdd, Int.reduceSub, Int.reduceMul, Int.reduceNeg, Int.reduceToNat, Int.reduceNatCast, reduceCtorEq, eq_self, t6, t11, t12]
    refine AEnd.ret ?_
    simp (implicitDefEqProofs := false) only [↓reduceIte, go_sem, oread, owrite, Nat.reduceAdd, Nat.reduceSub, Nat.reduceMul, Nat.reduceLT, Nat.reduceLeDiff, Nat.reduceEqDiff, Nat.reduceBEq, Int.reduceLE, Int.reduceLT, Int.reduceEq, Int.reduceNe, Int.reduceAdd, Int.reduceSub, Int.reduceMul, Int.reduceNeg, Int.reduceToNat, Int.reduceNatCast, reduceCtorEq, eq_self, take_len, us_len]
theorem codes_does (words l : List Val) (n1 n2 : Bool) (H : AHeap) (hw : words.length ≤ 1000000000000) (hl : l.length ≤ 1000000000000) : Does Try.prog 10 [.d (.list n1 (words.map Val.enc)), .d (.list n2 (l.map Val.enc))] H (.ok (codesR words l)) H := by
  have h := codes_does' words l n1 n2 H hw hl
  unfold codesR codesP codesE
  cases hc : codesOk words l with
  | true => rw [hc] at h; simpa using h
  | false =>
    rw [hc] at h
    simp only [Bool.false_eq_true, if_false] at h ⊢
    exact h.subT (.cons .nil (.cons (.refl _) .nil))
set_option maxRecDepth 10000 in
set_option maxHeartbeats 1000000 in
theorem place_does (words : List Val) (v : Val) (nn : Bool) (H : AHeap) (hl : words.length ≤ 1000000000000) (hs : ∀ k ∈ words, k.s.size ≤ 9223372036854775807) : Does Try.prog 23 [.d (.list nn (words.map Val.enc)), v.av] H (.ok (iA (placeP words v))) H := by
  refine Does.of_awp (hint := (fun _ => false)) Try.func23 (by kernel_rfl) rfl [4] (by kernel_rfl) (by decide) (by simp [Try.ntmps23]) ?_
  rw [Try.ntmps23]
  simp (implicitDefEqProofs := false) only [↓reduceIte, go_sem, oread, owrite, Nat.reduceAdd, Nat.reduceSub, Nat.reduceMul, Nat.reduceLT, Nat.reduceLeDiff, Nat.reduceEqDiff, Nat.reduceBEq, Int.reduceLE, Int.reduceLT, Int.reduceEq, Int.reduceNe, Int.reduceAdd, Int.reduceSub, Int.reduceMul, Int.reduceNeg, Int.reduceToNat, Int.reduceNatCast, reduceCtorEq, eq_self]
  refine awp_for3 (fun k s H' => H' = H ++ [vbox v] ∧ (∀ i (hi : i < k) (hl : i < words.length), (fun w => decide (cmpV w v = 0)) words[i] = false) ∧ s 0 = .d (.list nn (words.map Val.enc)) ∧ s 3 = .ptr H.length 0 0 0 ∧ s 5 = iA k) words.length (by omega) (Weak.refl _ _) ?_ ?_ ?_
  · refine ⟨rfl, fun i hi => by omega, ?_⟩
    simp (implicitDefEqProofs := false) only [↓reduceIte, go_sem, oread, owrite, Nat.reduceAdd, Nat.reduceSub, Nat.reduceMul, Nat.reduceLT, Nat.reduceLeDiff, Nat.reduceEqDiff, Nat.reduceBEq, Int.reduceLE, Int.reduceLT, Int.reduceEq, Int.reduceNe, Int.reduceAdd, Int.reduceSub, Int.reduceMul, Int.reduceNeg, Int.reduceToNat, Int.reduceNatCast, reduceCtorEq, eq_self]
  · rintro k s H' hk hw ⟨rfl, hp, t0, t3, t5⟩
    have hx := List.getElem?_eq_getElem hk
    have hhit := fun h => idxP_hit (p := fun w => decide (cmpV w v = 0)) hp hk h
    have hxs := hs _ (List.getElem_mem hk)
    have hpp : (fun w => decide (cmpV w v = 0)) words[k] = false → ∀ i (hi : i < k + 1) (hl : i < words.length), (fun w => decide (cmpV w v = 0)) words[i] = false := fun h0 i hi hl' => by
      rcases Nat.lt_or_ge i k with h | h
      · exact hp i h hl'
      · obtain rfl : i = k := by omega
        exact h0
    generalize words[k] = x at hx hhit hxs hpp
    simp (implicitDefEqProofs := false) only [↓reduceIte, go_sem, oread, owrite, Nat.reduceAdd, Nat.reduceSub, Nat.reduceMul, Nat.reduceLT, Nat.reduceLeDiff, Nat.reduceEqDiff, Nat.reduceBEq, Int.reduceLE, Int.reduceLT, Int.reduceEq, Int.reduceNe, Int.reduceAdd, Int.reduceSub, Int.reduceMul, Int.reduceNeg, Int.reduceToNat, Int.reduceNatCast, reduceCtorEq, eq_self, t0, t5, hk]
    refine awp_draw K.mixed (by kernel_rfl) ?_
    simp (implicitDefEqProofs := false) only [↓reduceIte, go_sem, oread, owrite, Nat.reduceAdd, Nat.reduceSub, Nat.reduceMul, Nat.reduceLT, Nat.reduceLeDiff, Nat.reduceEqDiff, Nat.reduceBEq, Int.reduceLE, Int.reduceLT, Int.reduceEq, Int.reduceNe, Int.reduceAdd, Int.reduceSub, Int.reduceMul, Int.reduceNeg, Int.reduceToNat, Int.reduceNatCast, reduceCtorEq, eq_self, t0, t3, t5, hk, hx, Val.enc, vbox]
    refine KCall.ok (vcmp05_does x v hxs _) ?_
    by_cases hc : cmpV x v = 0
    · simp (implicitDefEqProofs := false) only [↓reduceIte, go_sem, oread, owrite, Nat.reduceAdd, Nat.reduceSub, Nat.reduceMul, Nat.reduceLT, Nat.reduceLeDiff, Nat.reduceEqDiff, Nat.reduceBEq, Int.reduceLE, Int.reduceLT, Int.reduceEq, Int.reduceNe, Int.reduceAdd, Int.reduceSub, Int.reduceMul, Int.reduceNeg, Int.reduceToNat, Int.reduceNatCast, reduceCtorEq, eq_self, hc, t5]
      refine AEnd.ret ?_
      have : placeP words v = k := hhit (by simp [hc])
      simp (implicitDefEqProofs := false) only [↓reduceIte, go_sem, oread, owrite, Nat.reduceAdd, Nat.reduceSub, Nat.reduceMul, Nat.reduceLT, Nat.reduceLeDiff, Nat.reduceEqDiff, Nat.reduceBEq, Int.reduceLE, Int.reduceLT, Int.reduceEq, Int.reduceNe, Int.reduceAdd, Int.reduceSub, Int.reduceMul, Int.reduceNeg, Int.reduceToNat, Int.reduceNatCast, reduceCtorEq, eq_self, this]
    · simp (implicitDefEqProofs := false) only [↓reduceIte, go_sem, oread, owrite, Nat.reduceAdd, Nat.reduceSub, Nat.reduceMul, Nat.reduceLT, Nat.reduceLeDiff, Nat.reduceEqDiff, Nat.reduceBEq, Int.reduceLE, Int.reduceLT, Int.reduceEq, Int.reduceNe, Int.reduceAdd, Int.reduceSub, Int.reduceMul, Int.reduceNeg, Int.reduceToNat, Int.reduceNatCast, reduceCtorEq, eq_self, hc, t5]
      refine Rnd.same ⟨rfl, hpp (by simp [hc]), ?_⟩
      simp (implicitDefEqProofs := false) only [↓reduceIte, go_sem, oread, owrite, Nat.reduceAdd, Nat.reduceSub, Nat.reduceMul, Nat.reduceLT, Nat.reduceLeDiff, Nat.reduceEqDiff, Nat.reduceBEq, Int.reduceLE, Int.reduceLT, Int.reduceEq, Int.reduceNe, Int.reduceAdd, Int.reduceSub, Int.reduceMul, Int.reduceNeg, Int.reduceToNat, Int.reduceNatCast, reduceCtorEq, eq_self, t0, t3, hw]
  · rintro s H' ⟨rfl, hp, t0, t3, t5⟩
    simp (implicitDefEqProofs := false) only [↓reduceIte, go_sem, oread, owrite, Nat.reduceAdd, Nat.reduceSub, Nat.reduceMul, Nat.reduceLT, Nat.reduceLeDiff, Nat.reduceEqDiff, Nat.reduceBEq, Int.reduceLE, Int.reduceLT, Int.reduceEq, Int.reduceNe, Int.reduceAdd, Int.reduceSub, Int.reduceMul, Int.reduceNeg, Int.reduceToNat, Int.reduceNatCast, reduceCtorEq, eq_self, t0, t5]
    refine AEnd.ret ?_
    have : placeP words v = -1 := idxP_none (p := fun w => decide (cmpV w v = 0)) fun i hi => hp i hi hi
    simp (implicitDefEqProofs := false) only [↓reduceIte, go_sem, oread, owrite, Nat.reduceAdd, Nat.reduceSub, Nat.reduceMul, Nat.reduceLT, Nat.reduceLeDiff, Nat.reduceEqDiff, Nat.reduceBEq, Int.reduceLE, Int.reduceLT, Int.reduceEq, Int.reduceNe, Int.reduceAdd, Int.reduceSub, Int.reduceMul, Int.reduceNeg, Int.reduceToNat, Int.reduceNatCast, reduceCtorEq, eq_self, this]
set_option maxRecDepth 10000 in
set_option maxHeartbeats 1000000 in
theorem codes09_does' (words l : List Val) (n1 n2 : Bool) (H : AHeap) (hw : words.length ≤ 1000000000000) (hl : l.length ≤ 1000000000000) (hs : ∀ k ∈ words, k.s.size ≤ 9223372036854775807) : Does Try.prog 11 [.d (.list n1 (words.map Val.enc)), .d (.list n2 (l.map Val.enc))] H
    (.ok (if codesOk words l then .tup [.d (.list false (us (l.map fun v => (placeP words v).toNat))), iA 0] else .tup [.d (.v (.slice none 0 0)), iA 6])) H := by
  refine Does.of_awp (hint := (fun _ => false)) Try.func11 (by kernel_rfl) rfl [4, 5] (by kernel_rfl) (by decide) (by simp [Try.ntmps11]) ?_
  rw [Try.ntmps11]
  simp (implicitDefEqProofs := false) only [↓reduceIte, go_sem, oread, owrite, Nat.reduceAdd, Nat.reduceSub, Nat.reduceMul, Nat.reduceLT, Nat.reduceLeDiff, Nat.reduceEqDiff, Nat.reduceBEq, Int.reduceLE, Int.reduceLT, Int.reduceEq, Int.reduceNe, Int.reduceAdd, Int.reduceSub, Int.reduceMul, Int.reduceNeg, Int.reduceToNat, Int.reduceNatCast, reduceCtorEq, eq_self]
  refine awp_for3 (fun k s H' => H' = H ++ [.arr 37 1 k (us ((l.take k).map fun v => (placeP words v).toNat))] ∧ (∀ i (hi : i < k) (hl : i < l.length), 0 ≤ placeP words l[i]) ∧ s 0 = .d (.list n1 (words.map Val.enc)) ∧ s 1 = .d (.list n2 (l.map Val.enc)) ∧ s 6 = .sl H.length k 0 k ∧ s 7 = iA k) l.length (by omega) (Weak.virt1 _ _ 6 37 1 (by decide) (by simp (implicitDefEqProofs := false) only [↓reduceIte, go_sem, oread, owrite, Nat.reduceAdd, Nat.reduceSub, Nat.reduceMul, Nat.reduceLT, Nat.reduceLeDiff, Nat.reduceEqDiff, Nat.reduceBEq, Int.reduceLE, Int.reduceLT, Int.reduceEq, Int.reduceNe, Int.reduceAdd, Int.reduceSub, Int.reduceMul, Int.reduceNeg, Int.reduceToNat, Int.reduceNatCast, reduceCtorEq, eq_self]) _) ?_ ?_ ?_
  · refine ⟨rfl, fun i hi => by omega, ?_⟩
    simp (implicitDefEqProofs := false) only [↓reduceIte, go_sem, oread, owrite, Nat.reduceAdd, Nat.reduceSub, Nat.reduceMul, Nat.reduceLT, Nat.reduceLeDiff, Nat.reduceEqDiff, Nat.reduceBEq, Int.reduceLE, Int.reduceLT, Int.reduceEq, Int.reduceNe, Int.reduceAdd, Int.reduceSub, Int.reduceMul, Int.reduceNeg, Int.reduceToNat, Int.reduceNatCast, reduceCtorEq, eq_self]
  · rintro k s H' hk hw' ⟨rfl, hp, t0, t1, t6, t7⟩
    have hx := List.getElem?_eq_getElem hk
    have e1 : (l.take (k + 1)).map (fun v => (placeP words v).toNat) = (l.take k).map (fun v => (placeP words v).toNat) ++ [(placeP words l[k]).toNat] := by rw [List.take_succ_eq_append_getElem hk, List.map_append]; rfl
    have hbad := codes_bad (words := words) hk
    have hrng := placeP_rng words l[k]
    have hpp : 0 ≤ placeP words l[k] → ∀ i (hi : i < k + 1) (hl : i < l.length), 0 ≤ placeP words l[i] := fun h0 i hi hl' => by
      rcases Nat.lt_or_ge i k with h | h
      · exact hp i h hl'
      · obtain rfl : i = k := by omega
        exact h0
    have hlen : ((l.take k).map fun v => (placeP words v).toNat).length = k := by simp; omega
    generalize l[k] = x at hx e1 hbad hrng hpp
    generalize (l.take k).map (fun v => (placeP words v).toNat) = L at e1 hlen ⊢
    simp (implicitDefEqProofs := false) only [↓reduceIte, go_sem, oread, owrite, Nat.reduceAdd, Nat.reduceSub, Nat.reduceMul, Nat.reduceLT, Nat.reduceLeDiff, Nat.reduceEqDiff, Nat.reduceBEq, Int.reduceLE, Int.reduceLT, Int.reduceEq, Int.reduceNe, Int.reduceAdd, Int.reduceSub, Int.reduceMul, Int.reduceNeg, Int.reduceToNat, Int.reduceNatCast, reduceCtorEq, eq_self, t0, t1, t7, hk, hx, Val.enc]
    refine KCall.ok (place_does words x n1 _ hw hs) ?_
    generalize hq : placeP words x = q at *
    by_cases hq0 : q < 0
    · simp (implicitDefEqProofs := false) only [↓reduceIte, go_sem, oread, owrite, Nat.reduceAdd, Nat.reduceSub, Nat.reduceMul, Nat.reduceLT, Nat.reduceLeDiff, Nat.reduceEqDiff, Nat.reduceBEq, Int.reduceLE, Int.reduceLT, Int.reduceEq, Int.reduceNe, Int.reduceAdd, Int.reduceSub, Int.reduceMul, Int.reduceNeg, Int.reduceToNat, Int.reduceNatCast, reduceCtorEq, eq_self, hq0]
      refine AEnd.ret ?_
      rw [hbad hq0]
      simp (implicitDefEqProofs := false) only [↓reduceIte, go_sem, oread, owrite, Nat.reduceAdd, Nat.reduceSub, Nat.reduceMul, Nat.reduceLT, Nat.reduceLeDiff, Nat.reduceEqDiff, Nat.reduceBEq, Int.reduceLE, Int.reduceLT, Int.reduceEq, Int.reduceNe, Int.reduceAdd, Int.reduceSub, Int.reduceMul, Int.reduceNeg, Int.reduceToNat, Int.reduceNatCast, reduceCtorEq, eq_self, Bool.false_eq_true]
    · obtain ⟨n, rfl⟩ : ∃ n : Nat, q = (n : Int) := ⟨q.toNat, by omega⟩
      have hu : IntKind.u64.wrap (n : Int) = (n : Int) := wrapu64_in _ (by omega) (by omega)
      simp (implicitDefEqProofs := false) only [↓reduceIte, go_sem, oread, owrite, Nat.reduceAdd, Nat.reduceSub, Nat.reduceMul, Nat.reduceLT, Nat.reduceLeDiff, Nat.reduceEqDiff, Nat.reduceBEq, Int.reduceLE, Int.reduceLT, Int.reduceEq, Int.reduceNe, Int.reduceAdd, Int.reduceSub, Int.reduceMul, Int.reduceNeg, Int.reduceToNat, Int.reduceNatCast, reduceCtorEq, eq_self, t6, t7, hq0, hu, us_len, hlen, us_snoc]
      refine ⟨by omega, by omega, Rnd.same ⟨by rw [e1]; simp, hpp (by omega), ?_⟩⟩
      simp (implicitDefEqProofs := false) only [↓reduceIte, go_sem, oread, owrite, Nat.reduceAdd, Nat.reduceSub, Nat.reduceMul, Nat.reduceLT, Nat.reduceLeDiff, Nat.reduceEqDiff, Nat.reduceBEq, Int.reduceLE, Int.reduceLT, Int.reduceEq, Int.reduceNe, Int.reduceAdd, Int.reduceSub, Int.reduceMul, Int.reduceNeg, Int.reduceToNat, Int.reduceNatCast, reduceCtorEq, eq_self, t0, t1, hw']
  · rintro s H' ⟨rfl, hp, t0, t1, t6, t7⟩
    have hg := codes_good (words := words) fun i hi => hp i hi hi
    rw [List.take_length, hg]
    simp (implicitDefEqProofs := false) only [↓reduceIte, go_sem, oread, owrite, Nat.reduceAdd, Nat.reduceSub, Nat.reduceMul, Nat.reduceLT, Nat.reduceLeDiff, Nat.reduceEqDiff, Nat.reduceBEq, Int.reduceLE, Int.reduceLT, Int.reduceEq, Int.reduceNe, Int.reduceAdd, Int.reduceSub, Int.reduceMul, Int.reduceNeg, Int.reduceToNat, Int.reduceNatCast, reduceCtorEq, eq_self, t1, t6, t7]
    refine AEnd.ret ?_
    simp (implicitDefEqProofs := false) only [↓reduceIte, go_sem, oread, owrite, Nat.reduceAdd, Nat.reduceSub, Nat.reduceMul, Nat.reduceLT, Nat.reduceLeDiff, Nat.reduceEqDiff, Nat.reduceBEq, Int.reduceLE, Int.reduceLT, Int.reduceEq, Int.reduceNe, Int.reduceAdd, Int.reduceSub, Int.reduceMul, Int.reduceNeg, Int.reduceToNat, Int.reduceNatCast, reduceCtorEq, eq_self, take_len, us_len]
theorem codes09_does (words l : List Val) (n1 n2 : Bool) (H : AHeap) (hw : words.length ≤ 1000000000000) (hl : l.length ≤ 1000000000000) (hs : ∀ k ∈ words, k.s.size ≤ 9223372036854775807) : Does Try.prog 11 [.d (.list n1 (words.map Val.enc)), .d (.list n2 (l.map Val.enc))] H (.ok (codesR words l)) H := by
  have h := codes09_does' words l n1 n2 H hw hl hs
  unfold codesR codesP codesE
  cases hc : codesOk words l with
  | true => rw [hc] at h; simpa using h
  | false =>
    rw [hc] at h
    simp only [Bool.false_eq_true, if_false] at h ⊢
    exact h.subT (.cons .nil (.cons (.refl _) .nil))
end Go.Proofs.Ytkapgooedfompaa

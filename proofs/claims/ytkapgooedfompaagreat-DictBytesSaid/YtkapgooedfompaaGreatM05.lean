/- dict.Codes, the reference's place and Codes: what they do. slices.Clone over Val: what it does. slices' swapRange, rotate, insertion sort over Val: what they do. slices' rotate over Val: what it does. slices' insertion sort over Val: what it does. slices' symMerge over Val: what it does. slices' symMerge over Val, the general case: what it does. Blocks that are sorted one by one. slices.SortStableFunc over Val: what it does. slices.CompactFunc over Val: what it does. ref01.Same, ref05.Same: what they do. dict.Words, the laws' few and shown: what they do. Words, codes and places: in plain Lean. dict.width, dict.Bytes: what they do. plain.Of of nothing, dict.used: what they do. dict.read: what it does. dict.ToCodes, dict.Of: what they do. dict.Of: what it does. The document's Some (layer 7), width and Bytes (layer 9): what they do. The document's Bytes, ToCodes, Of (layer 9): what they do. -/
import Derived.Test.YtkapgooedfompaaGreatM04
namespace Go.Proofs.YtkapgooedfompaaGreat
open Go.Proofs.YtkapgooedfompaaGreatAw Go.RowKit
set_option linter.unusedVariables false
set_option linter.unusedSimpArgs false
def placeP (words : List Val) (v : Val) : Int := idxP (fun w => decide (cmpV w v = 0)) words
theorem placeP_rng (words : List Val) (v : Val) : -1 ≤ placeP words v ∧ placeP words v < words.length ∨ words = [] ∧ placeP words v = -1 := by
  unfold placeP idxP
  split
  · rename_i h
    obtain ⟨x, hx, hp⟩ := List.any_eq_true.1 h
    have : words.findIdx (fun w => decide (cmpV w v = 0)) < words.length := List.findIdx_lt_length_of_exists ⟨x, hx, hp⟩
    left; omega
  · cases words with
    | nil => exact .inr ⟨rfl, rfl⟩
    | cons a l => left; simp; omega
/-- The codes, or none. -/
def codesOk (words l : List Val) : Bool := l.all fun v => decide (0 ≤ placeP words v)
def codesP (words l : List Val) : List Nat := if codesOk words l then l.map fun v => (placeP words v).toNat else []
def codesE (words l : List Val) : Int := if codesOk words l then 0 else 6
def codesR (words l : List Val) : AV := .tup [.d (.list false (us (codesP words l))), iA (codesE words l)]
theorem codes_bad {words l : List Val} {k : Nat} (hk : k < l.length) (h : placeP words l[k] < 0) : codesOk words l = false := by
  rw [Bool.eq_false_iff]
  intro g
  unfold codesOk at g
  rw [List.all_eq_true] at g
  have := g _ (List.getElem_mem hk)
  simp at this
  omega
theorem codes_good {words l : List Val} (h : ∀ i (hi : i < l.length), 0 ≤ placeP words l[i]) : codesOk words l = true := by
  unfold codesOk
  rw [List.all_eq_true]
  intro v hv
  obtain ⟨i, hi, rfl⟩ := List.mem_iff_getElem.1 hv
  simpa using h i hi
def vbox (v : Val) : AObj := .box 45 3 0 1 [iA v.kind, iA v.i, sA v.s]
set_option maxRecDepth 10000 in
theorem codes1_does (w v : Val) (id : Nat) (H : AHeap) (hb : H[id]? = some (vbox v)) : Does Tryz.prog 46 [w.av, .ptr id 0 0 0] H (.ok (bA (decide (cmpV w v = 0)))) H := by
  have hlt : id < H.length := (List.getElem?_eq_some_iff.1 hb).1
  unfold vbox at hb
  refine Does.of_awp (hint := (fun _ => false)) Tryz.func46 (by kernel_rfl) rfl [3] (by kernel_rfl) (by decide) (by simp [Tryz.ntmps46]) ?_
  rw [Tryz.ntmps46]
  simp (implicitDefEqProofs := false) only [↓reduceIte, go_sem, oread, Nat.reduceAdd, Nat.reduceLT, Nat.reduceEqDiff, eq_self, hb, List.getElem?_append_left hlt]
  refine KCall.ok (vcmp_does w v _) ?_
  simp (implicitDefEqProofs := false) only [↓reduceIte, go_sem, Nat.reduceLT, eq_self]
  refine AEnd.ret ?_
  simp (implicitDefEqProofs := false) only [↓reduceIte, go_sem, Nat.reduceLT, eq_self]
set_option maxRecDepth 10000 in
set_option maxHeartbeats 1000000 in
theorem codes_does' (words l : List Val) (n1 n2 : Bool) (H : AHeap) (hw : words.length ≤ 1000000000000) (hl : l.length ≤ 1000000000000) : Does Tryz.prog 16 [.d (.list n1 (words.map Val.enc)), .d (.list n2 (l.map Val.enc))] H
    (.ok (if codesOk words l then .tup [.d (.list false (us (l.map fun v => (placeP words v).toNat))), iA 0] else .tup [.d (.v (.slice none 0 0)), iA 6])) H := by
  refine Does.of_awp (hint := (fun _ => false)) Tryz.func16 (by kernel_rfl) rfl [4, 5] (by kernel_rfl) (by decide) (by simp [Tryz.ntmps16]) ?_
  rw [Tryz.ntmps16]
  simp (implicitDefEqProofs := false) only [↓reduceIte, go_sem, Nat.reduceLT, Nat.reduceEqDiff, eq_self]
  refine awp_for (fun k s H' => H' = H ++ [.arr 48 1 k (us ((l.take k).map fun v => (placeP words v).toNat))] ∧ (∀ i (hi : i < k) (hl : i < l.length), 0 ≤ placeP words l[i]) ∧ s 0 = .d (.list n1 (words.map Val.enc)) ∧ s 6 = .sl H.length k 0 k ∧ s 10 = .d (.list n2 (l.map Val.enc)) ∧ s 11 = iA l.length ∧ s 12 = iA k) l.length (by omega) (Weak.virt1 _ _ 6 48 1 (by decide) (by simp (implicitDefEqProofs := false) only [↓reduceIte, go_sem, Nat.reduceLT, Nat.reduceEqDiff, eq_self]) _) ?_ ?_ ?_
  · refine ⟨rfl, fun i hi => by omega, ?_⟩
    simp (implicitDefEqProofs := false) only [↓reduceIte, go_sem, Nat.reduceLT, Nat.reduceEqDiff, reduceCtorEq, eq_self]
  · rintro k s H' hk hw' ⟨rfl, hp, t0, t6, t10, t11, t12⟩
    have hx := List.getElem?_eq_getElem hk
    have e1 : (l.take (k + 1)).map (fun v => (placeP words v).toNat) = (l.take k).map (fun v => (placeP words v).toNat) ++ [(placeP words l[k]).toNat] := by rw [List.take_succ_eq_append_getElem hk, List.map_append]; rfl
    have hbad := codes_bad (words := words) hk
    have hrng := placeP_rng words l[k]
    have hpp : 0 ≤ placeP words l[k] → ∀ i (hi : i < k + 1) (hl : i < l.length), 0 ≤ placeP words l[i] := fun h0 i hi hl' => by
      rcases Nat.lt_or_ge i k with h | h
      · exact hp i h hl'
      · obtain rfl : i = k := by omega
        exact h0
    have hlen : ((l.take k).map fun v => (placeP words v).toNat).length = k := by simp; omega
    generalize l[k] = x at hx e1 hbad hrng hpp
    generalize (l.take k).map (fun v => (placeP words v).toNat) = L at e1 hlen ⊢
    simp (implicitDefEqProofs := false) only [↓reduceIte, go_sem, owrite, Nat.reduceAdd, Nat.reduceLT, Nat.reduceEqDiff, reduceCtorEq, eq_self, t10, t11, t12, hk, hx, Val.enc]
    simp (implicitDefEqProofs := false) only [go_sem, t0]
    refine KCall.ok (indexV_does words (fun w => decide (cmpV w x = 0)) 46 [.ptr (H.length + 1) 0 0 0] n1 _ (by omega) fun w _ => codes1_does w x _ _ (by simp [vbox])) ?_
    have hpl : idxP (fun w => decide (cmpV w x = 0)) words = placeP words x := rfl
    rw [hpl]
    generalize hq : placeP words x = q at *
    by_cases hq0 : q < 0
    · simp (implicitDefEqProofs := false) only [↓reduceIte, go_sem, Nat.reduceLT, eq_self, hq0]
      refine AEnd.ret ?_
      rw [hbad hq0]
      simp (implicitDefEqProofs := false) only [↓reduceIte, go_sem, Nat.reduceLT, Nat.reduceEqDiff, eq_self, Bool.false_eq_true]
    · obtain ⟨n, rfl⟩ : ∃ n : Nat, q = (n : Int) := ⟨q.toNat, by omega⟩
      have hnw : n < 1000000000000 := by omega
      have hu : IntKind.u64.wrap (n : Int) = (n : Int) := wrapu64_in _ (by omega) (by omega)
      simp (implicitDefEqProofs := false) only [↓reduceIte, go_sem, Nat.reduceAdd, Nat.reduceLT, Nat.reduceLeDiff, Nat.reduceEqDiff, eq_self, t6, t12, hq0, hu, us_len, hlen, us_snoc]
      refine ⟨by omega, by omega, ?_⟩
      refine Rnd.cut [.arr 48 1 (k + 1) (us (L ++ [n]))] [vbox x] 1 rfl rfl (by simp (implicitDefEqProofs := false) only [go_sem, eq_self]) ?_
      refine ⟨by rw [e1]; simp, hpp (by omega), ?_⟩
      simp (implicitDefEqProofs := false) only [↓reduceIte, go_sem, Nat.reduceLT, Nat.reduceEqDiff, reduceCtorEq, eq_self, t0, t10, t11, hw', Nat.lt_succ_self]
  · rintro s H' ⟨rfl, hp, t0, t6, t10, t11, t12⟩
    have hg := codes_good (words := words) fun i hi => hp i hi hi
    rw [List.take_length, hg]
    simp (implicitDefEqProofs := false) only [↓reduceIte, go_sem, Nat.reduceLT, Nat.reduceEqDiff, eq_self, t6, t11, t12]
    refine AEnd.ret ?_
    simp (implicitDefEqProofs := false) only [↓reduceIte, go_sem, Nat.reduceLT, Nat.reduceEqDiff, eq_self, take_len, us_len]
theorem codes_does (words l : List Val) (n1 n2 : Bool) (H : AHeap) (hw : words.length ≤ 1000000000000) (hl : l.length ≤ 1000000000000) : Does Tryz.prog 16 [.d (.list n1 (words.map Val.enc)), .d (.list n2 (l.map Val.enc))] H (.ok (codesR words l)) H := by
  have h := codes_does' words l n1 n2 H hw hl
  unfold codesR codesP codesE
  cases hc : codesOk words l with
  | true => rw [hc] at h; simpa using h
  | false =>
    rw [hc] at h
    simp only [Bool.false_eq_true, if_false] at h ⊢
    exact h.subT (.cons .nil (.cons (.refl _) .nil))
set_option maxRecDepth 10000 in
set_option maxHeartbeats 1000000 in
theorem place_does (words : List Val) (v : Val) (nn : Bool) (H : AHeap) (hl : words.length ≤ 1000000000000) (hs : ∀ k ∈ words, k.s.size ≤ 9223372036854775807) : Does Tryz.prog 62 [.d (.list nn (words.map Val.enc)), v.av] H (.ok (iA (placeP words v))) H := by
  refine Does.of_awp (hint := (fun _ => false)) Tryz.func62 (by kernel_rfl) rfl [4] (by kernel_rfl) (by decide) (by simp [Tryz.ntmps62]) ?_
  rw [Tryz.ntmps62]
  simp (implicitDefEqProofs := false) only [↓reduceIte, go_sem, Nat.reduceAdd, Nat.reduceLT, Int.reduceNeg, eq_self]
  refine awp_for3 (fun k s H' => H' = H ++ [vbox v] ∧ (∀ i (hi : i < k) (hl : i < words.length), (fun w => decide (cmpV w v = 0)) words[i] = false) ∧ s 0 = .d (.list nn (words.map Val.enc)) ∧ s 3 = .ptr H.length 0 0 0 ∧ s 5 = iA k) words.length (by omega) (Weak.refl _ _) ?_ ?_ ?_
  · refine ⟨rfl, fun i hi => by omega, ?_⟩
    simp (implicitDefEqProofs := false) only [↓reduceIte, go_sem, Nat.reduceLT, Nat.reduceEqDiff, reduceCtorEq, eq_self]
  · rintro k s H' hk hw ⟨rfl, hp, t0, t3, t5⟩
    have hx := List.getElem?_eq_getElem hk
    have hhit := fun h => idxP_hit (p := fun w => decide (cmpV w v = 0)) hp hk h
    have hxs := hs _ (List.getElem_mem hk)
    have hpp : (fun w => decide (cmpV w v = 0)) words[k] = false → ∀ i (hi : i < k + 1) (hl : i < words.length), (fun w => decide (cmpV w v = 0)) words[i] = false := fun h0 i hi hl' => by
      rcases Nat.lt_or_ge i k with h | h
      · exact hp i h hl'
      · obtain rfl : i = k := by omega
        exact h0
    generalize words[k] = x at hx hhit hxs hpp
    simp (implicitDefEqProofs := false) only [↓reduceIte, go_sem, Nat.reduceLT, Nat.reduceEqDiff, reduceCtorEq, eq_self, t0, t5, hk]
    refine awp_draw K.mixed (by kernel_rfl) ?_
    simp (implicitDefEqProofs := false) only [↓reduceIte, go_sem, oread, Nat.reduceAdd, Nat.reduceLT, Nat.reduceEqDiff, Int.reduceNeg, reduceCtorEq, eq_self, t0, t3, t5, hx, Val.enc, vbox]
    refine KCall.ok (vcmp05_does x v hxs _) ?_
    by_cases hc : cmpV x v = 0
    · simp (implicitDefEqProofs := false) only [↓reduceIte, go_sem, Nat.reduceLT, Nat.reduceEqDiff, eq_self, hc, t5]
      refine AEnd.ret ?_
      have : placeP words v = k := hhit (by simp [hc])
      simp (implicitDefEqProofs := false) only [↓reduceIte, go_sem, Nat.reduceLT, eq_self, this]
    · simp (implicitDefEqProofs := false) only [↓reduceIte, go_sem, Nat.reduceLT, Nat.reduceEqDiff, eq_self, hc, t5]
      refine Rnd.same ⟨rfl, hpp (by simp [hc]), ?_⟩
      simp (implicitDefEqProofs := false) only [↓reduceIte, go_sem, Nat.reduceLT, Nat.reduceEqDiff, reduceCtorEq, eq_self, t0, t3, hw]
  · rintro s H' ⟨rfl, hp, t0, t3, t5⟩
    simp (implicitDefEqProofs := false) only [↓reduceIte, go_sem, Nat.reduceLT, Nat.reduceEqDiff, Int.reduceNeg, reduceCtorEq, eq_self, t0, t5]
    refine AEnd.ret ?_
    have : placeP words v = -1 := idxP_none (p := fun w => decide (cmpV w v = 0)) fun i hi => hp i hi hi
    simp (implicitDefEqProofs := false) only [↓reduceIte, go_sem, Nat.reduceLT, Int.reduceNeg, eq_self, this]
set_option maxRecDepth 10000 in
set_option maxHeartbeats 1000000 in
theorem codes09_does' (words l : List Val) (n1 n2 : Bool) (H : AHeap) (hw : words.length ≤ 1000000000000) (hl : l.length ≤ 1000000000000) (hs : ∀ k ∈ words, k.s.size ≤ 9223372036854775807) : Does Tryz.prog 26 [.d (.list n1 (words.map Val.enc)), .d (.list n2 (l.map Val.enc))] H
    (.ok (if codesOk words l then .tup [.d (.list false (us (l.map fun v => (placeP words v).toNat))), iA 0] else .tup [.d (.v (.slice none 0 0)), iA 6])) H := by
  refine Does.of_awp (hint := (fun _ => false)) Tryz.func26 (by kernel_rfl) rfl [4, 5] (by kernel_rfl) (by decide) (by simp [Tryz.ntmps26]) ?_
  rw [Tryz.ntmps26]
  simp (implicitDefEqProofs := false) only [go_sem]
  refine awp_for3 (fun k s H' => H' = H ++ [.arr 48 1 k (us ((l.take k).map fun v => (placeP words v).toNat))] ∧ (∀ i (hi : i < k) (hl : i < l.length), 0 ≤ placeP words l[i]) ∧ s 0 = .d (.list n1 (words.map Val.enc)) ∧ s 1 = .d (.list n2 (l.map Val.enc)) ∧ s 6 = .sl H.length k 0 k ∧ s 7 = iA k) l.length (by omega) (Weak.virt1 _ _ 6 48 1 (by decide) (by simp (implicitDefEqProofs := false) only [↓reduceIte, go_sem, Nat.reduceLT, Nat.reduceEqDiff, eq_self]) _) ?_ ?_ ?_
  · refine ⟨rfl, fun i hi => by omega, ?_⟩
    simp (implicitDefEqProofs := false) only [↓reduceIte, go_sem, Nat.reduceLT, Nat.reduceEqDiff, reduceCtorEq, eq_self]
  · rintro k s H' hk hw' ⟨rfl, hp, t0, t1, t6, t7⟩
    have hx := List.getElem?_eq_getElem hk
    have e1 : (l.take (k + 1)).map (fun v => (placeP words v).toNat) = (l.take k).map (fun v => (placeP words v).toNat) ++ [(placeP words l[k]).toNat] := by rw [List.take_succ_eq_append_getElem hk, List.map_append]; rfl
    have hbad := codes_bad (words := words) hk
    have hrng := placeP_rng words l[k]
    have hpp : 0 ≤ placeP words l[k] → ∀ i (hi : i < k + 1) (hl : i < l.length), 0 ≤ placeP words l[i] := fun h0 i hi hl' => by
      rcases Nat.lt_or_ge i k with h | h
      · exact hp i h hl'
      · obtain rfl : i = k := by omega
        exact h0
    have hlen : ((l.take k).map fun v => (placeP words v).toNat).length = k := by simp; omega
    generalize l[k] = x at hx e1 hbad hrng hpp
    generalize (l.take k).map (fun v => (placeP words v).toNat) = L at e1 hlen ⊢
    simp (implicitDefEqProofs := false) only [↓reduceIte, go_sem, Nat.reduceAdd, Nat.reduceLT, Nat.reduceEqDiff, reduceCtorEq, eq_self, t0, t1, t7, hk, hx, Val.enc]
    refine KCall.ok (place_does words x n1 _ hw hs) ?_
    generalize hq : placeP words x = q at *
    by_cases hq0 : q < 0
    · simp (implicitDefEqProofs := false) only [↓reduceIte, go_sem, Nat.reduceLT, eq_self, hq0]
      refine AEnd.ret ?_
      rw [hbad hq0]
      simp (implicitDefEqProofs := false) only [↓reduceIte, go_sem, Nat.reduceLT, Nat.reduceEqDiff, eq_self, Bool.false_eq_true]
    · obtain ⟨n, rfl⟩ : ∃ n : Nat, q = (n : Int) := ⟨q.toNat, by omega⟩
      have hu : IntKind.u64.wrap (n : Int) = (n : Int) := wrapu64_in _ (by omega) (by omega)
      simp (implicitDefEqProofs := false) only [↓reduceIte, go_sem, Nat.reduceLT, Nat.reduceLeDiff, Nat.reduceEqDiff, eq_self, t6, t7, hq0, hu, us_len, hlen, us_snoc]
      refine ⟨by omega, by omega, Rnd.same ⟨by rw [e1]; simp, hpp (by omega), ?_⟩⟩
      simp (implicitDefEqProofs := false) only [↓reduceIte, go_sem, Nat.reduceLT, Nat.reduceEqDiff, reduceCtorEq, eq_self, t0, t1, hw']
  · rintro s H' ⟨rfl, hp, t0, t1, t6, t7⟩
    have hg := codes_good (words := words) fun i hi => hp i hi hi
    rw [List.take_length, hg]
    simp (implicitDefEqProofs := false) only [↓reduceIte, go_sem, Nat.reduceLT, Nat.reduceEqDiff, eq_self, t1, t6, t7]
    refine AEnd.ret ?_
    simp (implicitDefEqProofs := false) only [↓reduceIte, go_sem, Nat.reduceLT, Nat.reduceEqDiff, eq_self, take_len, us_len]
theorem codes09_does (words l : List Val) (n1 n2 : Bool) (H : AHeap) (hw : words.length ≤ 1000000000000) (hl : l.length ≤ 1000000000000) (hs : ∀ k ∈ words, k.s.size ≤ 9223372036854775807) : Does Tryz.prog 26 [.d (.list n1 (words.map Val.enc)), .d (.list n2 (l.map Val.enc))] H (.ok (codesR words l)) H := by
  have h := codes09_does' words l n1 n2 H hw hl hs
  unfold codesR codesP codesE
  cases hc : codesOk words l with
  | true => rw [hc] at h; simpa using h
  | false =>
    rw [hc] at h
    simp only [Bool.false_eq_true, if_false] at h ⊢
    exact h.subT (.cons .nil (.cons (.refl _) .nil))
end Go.Proofs.YtkapgooedfompaaGreat
namespace Go.Proofs.YtkapgooedfompaaGreat
open Go.Proofs.YtkapgooedfompaaGreatAw Go.RowKit
set_option linter.unusedVariables false
set_option linter.unusedSimpArgs false
namespace SV
theorem encK (l : List Val) : (∀ c ∈ l.map Val.enc, c.length = 3) = True := eq_true fun c hc => by obtain ⟨a, _, rfl⟩ := List.mem_map.1 hc; rfl
theorem nilnil (K : Value → Prop) : binK Tryz.prog .eql 22 (.slice none 0 0) (.slice none 0 0) K = K (.bool true) := nilEq_bin (e := 45) (by kernel_rfl) K
set_option maxRecDepth 10000 in
theorem cloneNil_does (H : AHeap) : Does Tryz.prog 38 [.d (.v (.slice none 0 0))] H (.ok (.d (.v (.slice none 0 0)))) H := by
  refine Does.of_awp (hint := (fun _ => false)) Tryz.func38 (by kernel_rfl) rfl [2] (by kernel_rfl) (by decide) (by simp [Tryz.ntmps38]) ?_
  rw [Tryz.ntmps38]
  simp (implicitDefEqProofs := false) only [↓reduceIte, go_sem, Nat.reduceLT, reduceCtorEq, eq_self, nilnil]
  refine AEnd.ret0 ?_
  simp (implicitDefEqProofs := false) only [↓reduceIte, go_sem, Nat.reduceLT, eq_self]
set_option maxRecDepth 10000 in
theorem cloneK_does (l : List Val) (nn : Bool) (H : AHeap) (h0 : nn = true ∨ l ≠ []) (hl : l.length ≤ 1000000000000) : Does Tryz.prog 38 [.d (.list nn (l.map Val.enc))] H (.ok (.sl H.length 1 0 l.length)) (H ++ [.arr 45 3 1 (l.map Val.enc)]) := by
  have e1 : (nn || !(l.map Val.enc).isEmpty) = true := by
    rcases h0 with h | h
    · simp [h]
    · cases l with
      | nil => exact absurd rfl h
      | cons a l => simp
  refine Does.of_awp (hint := (fun _ => false)) Tryz.func38 (by kernel_rfl) rfl [2] (by kernel_rfl) (by decide) (by simp [Tryz.ntmps38]) ?_
  rw [Tryz.ntmps38]
  simp (implicitDefEqProofs := false) only [↓reduceIte, go_sem, Nat.reduceAdd, Nat.reduceLT, Nat.reduceEqDiff, reduceCtorEq, eq_self, e1, encK]
  refine ⟨by omega, by omega, _, Weak.refl _ _, ?_⟩
  simp (implicitDefEqProofs := false) only [↓reduceIte, go_sem, Nat.reduceLT, eq_self]
/-- A copy of one's own. -/
theorem clone_does (l : List Val) (nn : Bool) (H : AHeap) (hl : l.length ≤ 1000000000000) : Does Tryz.prog 38 [.d (.list nn (l.map Val.enc))] H (.ok (.sl H.length 1 0 l.length)) (H ++ [.arr 45 3 1 (l.map Val.enc)]) := by
  cases nn with
  | true => exact cloneK_does l true H (.inl rfl) hl
  | false =>
    cases l with
    | cons a l => exact cloneK_does _ false H (.inr (by simp)) hl
    | nil =>
      refine Does.splitNil [] [] ?_ (cloneK_does [] true H (.inl rfl) (by simp))
      have := (cloneNil_does H).weak (Weak.virtV (sOne _) H 0 45 3 1 (by decide) rfl)
      simpa [sOne] using this
end SV
end Go.Proofs.YtkapgooedfompaaGreat
namespace Go.Proofs.YtkapgooedfompaaGreat
open Go.Proofs.YtkapgooedfompaaGreatAw Go.RowKit
set_option linter.unusedVariables false
set_option linter.unusedSimpArgs false
namespace SV
/-- The heap in which an array has these elements. -/
def aH (H : AHeap) (id ver : Nat) (L : List Val) : AHeap := H.set id (.arr 45 3 ver (L.map Val.enc))
theorem aH_get {H : AHeap} {id : Nat} (h : id < H.length) (ver : Nat) (L : List Val) : (aH H id ver L)[id]? = some (.arr 45 3 ver (L.map Val.enc)) := by simp [aH, h]
theorem aH_set (H : AHeap) (id ver : Nat) (L : List Val) (v : Nat) (es : List (List D)) : (aH H id ver L).set id (.arr 45 3 v es) = H.set id (.arr 45 3 v es) := by simp [aH]
theorem aH_fold (H : AHeap) (id ver : Nat) (L : List Val) : H.set id (.arr 45 3 ver (L.map Val.enc)) = aH H id ver L := rfl
theorem get_enc {L : List Val} {i : Nat} {x : Val} (h : L[i]? = some x) : (L.map Val.enc)[i]? = some x.enc := by simp [h]
theorem set_enc (L : List Val) (i : Nat) (x : Val) : (L.map Val.enc).set i x.enc = (L.set i x).map Val.enc := by simp [List.map_set]
theorem get_at {A B : List Val} {x : Val} {n : Nat} (h : A.length = n) : (A ++ x :: B)[n]? = some x := by subst h; simp
theorem set_at {A B : List Val} {x y : Val} {n : Nat} (h : A.length = n) : (A ++ x :: B).set n y = A ++ y :: B := by subst h; simp
def swL (P X M Y Q : List Val) (k : Nat) : List Val := P ++ Y.take k ++ (X.drop k ++ M ++ X.take k ++ (Y.drop k ++ Q))
theorem swL_zero (P X M Y Q : List Val) : swL P X M Y Q 0 = P ++ X ++ M ++ Y ++ Q := by simp [swL]
theorem swL_end (P X M Y Q : List Val) (n : Nat) (h1 : X.length = n) (h2 : Y.length = n) : swL P X M Y Q n = P ++ Y ++ M ++ X ++ Q := by
  unfold swL
  rw [List.take_of_length_le (by omega), List.drop_of_length_le (by omega), List.take_of_length_le (by omega), List.drop_of_length_le (by omega)]
  simp
theorem swL_step (P X M Y Q : List Val) (k : Nat) (hk : k < X.length) (h : X.length = Y.length) : ∃ x y, (swL P X M Y Q k)[P.length + k]? = some x ∧ (swL P X M Y Q k)[P.length + X.length + M.length + k]? = some y ∧
    ((swL P X M Y Q k).set (P.length + k) y).set (P.length + X.length + M.length + k) x = swL P X M Y Q (k + 1) := by
  have hk2 : k < Y.length := by omega
  have e1 : X.drop k = X[k] :: X.drop (k + 1) := List.drop_eq_getElem_cons hk
  have e2 : Y.drop k = Y[k] :: Y.drop (k + 1) := List.drop_eq_getElem_cons hk2
  have e3 : X.take (k + 1) = X.take k ++ [X[k]] := List.take_succ_eq_append_getElem hk
  have e4 : Y.take (k + 1) = Y.take k ++ [Y[k]] := List.take_succ_eq_append_getElem hk2
  have l1 : (P ++ Y.take k).length = P.length + k := by simp; omega
  have l2 : (X.drop (k + 1)).length = X.length - (k + 1) := by simp
  have l3 : (X.take k).length = k := by simp; omega
  unfold swL
  rw [e1, e2, e3, e4]
  generalize X[k] = x
  generalize Y[k] = y
  generalize X.drop (k + 1) = X1 at *
  generalize Y.drop (k + 1) = Y1 at *
  generalize X.take k = X0 at *
  generalize Y.take k = Y0 at *
  have a1 : P ++ Y0 ++ (x :: X1 ++ M ++ X0 ++ (y :: Y1 ++ Q)) = (P ++ Y0) ++ x :: (X1 ++ M ++ X0 ++ (y :: Y1 ++ Q)) := by simp
  have a2 : P ++ Y0 ++ (x :: X1 ++ M ++ X0 ++ (y :: Y1 ++ Q)) = (P ++ Y0 ++ x :: X1 ++ M ++ X0) ++ y :: (Y1 ++ Q) := by simp
  have a3 : (P ++ Y0) ++ y :: (X1 ++ M ++ X0 ++ (y :: Y1 ++ Q)) = (P ++ Y0 ++ y :: X1 ++ M ++ X0) ++ y :: (Y1 ++ Q) := by simp
  refine ⟨x, y, ?_, ?_, ?_⟩
  · rw [a1]; exact get_at l1
  · rw [a2]
    refine get_at ?_
    simp only [List.length_append, List.length_cons, l2, l3] at *
    omega
  · rw [a1, set_at l1, a3, set_at (by simp only [List.length_append, List.length_cons, l2, l3] at *; omega)]
    simp
set_option maxRecDepth 10000 in
set_option maxHeartbeats 1000000 in
theorem swapRange_does (H : AHeap) (id ver : Nat) (hid : id < H.length) (g : FuncId) (caps : List AV) (P X M Y Q : List Val) (a b n m : Nat) (ha : P.length = a) (hn : X.length = n) (hy : Y.length = n) (hb : P.length + X.length + M.length = b)
    (hm : (P ++ X ++ M ++ Y ++ Q).length = m) (hbig : m ≤ 1000000000000) :
    Does Tryz.prog 103 [.sl id ver 0 m, iA a, iA b, iA n, .fn g caps] (aH H id ver (P ++ X ++ M ++ Y ++ Q)) (.ok (.tup [])) (aH H id ver (P ++ Y ++ M ++ X ++ Q)) := by
  have hml : P.length + X.length + M.length + Y.length + Q.length = m := by rw [← hm]; simp; omega
  generalize hE : aH H id ver (P ++ Y ++ M ++ X ++ Q) = E
  generalize hE0 : aH H id ver (P ++ X ++ M ++ Y ++ Q) = E0
  refine Does.of_awp (hint := (fun _ => false)) Tryz.func103 (by kernel_rfl) rfl [] (by kernel_rfl) (by decide) (by simp [Tryz.ntmps103]) ?_
  rw [Tryz.ntmps103]
  simp (implicitDefEqProofs := false) only [go_sem]
  refine awp_for3 (fun k s H' => H' = aH H id ver (swL P X M Y Q k) ∧ s 0 = .sl id ver 0 m ∧ s 1 = iA a ∧ s 2 = iA b ∧ s 3 = iA n ∧ s 10 = iA k) n (by omega) (Weak.refl _ _) ?_ ?_ ?_
  · refine ⟨by rw [swL_zero, hE0], ?_⟩
    simp (implicitDefEqProofs := false) only [↓reduceIte, go_sem, Nat.reduceLT, Nat.reduceEqDiff, reduceCtorEq, eq_self]
  · rintro k s H' hk hw ⟨rfl, t0, t1, t2, t3, t10⟩
    obtain ⟨x, y, hx, hy2, hst⟩ := swL_step P X M Y Q k (by omega) (by omega)
    rw [hb] at hy2 hst
    rw [ha] at hx hst
    obtain ⟨i, hi⟩ : ∃ i, i = a + k := ⟨_, rfl⟩
    obtain ⟨j, hj⟩ : ∃ j, j = b + k := ⟨_, rfl⟩
    have w1 : IntKind.i64.wrap ((a : Int) + (k : Int)) = (i : Int) := by rw [wrap64_in _ (by omega) (by omega)]; omega
    have w2 : IntKind.i64.wrap ((b : Int) + (k : Int)) = (j : Int) := by rw [wrap64_in _ (by omega) (by omega)]; omega
    rw [← hi] at hx hst
    rw [← hj] at hy2 hst
    have hil : i < m := by omega
    have hjl : j < m := by omega
    generalize swL P X M Y Q k = L at *
    generalize swL P X M Y Q (k + 1) = L' at *
    have gx := get_enc hx
    have gy := get_enc hy2
    have gh := aH_get hid ver L
    have s1 := set_enc L i y
    have s2 := set_enc (L.set i y) j x
    rw [hst] at s2
    have gy2 : ((L.set i y).map Val.enc)[j]? = some y.enc := by
      refine get_enc ?_
      rw [List.getElem?_set]
      by_cases hij : i = j
      · omega
      · rw [if_neg hij]; exact hy2
    simp only [Val.enc] at gx gy gy2 s1 s2
    simp (implicitDefEqProofs := false) only [↓reduceIte, go_sem, Nat.reduceLT, Nat.reduceEqDiff, eq_self, t3, t10, hk]
    refine awp_drawN [false, false, false, false, false, false, false, false, false, false, false, false, false, false, false, false, false, false, false, false, true, true, true, true] 20 K.mixed (by kernel_rfl) (by kernel_rfl) (by kernel_rfl) ?_
    simp (implicitDefEqProofs := false) only [↓reduceIte, go_sem, oread, owrite, Nat.reduceAdd, Nat.reduceLT, Nat.reduceEqDiff, reduceCtorEq, eq_self, t0, t1, t2, t10, w1, w2, hil, hjl, gh, gx, gy, aH_set, s1, s2, gy2, hid, List.getElem?_set_self, List.set_set]
    refine Rnd.same ⟨by rw [← aH_fold], ?_⟩
    simp (implicitDefEqProofs := false) only [↓reduceIte, go_sem, Nat.reduceLT, Nat.reduceEqDiff, reduceCtorEq, eq_self, t0, t1, t2, t3, hw]
  · rintro s H' ⟨rfl, t0, t1, t2, t3, t10⟩
    simp (implicitDefEqProofs := false) only [↓reduceIte, go_sem, Nat.reduceLT, Nat.reduceEqDiff, eq_self, t3, t10]
    rw [swL_end _ _ _ _ _ n hn hy, hE]
    exact ⟨_, Weak.refl _ _, rfl⟩
theorem swapRange_at (H : AHeap) (id ver : Nat) (hid : id < H.length) (g : FuncId) (caps : List AV) (P X M Y Q L L' : List Val) (a b n m : Nat) (hL : L = P ++ X ++ M ++ Y ++ Q) (hL' : L' = P ++ Y ++ M ++ X ++ Q) (ha : P.length = a) (hn : X.length = n) (hy : Y.length = n) (hb : P.length + X.length + M.length = b)
    (hm : L.length = m) (hbig : m ≤ 1000000000000) :
    Does Tryz.prog 103 [.sl id ver 0 m, iA a, iA b, iA n, .fn g caps] (aH H id ver L) (.ok (.tup [])) (aH H id ver L') := by
  subst hL hL'
  exact swapRange_does H id ver hid g caps P X M Y Q a b n m ha hn hy hb hm hbig
end SV
end Go.Proofs.YtkapgooedfompaaGreat
namespace Go.Proofs.YtkapgooedfompaaGreat
open Go.Proofs.YtkapgooedfompaaGreatAw Go.RowKit
set_option linter.unusedVariables false
set_option linter.unusedSimpArgs false
namespace SV
structure RotI where
  L : List Val
  P : List Val
  U : List Val
  V : List Val
  Q : List Val
set_option maxRecDepth 10000 in
set_option maxHeartbeats 1000000 in
theorem rotate_does (H : AHeap) (id ver : Nat) (hid : id < H.length) (g : FuncId) (caps : List AV) (P U V Q L T : List Val) (hL : L = P ++ U ++ V ++ Q) (hT : T = P ++ V ++ U ++ Q) (a m b n : Nat) (ha : P.length = a) (hm : P.length + U.length = m) (hb : P.length + U.length + V.length = b) (hU : 0 < U.length) (hV : 0 < V.length)
    (hn : L.length = n) (hbig : n ≤ 1000000000000) :
    Does Tryz.prog 102 [.sl id ver 0 n, iA a, iA m, iA b, .fn g caps] (aH H id ver L) (.ok (.tup [])) (aH H id ver T) := by
  have hnl : P.length + U.length + V.length + Q.length = n := by rw [← hn, hL]; simp; omega
  generalize hE0 : aH H id ver L = E0
  have w1 : IntKind.i64.wrap ((m : Int) - (a : Int)) = ((U.length : Nat) : Int) := by rw [wrap64_in _ (by omega) (by omega)]; omega
  have w2 : IntKind.i64.wrap ((b : Int) - (m : Int)) = ((V.length : Nat) : Int) := by rw [wrap64_in _ (by omega) (by omega)]; omega
  refine Does.of_awp (hint := (fun _ => false)) Tryz.func102 (by kernel_rfl) rfl [] (by kernel_rfl) (by decide) (by simp [Tryz.ntmps102]) ?_
  rw [Tryz.ntmps102]
  simp (implicitDefEqProofs := false) only [↓reduceIte, go_sem, Nat.reduceLT, Nat.reduceEqDiff, eq_self, w1, w2]
  refine awp_loop _ _ _ _ (fun (x : RotI) s H' => H' = aH H id ver x.L ∧ x.L = x.P ++ x.U ++ x.V ++ x.Q ∧ T = x.P ++ x.V ++ x.U ++ x.Q ∧ x.P.length + x.U.length = m ∧ 0 < x.U.length ∧ 0 < x.V.length ∧ x.L.length = n ∧
      s 0 = .sl id ver 0 n ∧ s 2 = iA m ∧ s 4 = .fn g caps ∧ s 10 = iA x.U.length ∧ s 11 = iA x.V.length) (fun x => x.U.length + x.V.length) ⟨L, P, U, V, Q⟩ (Weak.refl _ _) ?_ ?_
  · refine ⟨hE0.symm, hL, hT, hm, hU, hV, hn, ?_⟩
    simp (implicitDefEqProofs := false) only [↓reduceIte, go_sem, Nat.reduceLT, Nat.reduceEqDiff, reduceCtorEq, eq_self]
  · rintro ⟨L', P', U', V', Q'⟩ s H' ⟨rfl, hL', hT', hm', hU', hV', hn', t0, t2, t4, t10, t11⟩
    simp only at hL' hT' hm' hU' hV' hn' t0 t2 t4 t10 t11
    have hnl' : P'.length + U'.length + V'.length + Q'.length = n := by rw [← hn', hL']; simp; omega
    have w3 : IntKind.i64.wrap ((m : Int) - (U'.length : Int)) = ((P'.length : Nat) : Int) := by rw [wrap64_in _ (by omega) (by omega)]; omega
    by_cases hij : U'.length = V'.length
    · have hij' : (((U'.length : Nat) : Int) != ((V'.length : Nat) : Int)) = false := by simp [hij]
      simp (implicitDefEqProofs := false) only [↓reduceIte, go_sem, Nat.reduceLT, Nat.reduceEqDiff, reduceCtorEq, eq_self, t10, t11, hij']
      simp (implicitDefEqProofs := false) only [↓reduceIte, go_sem, Nat.reduceLT, Nat.reduceEqDiff, eq_self, t0, t2, t4, t10, w3]
      refine KCall.ok (swapRange_at H id ver hid g caps P' U' [] V' Q' L' T P'.length m U'.length n (by rw [hL']; simp) (by rw [hT']; simp) rfl rfl (by omega) (by simp; omega) hn' hbig) ?_
      simp (implicitDefEqProofs := false) only [go_sem]
      exact ⟨_, Weak.refl _ _, rfl⟩
    · have hij' : (((U'.length : Nat) : Int) != ((V'.length : Nat) : Int)) = true := by simp; omega
      by_cases hgt : V'.length < U'.length
      · have hgt' : (((V'.length : Nat) : Int) < ((U'.length : Nat) : Int)) = True := eq_true (by omega)
        have e1 : U'.take V'.length ++ U'.drop V'.length = U' := List.take_append_drop _ _
        have l1 : (U'.take V'.length).length = V'.length := by simp; omega
        have l2 : (U'.drop V'.length).length = U'.length - V'.length := by simp
        generalize U'.take V'.length = X at *
        generalize U'.drop V'.length = Y at *
        have e2 := congrArg List.length e1
        simp only [List.length_append] at e2
        have w4 : IntKind.i64.wrap (U'.length - (V'.length : Int)) = ((Y.length : Nat) : Int) := by rw [wrap64_in _ (by omega) (by omega)]; omega
        obtain ⟨L2, hL2⟩ : ∃ L2, L2 = P' ++ V' ++ Y ++ X ++ Q' := ⟨_, rfl⟩
        have hl2 : L2.length = n := by rw [hL2]; simp only [List.length_append] at *; omega
        simp (implicitDefEqProofs := false) only [↓reduceIte, go_sem, Nat.reduceLT, Nat.reduceEqDiff, reduceCtorEq, eq_self, t10, t11, hij', hgt']
        simp (implicitDefEqProofs := false) only [↓reduceIte, go_sem, Nat.reduceLT, Nat.reduceEqDiff, eq_self, t0, t2, t4, t11, w3]
        refine KCall.ok (swapRange_at H id ver hid g caps P' X Y V' Q' L' L2 P'.length m V'.length n (by rw [hL', ← e1]; simp) hL2 rfl l1 rfl (by omega) hn' hbig) ?_
        simp (implicitDefEqProofs := false) only [↓reduceIte, go_sem, Nat.reduceLT, Nat.reduceEqDiff, eq_self, t10, t11, w4]
        refine ⟨_, _, ⟨L2, P' ++ V', Y, X, Q'⟩, Weak.refl _ _, ⟨rfl, by rw [hL2]; simp, by rw [hT', ← e1]; simp, ?_, ?_, ?_, hl2, ?_⟩, ?_⟩
        · simp only [List.length_append]; omega
        · simp only; omega
        · simp only; omega
        · simp (implicitDefEqProofs := false) only [↓reduceIte, go_sem, Nat.reduceLT, Nat.reduceEqDiff, reduceCtorEq, eq_self, t0, t2, t4, t11, l1]
        · simp only; omega
      · have hgt' : (((V'.length : Nat) : Int) < ((U'.length : Nat) : Int)) = False := eq_false (by omega)
        have e1 : V'.take (V'.length - U'.length) ++ V'.drop (V'.length - U'.length) = V' := List.take_append_drop _ _
        have l1 : (V'.take (V'.length - U'.length)).length = V'.length - U'.length := by simp
        have l2 : (V'.drop (V'.length - U'.length)).length = U'.length := by simp; omega
        generalize V'.take (V'.length - U'.length) = Y at *
        generalize V'.drop (V'.length - U'.length) = Z at *
        have e2 := congrArg List.length e1
        simp only [List.length_append] at e2
        have w4 : IntKind.i64.wrap (V'.length - (U'.length : Int)) = ((Y.length : Nat) : Int) := by rw [wrap64_in _ (by omega) (by omega)]; omega
        have w5 : IntKind.i64.wrap ((m : Int) + (V'.length : Int)) = (m : Int) + (V'.length : Int) := by rw [wrap64_in _ (by omega) (by omega)]
        have w6 : IntKind.i64.wrap ((m : Int) + (V'.length : Int) - (U'.length : Int)) = ((m + Y.length : Nat) : Int) := by rw [wrap64_in _ (by omega) (by omega)]; omega
        obtain ⟨L2, hL2⟩ : ∃ L2, L2 = P' ++ Z ++ Y ++ U' ++ Q' := ⟨_, rfl⟩
        have hl2' : L2.length = n := by rw [hL2]; simp only [List.length_append] at *; omega
        simp (implicitDefEqProofs := false) only [↓reduceIte, go_sem, Nat.reduceLT, Nat.reduceEqDiff, reduceCtorEq, eq_self, t10, t11, hij', hgt']
        simp (implicitDefEqProofs := false) only [↓reduceIte, go_sem, Nat.reduceLT, Nat.reduceEqDiff, eq_self, t0, t2, t4, t10, t11, w3, w5, w6]
        refine KCall.ok (swapRange_at H id ver hid g caps P' U' Y Z Q' L' L2 P'.length (m + Y.length) U'.length n (by rw [hL', ← e1]; simp) hL2 rfl rfl l2 (by omega) hn' hbig) ?_
        simp (implicitDefEqProofs := false) only [↓reduceIte, go_sem, Nat.reduceLT, Nat.reduceEqDiff, eq_self, t10, t11, w4]
        refine ⟨_, _, ⟨L2, P', Z, Y, U' ++ Q'⟩, Weak.refl _ _, ⟨rfl, by rw [hL2]; simp, by rw [hT', ← e1]; simp, ?_, ?_, ?_, hl2', ?_⟩, ?_⟩
        · simp only; omega
        · simp only; omega
        · simp only; omega
        · simp (implicitDefEqProofs := false) only [↓reduceIte, go_sem, Nat.reduceLT, Nat.reduceEqDiff, reduceCtorEq, eq_self, t0, t2, t4, t10, l2]
        · simp only; omega
end SV
end Go.Proofs.YtkapgooedfompaaGreat
namespace Go.Proofs.YtkapgooedfompaaGreat
open Go.Proofs.YtkapgooedfompaaGreatAw Go.RowKit
set_option linter.unusedVariables false
set_option linter.unusedSimpArgs false
namespace SV
def ltC (c : Val → Val → Int) (x y : Val) : Bool := decide (c x y < 0)
/-- What a comparing function is asked for, whatever the array holds. -/
def CmpOk (g : FuncId) (caps : List AV) (c : Val → Val → Int) (H : AHeap) (id : Nat) : Prop := ∀ (o : AObj) (x y : Val), Does Tryz.prog g ([.agg (x.enc.map .d), .agg (y.enc.map .d)] ++ caps) (H.set id o) (.ok (iA (c x y))) (H.set id o)
theorem CmpOk.at {g : FuncId} {caps : List AV} {c : Val → Val → Int} {H : AHeap} {id : Nat} (h : CmpOk g caps c H id) (ver : Nat) (L : List Val) (x y : Val) : Does Tryz.prog g ([.agg (x.enc.map .d), .agg (y.enc.map .d)] ++ caps) (aH H id ver L) (.ok (iA (c x y))) (aH H id ver L) := h _ x y
structure InsI where
  L : List Val
  A : List Val
  B : List Val
set_option maxRecDepth 10000 in
set_option maxHeartbeats 2000000 in
theorem insSort_does (H : AHeap) (id ver : Nat) (hid : id < H.length) (g : FuncId) (caps : List AV) (c : Val → Val → Int) (ho : St.Ord (ltC c)) (hc : CmpOk g caps c H id) (P X Q L L' : List Val) (hL : L = P ++ X ++ Q) (hL' : L' = P ++ St.sortS (ltC c) X ++ Q) (a b n : Nat) (ha : P.length = a) (hb : P.length + X.length = b)
    (hn : L.length = n) (hbig : n ≤ 1000000000000) :
    Does Tryz.prog 94 [.sl id ver 0 n, iA a, iA b, .fn g caps] (aH H id ver L) (.ok (.tup [])) (aH H id ver L') := by
  have hnl : P.length + X.length + Q.length = n := by rw [← hn, hL]; simp; omega
  generalize hE0 : aH H id ver L = E0
  have w1 : IntKind.i64.wrap ((a : Int) + 1) = (a : Int) + 1 := wrap64_in _ (by omega) (by omega)
  refine Does.of_awp (hint := (fun _ => false)) Tryz.func94 (by kernel_rfl) rfl [] (by kernel_rfl) (by decide) (by simp [Tryz.ntmps94]) ?_
  rw [Tryz.ntmps94]
  simp (implicitDefEqProofs := false) only [↓reduceIte, go_sem, Nat.reduceLT, eq_self, w1]
  refine awp_for3 (fun k s H' => (∃ Lk, H' = aH H id ver Lk ∧ Lk = P ++ (St.sortS (ltC c) (X.take (k + 1)) ++ (X.drop (k + 1) ++ Q))) ∧ s 0 = .sl id ver 0 n ∧ s 1 = iA a ∧ s 2 = iA b ∧ s 3 = .fn g caps ∧ s 8 = iA ((a : Int) + 1 + (k : Int))) (X.length - 1) (by omega) (Weak.refl _ _) ?_ ?_ ?_
  · refine ⟨⟨L, hE0.symm, ?_⟩, ?_⟩
    · have : St.sortS (ltC c) (X.take 1) = X.take 1 := by cases X <;> rfl
      rw [hL, this, ← List.append_assoc (X.take 1), List.take_append_drop, List.append_assoc]
    · simp (implicitDefEqProofs := false) only [↓reduceIte, go_sem, Nat.reduceLT, Nat.reduceEqDiff, reduceCtorEq, eq_self, Int.add_zero]
  · rintro k s H' hk hw ⟨⟨Lk, rfl, hLk⟩, t0, t1, t2, t3, t8⟩
    have hkx : k + 1 < X.length := by omega
    have e1 : X.drop (k + 1) = X[k + 1] :: X.drop (k + 1 + 1) := List.drop_eq_getElem_cons hkx
    have e2 : X.take (k + 1 + 1) = X.take (k + 1) ++ [X[k + 1]] := List.take_succ_eq_append_getElem hkx
    have hSl := St.sortS_len (lt := ltC c) (X.take (k + 1))
    have hXl : (X.take (k + 1)).length = k + 1 := by simp; omega
    have hRl : (X.drop (k + 1 + 1)).length = X.length - (k + 2) := by simp
    rw [e1] at hLk
    rw [e2]
    have hlt : ((a : Int) + 1 + (k : Int) < (b : Int)) = True := eq_true (by omega)
    have hss := St.sortS_sorted ho (X.take (k + 1))
    generalize X[k + 1] = x at *
    generalize X.drop (k + 1 + 1) = R0 at *
    generalize X.take (k + 1) = X0 at *
    generalize hS : St.sortS (ltC c) X0 = S at *
    simp (implicitDefEqProofs := false) only [↓reduceIte, go_sem, Nat.reduceLT, Nat.reduceEqDiff, eq_self, t2, t8, hlt]
    refine awp_loop _ _ _ _ (fun (z : InsI) s H' => H' = aH H id ver z.L ∧ z.L = P ++ z.A ++ x :: (z.B ++ (R0 ++ Q)) ∧ z.A ++ z.B = S ∧ (∀ y ∈ z.B, ltC c x y = true) ∧ s 0 = .sl id ver 0 n ∧ s 1 = iA a ∧ s 2 = iA b ∧ s 3 = .fn g caps ∧ s 8 = iA ((a : Int) + 1 + (k : Int)) ∧ s 9 = iA ((a + z.A.length : Nat) : Int)) (fun z => z.A.length) ⟨Lk, S, []⟩ (Weak.refl _ _) ?_ ?_
    · refine ⟨rfl, by rw [hLk]; simp, by simp, by simp, ?_⟩
      simp (implicitDefEqProofs := false) only [↓reduceIte, go_sem, Nat.reduceLT, Nat.reduceEqDiff, reduceCtorEq, eq_self, t0, t1, t2, t3, t8, show ((a : Int) + 1 + (k : Int)) = ((a + S.length : Nat) : Int) by omega]
    · rintro ⟨L1, A, B⟩ s H' ⟨rfl, hL1, hAB, hB, t0, t1, t2, t3, t8, t9⟩
      simp only at hL1 hAB hB t0 t1 t2 t3 t8 t9
      have hABl : A.length + B.length = k + 1 := by rw [← List.length_append, hAB, hSl, hXl]
      have hL1n : L1.length = n := by rw [hL1]; simp; omega
      have fin : (∀ y ∈ A, ltC c x y = false) → L1 = P ++ (St.sortS (ltC c) (X0 ++ [x]) ++ (R0 ++ Q)) := fun hA => by
        rw [hL1, ← St.insert_eq ho (hAB.trans hS.symm) hB hA]; simp
      obtain ⟨j, hj⟩ : ∃ j, j = a + A.length := ⟨_, rfl⟩
      rw [← hj] at t9
      have hw8 : IntKind.i64.wrap ((a : Int) + 1 + (k : Int) + 1) = (a : Int) + 1 + ((k : Int) + 1) := by rw [wrap64_in _ (by omega) (by omega)]; omega
      rcases List.eq_nil_or_concat A with rfl | ⟨A', z, rfl⟩
      · have hja : ((a : Int) < (j : Int)) = False := eq_false (by simp at hj; omega)
        simp (implicitDefEqProofs := false) only [go_sem]
        refine awp_draw K.mixed (by kernel_rfl) ?_
        simp (implicitDefEqProofs := false) only [↓reduceIte, go_sem, Nat.reduceLT, Nat.reduceEqDiff, reduceCtorEq, eq_self, t1, t9, hja, t8, hw8]
        refine Rnd.same ⟨⟨L1, rfl, fin (by simp)⟩, ?_⟩
        simp (implicitDefEqProofs := false) only [↓reduceIte, go_sem, Nat.reduceLT, Nat.reduceEqDiff, reduceCtorEq, eq_self, t0, t1, t2, t3]
      · simp only [List.concat_eq_append, List.length_append, List.length_singleton] at hL1 hAB hj hABl fin
        have hja : ((a : Int) < (j : Int)) = True := eq_true (by omega)
        obtain ⟨i, hi⟩ : ∃ i, i = a + A'.length := ⟨_, rfl⟩
        have hw9 : IntKind.i64.wrap ((j : Int) - 1) = (i : Int) := by rw [wrap64_in _ (by omega) (by omega)]; omega
        have hL1' : L1 = (P ++ A') ++ z :: (x :: (B ++ (R0 ++ Q))) := by rw [hL1]; simp
        have hL1'' : L1 = (P ++ A' ++ [z]) ++ x :: (B ++ (R0 ++ Q)) := by rw [hL1]; simp
        have gz : L1[i]? = some z := by rw [hL1']; exact get_at (by simp; omega)
        have gx : L1[j]? = some x := by rw [hL1'']; exact get_at (by simp; omega)
        have il : i < n := by omega
        have jl : j < n := by omega
        have st : (L1.set j z).set i x = P ++ A' ++ x :: (z :: B ++ (R0 ++ Q)) := by
          rw [hL1'', set_at (by simp; omega)]
          have : P ++ A' ++ [z] ++ z :: (B ++ (R0 ++ Q)) = (P ++ A') ++ z :: (z :: (B ++ (R0 ++ Q))) := by simp
          rw [this, set_at (by simp; omega)]
          simp
        have gz' := get_enc gz
        have gx' := get_enc gx
        have gz2 : ((L1.set j z).map Val.enc)[i]? = some z.enc := by
          refine get_enc ?_
          rw [List.getElem?_set, if_neg (by omega)]; exact gz
        have s1 := set_enc L1 j z
        have s2 := set_enc (L1.set j z) i x
        rw [st] at s2
        have gh := aH_get hid ver L1
        have hd := hc.at ver L1 x z
        simp only [Val.enc] at gz' gx' gz2 s1 s2
        simp only [Val.enc, List.map_cons, List.map_nil] at hd
        simp (implicitDefEqProofs := false) only [go_sem]
        refine awp_draw K.mixed (by kernel_rfl) ?_
        simp (implicitDefEqProofs := false) only [↓reduceIte, go_sem, oread, Nat.reduceAdd, Nat.reduceLT, Nat.reduceEqDiff, reduceCtorEq, eq_self, t0, t1, t3, t9, hja, hw9, il, jl, gh, gz', gx']
        refine KCall.ok hd ?_
        by_cases hlt2 : c x z < 0
        · have hltb : ltC c x z = true := by simp [ltC, hlt2]
          simp (implicitDefEqProofs := false) only [↓reduceIte, go_sem, Nat.reduceLT, Nat.reduceEqDiff, eq_self, hlt2]
          refine awp_drawN [false, false, false, false, false, false, false, false, false, false, false, false, false, false, true, true, true, true] 14 K.mixed (by kernel_rfl) (by kernel_rfl) (by kernel_rfl) ?_
          simp (implicitDefEqProofs := false) only [↓reduceIte, go_sem, oread, owrite, Nat.reduceAdd, Nat.reduceLT, Nat.reduceEqDiff, reduceCtorEq, eq_self, t0, t9, hw9, il, jl, gh, gz', gx', aH_set, s1, gz2, s2, hid, List.getElem?_set_self, List.set_set]
          refine ⟨_, _, ⟨_, A', z :: B⟩, Weak.refl _ _, ⟨by rw [← aH_fold], rfl, by rw [← hAB]; simp, ?_, ?_⟩, by simp⟩
          · intro y hy
            rcases List.mem_cons.1 hy with rfl | hy
            · exact hltb
            · exact hB y hy
          · simp (implicitDefEqProofs := false) only [↓reduceIte, go_sem, Nat.reduceLT, Nat.reduceEqDiff, reduceCtorEq, eq_self, t0, t1, t2, t3, t8, show ((a : Int) + (A'.length : Int)) = (i : Int) by omega]
        · have hltb : ltC c x z = false := by simp [ltC, hlt2]
          have hAx : ∀ y ∈ A' ++ [z], ltC c x y = false := by
            intro y hy
            have hso := hss
            rw [← hAB] at hso
            rcases List.mem_append.1 hy with hy | hy
            · exact ho.le_trans (hso.left.cross y hy z (by simp)) hltb
            · simp at hy; rw [hy]; exact hltb
          simp (implicitDefEqProofs := false) only [↓reduceIte, go_sem, Nat.reduceLT, Nat.reduceEqDiff, eq_self, hlt2, t8, hw8]
          refine Rnd.same ⟨⟨L1, rfl, fin hAx⟩, ?_⟩
          simp (implicitDefEqProofs := false) only [↓reduceIte, go_sem, Nat.reduceLT, Nat.reduceEqDiff, reduceCtorEq, eq_self, t0, t1, t2, t3]
  · rintro s H' ⟨⟨Lk, rfl, hLk⟩, t0, t1, t2, t3, t8⟩
    have hlt : ((a : Int) + 1 + ((X.length - 1 : Nat) : Int) < (b : Int)) = False := eq_false (by omega)
    simp (implicitDefEqProofs := false) only [↓reduceIte, go_sem, Nat.reduceLT, Nat.reduceEqDiff, eq_self, t2, t8, hlt]
    have : Lk = L' := by
      rw [hLk, hL', List.take_of_length_le (by omega), List.drop_of_length_le (by omega)]; simp
    rw [this]
    exact ⟨_, Weak.refl _ _, rfl⟩
end SV
end Go.Proofs.YtkapgooedfompaaGreat
namespace Go.Proofs.YtkapgooedfompaaGreat
open Go.Proofs.YtkapgooedfompaaGreatAw Go.RowKit
set_option linter.unusedVariables false
set_option linter.unusedSimpArgs false
namespace SV
theorem half_eq (n : Nat) (h : n ≤ 2000000000000) : IntKind.i64.wrap (shrI .u64 (IntKind.u64.wrap (n : Int)) 1) = ((n / 2 : Nat) : Int) := by
  rw [wrapU64N n (by omega)]
  have := shrU n 1 (by decide)
  rw [show ((1 : Nat) : Int) = 1 from rfl] at this
  rw [this]
  exact wrapI _ (by omega)
theorem swap_next {L P R : List Val} {x y : Val} (h : L = P ++ x :: y :: R) {i : Nat} (hi : P.length = i) : L[i]? = some x ∧ L[i + 1]? = some y ∧ (L.set i y)[i + 1]? = some y ∧ (L.set (i + 1) x)[i]? = some x ∧ (L.set i y).set (i + 1) x = P ++ y :: x :: R ∧ (L.set (i + 1) x).set i y = P ++ y :: x :: R := by
  subst h hi
  have e : P ++ x :: y :: R = (P ++ [x]) ++ y :: R := by simp
  have e2 : ∀ z : Val, P ++ z :: y :: R = (P ++ [z]) ++ y :: R := by simp
  have h1 : ∀ z : Val, (P ++ [z]).length = P.length + 1 := by simp
  refine ⟨get_at rfl, by rw [e]; exact get_at (h1 x), ?_, ?_, ?_, ?_⟩
  · rw [set_at rfl, e2]; exact get_at (h1 y)
  · rw [e, set_at (h1 x)]
    have : P ++ [x] ++ x :: R = P ++ x :: (x :: R) := by simp
    rw [this]; exact get_at rfl
  · rw [set_at rfl, e2, set_at (h1 y)]; simp
  · rw [e, set_at (h1 x)]
    have : P ++ [x] ++ x :: R = P ++ x :: (x :: R) := by simp
    rw [this, set_at rfl]
theorem memX {P X Y Q L : List Val} {a : Nat} (hL : L = P ++ X ++ Y ++ Q) (ha : P.length = a) : ∀ i x, X[i]? = some x → L[a + i]? = some x := fun i x hx => by
  have := (List.getElem?_eq_some_iff.1 hx).1
  rw [hL, List.append_assoc, List.append_assoc, ← ha, List.getElem?_append_right (by omega), List.getElem?_append_left (by omega), Nat.add_sub_cancel_left]
  exact hx
theorem memY {P X Y Q L : List Val} {m : Nat} (hL : L = P ++ X ++ Y ++ Q) (hm : P.length + X.length = m) : ∀ i y, Y[i]? = some y → L[m + i]? = some y := fun i y hy => by
  have := (List.getElem?_eq_some_iff.1 hy).1
  rw [hL, List.append_assoc (P ++ X), ← hm, List.getElem?_append_right (by simp), List.getElem?_append_left (by simp; omega)]
  simpa [Nat.add_sub_cancel_left] using hy
set_option maxRecDepth 10000 in
set_option maxHeartbeats 4000000 in
theorem sym1_does (H : AHeap) (id ver : Nat) (hid : id < H.length) (g : FuncId) (caps : List AV) (c : Val → Val → Int) (ho : St.Ord (ltC c)) (hc : CmpOk g caps c H id) (n : Nat) (hbig : n ≤ 1000000000000) (P X Y Q L L' : List Val) (a m b : Nat)
    (hL : L = P ++ X ++ Y ++ Q) (hL' : L' = P ++ St.sortS (ltC c) (X ++ Y) ++ Q) (ha : P.length = a) (hm : P.length + X.length = m) (hb : P.length + X.length + Y.length = b) (hX0 : 0 < X.length) (hY0 : 0 < Y.length) (hX : St.Sorted (ltC c) X) (hY : St.Sorted (ltC c) Y) (hn : L.length = n) (h1 : X.length = 1) :
    Does Tryz.prog 95 [.sl id ver 0 n, iA a, iA m, iA b, .fn g caps] (aH H id ver L) (.ok (.tup [])) (aH H id ver L') := by
  have hnl : P.length + X.length + Y.length + Q.length = n := by rw [← hn, hL]; simp; omega
  have w1 : IntKind.i64.wrap ((m : Int) - (a : Int)) = ((X.length : Nat) : Int) := by rw [wrap64_in _ (by omega) (by omega)]; omega
  have w2 : IntKind.i64.wrap ((b : Int) - (m : Int)) = ((Y.length : Nat) : Int) := by rw [wrap64_in _ (by omega) (by omega)]; omega
  have hLX := memX hL ha
  have hLY := memY hL hm
  generalize hE0 : aH H id ver L = E0
  have gh := aH_get hid ver L
  rw [hE0] at gh
  have hcE : ∀ x y : Val, Does Tryz.prog g ([.agg (x.enc.map .d), .agg (y.enc.map .d)] ++ caps) E0 (.ok (iA (c x y))) E0 := fun x y => by rw [← hE0]; exact hc.at ver L x y
  refine Does.of_awp (hint := (fun _ => false)) Tryz.func95 (by kernel_rfl) rfl [] (by kernel_rfl) (by decide) (by simp [Tryz.ntmps95]) ?_
  rw [Tryz.ntmps95]
  obtain ⟨x, rfl⟩ : ∃ x, X = [x] := List.length_eq_one_iff.1 h1
  simp (implicitDefEqProofs := false) only [↓reduceIte, go_sem, Nat.reduceLT, Nat.reduceEqDiff, eq_self, w1, h1]
  refine awp_loop _ _ _ _ (fun (z : Nat × Nat) s H' => H' = E0 ∧ z.1 ≤ z.2 ∧ z.2 ≤ Y.length ∧ (z.1 = 0 ∨ ∃ y, Y[z.1 - 1]? = some y ∧ ltC c y x = true) ∧ (z.2 = Y.length ∨ ∃ y, Y[z.2]? = some y ∧ ltC c y x = false) ∧
    s 0 = .sl id ver 0 n ∧ s 1 = iA a ∧ s 4 = .fn g caps ∧ s 10 = iA ((m + z.1 : Nat) : Int) ∧ s 11 = iA ((m + z.2 : Nat) : Int)) (fun z => z.2 - z.1) (0, Y.length) (Weak.refl _ _) ?_ ?_
  · refine ⟨rfl, Nat.zero_le _, Nat.le_refl _, .inl rfl, .inl rfl, ?_⟩
    simp (implicitDefEqProofs := false) only [↓reduceIte, go_sem, Nat.reduceLT, Nat.reduceEqDiff, reduceCtorEq, eq_self, show m + Y.length = b by omega, Nat.add_zero]
  · rintro ⟨i, j⟩ s H' ⟨rfl, hij, hj, hlo, hhi, t0, t1, t4, t10, t11⟩
    simp only at hij hj hlo hhi t10 t11
    obtain ⟨i', hi'⟩ : ∃ i', i' = m + i := ⟨_, rfl⟩
    obtain ⟨j', hj'⟩ : ∃ j', j' = m + j := ⟨_, rfl⟩
    rw [← hi'] at t10
    rw [← hj'] at t11
    have f1 : ((m : Int) + (i : Int)) = (i' : Int) := by omega
    have f2 : ((m : Int) + (j : Int)) = (j' : Int) := by omega
    by_cases hlt : i < j
    · obtain ⟨q, hq⟩ : ∃ q, q = i' + j' := ⟨_, rfl⟩
      have w3 : IntKind.i64.wrap ((i' : Int) + (j' : Int)) = (q : Int) := by rw [wrap64_in _ (by omega) (by omega)]; omega
      have w4 := half_eq q (by omega)
      obtain ⟨h, hh⟩ : ∃ h, h = q / 2 := ⟨_, rfl⟩
      rw [← hh] at w4
      obtain ⟨y, hy⟩ : ∃ y, Y[h - m]? = some y := ⟨_, List.getElem?_eq_getElem (show h - m < Y.length by omega)⟩
      have gy := get_enc (hLY _ _ hy)
      rw [show m + (h - m) = h by omega] at gy
      have gx := get_enc (hLX 0 x rfl)
      rw [Nat.add_zero] at gx
      have hd := hcE y x
      simp only [Val.enc] at gx gy
      simp only [Val.enc, List.map_cons, List.map_nil] at hd
      have hln : h < n := by omega
      have han : a < n := by omega
      simp (implicitDefEqProofs := false) only [↓reduceIte, go_sem, Nat.reduceLT, Nat.reduceEqDiff, Int.reduceLE, eq_self, t10, t11, show ((i' : Int) < (j' : Int)) = True from eq_true (by omega), w3, w4]
      refine awp_draw K.mixed (by kernel_rfl) ?_
      simp (implicitDefEqProofs := false) only [↓reduceIte, go_sem, oread, Nat.reduceAdd, Nat.reduceLT, Nat.reduceEqDiff, reduceCtorEq, eq_self, t0, t1, t4, gh, gx, gy, hln, han]
      refine KCall.ok hd ?_
      by_cases hcc : c y x < 0
      · have hw5 : IntKind.i64.wrap ((h : Int) + 1) = ((m + (h - m + 1) : Nat) : Int) := by rw [wrap64_in _ (by omega) (by omega)]; omega
        obtain ⟨h2, hh2⟩ : ∃ h2, h2 = m + (h - m + 1) := ⟨_, rfl⟩
        rw [← hh2] at hw5
        simp (implicitDefEqProofs := false) only [↓reduceIte, go_sem, Nat.reduceLT, Nat.reduceEqDiff, eq_self, hcc, hw5]
        refine ⟨_, _, (h - m + 1, j), Weak.refl _ _, ⟨rfl, by simp only; omega, hj, .inr ⟨y, by simpa using hy, by simp [ltC, hcc]⟩, hhi, ?_⟩, by simp only; omega⟩
        simp (implicitDefEqProofs := false) only [↓reduceIte, go_sem, Nat.reduceLT, Nat.reduceEqDiff, reduceCtorEq, eq_self, t0, t1, t4, t11, show ((m : Int) + (((h - m : Nat) : Int) + 1)) = (h2 : Int) by omega, f2]
      · simp (implicitDefEqProofs := false) only [↓reduceIte, go_sem, Nat.reduceLT, Nat.reduceEqDiff, eq_self, hcc]
        refine ⟨_, _, (i, h - m), Weak.refl _ _, ⟨rfl, by simp only; omega, by simp only; omega, hlo, .inr ⟨y, hy, by simp [ltC, hcc]⟩, ?_⟩, by simp only; omega⟩
        simp (implicitDefEqProofs := false) only [↓reduceIte, go_sem, Nat.reduceLT, Nat.reduceEqDiff, reduceCtorEq, eq_self, t0, t1, t4, t10, show ((m : Int) + ((h - m : Nat) : Int)) = (h : Int) by omega, f1]
    · obtain rfl : j = i := by omega
      have hmg := St.merge_one ho hY hj hlo hhi
      have hw6 : IntKind.i64.wrap ((i' : Int) - 1) = (i' : Int) - 1 := wrap64_in _ (by omega) (by omega)
      simp (implicitDefEqProofs := false) only [↓reduceIte, go_sem, Nat.reduceLT, Nat.reduceEqDiff, eq_self, t10, t11, show ((i' : Int) < (j' : Int)) = False from eq_false (by omega), t1]
      refine awp_for3 (fun k s H' => (∃ Lk, H' = aH H id ver Lk ∧ Lk = P ++ Y.take k ++ x :: (Y.drop k ++ Q)) ∧ s 0 = .sl id ver 0 n ∧ s 10 = iA i' ∧ s 13 = iA ((a : Int) + (k : Int))) j (by omega) (Weak.refl _ _) ?_ ?_ ?_
      · refine ⟨⟨L, hE0.symm, by rw [hL]; simp⟩, ?_⟩
        simp (implicitDefEqProofs := false) only [↓reduceIte, go_sem, Nat.reduceLT, Nat.reduceEqDiff, reduceCtorEq, eq_self, t0, t10, Int.add_zero]
      · rintro k s H' hk hw ⟨⟨Lk, rfl, hLk⟩, t0, t10, t13⟩
        have hkY : k < Y.length := by omega
        have e1 : Y.drop k = Y[k] :: Y.drop (k + 1) := List.drop_eq_getElem_cons hkY
        have e2 : Y.take (k + 1) = Y.take k ++ [Y[k]] := List.take_succ_eq_append_getElem hkY
        rw [e1] at hLk
        rw [e2]
        have l1 : (P ++ Y.take k).length = a + k := by simp; omega
        generalize Y[k] = y at *
        generalize Y.drop (k + 1) = Y1 at *
        generalize Y.take k = Y0 at *
        obtain ⟨u, hu⟩ : ∃ u, u = a + k := ⟨_, rfl⟩
        obtain ⟨v, hv⟩ : ∃ v, v = u + 1 := ⟨_, rfl⟩
        rw [← hu] at l1
        obtain ⟨g1, g2, g3, _, g5, _⟩ := swap_next (L := Lk) (P := P ++ Y0) (x := x) (y := y) (R := Y1 ++ Q) (by rw [hLk]; simp) l1
        rw [← hv] at g2 g3 g5
        have f3 : ((a : Int) + (k : Int)) = (u : Int) := by omega
        have hw7 : IntKind.i64.wrap ((u : Int) + 1) = (v : Int) := by rw [wrap64_in _ (by omega) (by omega)]; omega
        rw [f3] at t13
        have gg := aH_get hid ver Lk
        have q1 := get_enc g1
        have q2 := get_enc g2
        have q3 := get_enc g3
        have s1 := set_enc Lk u y
        have s2 := set_enc (Lk.set u y) v x
        rw [g5] at s2
        have hun : u < n := by omega
        have hvn : v < n := by omega
        simp only [Val.enc] at q1 q2 q3 s1 s2
        simp (implicitDefEqProofs := false) only [↓reduceIte, go_sem, Nat.reduceLT, Nat.reduceEqDiff, eq_self, t10, t13, hw6, show ((u : Int) < (i' : Int) - 1) = True from eq_true (by omega)]
        refine awp_drawN [false, false, false, false, false, false, false, false, false, false, false, false, false, false, true, true, true, true] 14 K.mixed (by kernel_rfl) (by kernel_rfl) (by kernel_rfl) ?_
        simp (implicitDefEqProofs := false) only [↓reduceIte, go_sem, oread, owrite, Nat.reduceAdd, Nat.reduceLT, Nat.reduceEqDiff, reduceCtorEq, eq_self, t0, t13, hw7, hun, hvn, gg, q1, q2, q3, s1, s2, aH_set, hid, List.getElem?_set_self, List.set_set]
        refine Rnd.same ⟨⟨_, by rw [← aH_fold], by simp⟩, ?_⟩
        simp (implicitDefEqProofs := false) only [↓reduceIte, go_sem, Nat.reduceLT, Nat.reduceEqDiff, reduceCtorEq, eq_self, t0, t10, show ((a : Int) + ((k : Int) + 1)) = (v : Int) by omega]
      · rintro s H' ⟨⟨Lk, rfl, hLk⟩, t0, t10, t13⟩
        simp (implicitDefEqProofs := false) only [↓reduceIte, go_sem, Nat.reduceLT, Nat.reduceEqDiff, eq_self, t10, t13, hw6, show ((a : Int) + (j : Int) < (i' : Int) - 1) = False from eq_false (by omega)]
        have : Lk = L' := by rw [hLk, hL', List.singleton_append, ← hmg]; simp
        rw [this]
        exact ⟨_, Weak.refl _ _, rfl⟩
set_option maxRecDepth 10000 in
set_option maxHeartbeats 4000000 in
theorem sym2_does (H : AHeap) (id ver : Nat) (hid : id < H.length) (g : FuncId) (caps : List AV) (c : Val → Val → Int) (ho : St.Ord (ltC c)) (hc : CmpOk g caps c H id) (n : Nat) (hbig : n ≤ 1000000000000) (P X Y Q L L' : List Val) (a m b : Nat)
    (hL : L = P ++ X ++ Y ++ Q) (hL' : L' = P ++ St.sortS (ltC c) (X ++ Y) ++ Q) (ha : P.length = a) (hm : P.length + X.length = m) (hb : P.length + X.length + Y.length = b) (hX0 : 0 < X.length) (hY0 : 0 < Y.length) (hX : St.Sorted (ltC c) X) (hY : St.Sorted (ltC c) Y) (hn : L.length = n) (h1 : ¬ X.length = 1) (h2 : Y.length = 1) :
    Does Tryz.prog 95 [.sl id ver 0 n, iA a, iA m, iA b, .fn g caps] (aH H id ver L) (.ok (.tup [])) (aH H id ver L') := by
  have hnl : P.length + X.length + Y.length + Q.length = n := by rw [← hn, hL]; simp; omega
  have w1 : IntKind.i64.wrap ((m : Int) - (a : Int)) = ((X.length : Nat) : Int) := by rw [wrap64_in _ (by omega) (by omega)]; omega
  have w2 : IntKind.i64.wrap ((b : Int) - (m : Int)) = ((Y.length : Nat) : Int) := by rw [wrap64_in _ (by omega) (by omega)]; omega
  have hLX := memX hL ha
  have hLY := memY hL hm
  generalize hE0 : aH H id ver L = E0
  have gh := aH_get hid ver L
  rw [hE0] at gh
  have hcE : ∀ x y : Val, Does Tryz.prog g ([.agg (x.enc.map .d), .agg (y.enc.map .d)] ++ caps) E0 (.ok (iA (c x y))) E0 := fun x y => by rw [← hE0]; exact hc.at ver L x y
  refine Does.of_awp (hint := (fun _ => false)) Tryz.func95 (by kernel_rfl) rfl [] (by kernel_rfl) (by decide) (by simp [Tryz.ntmps95]) ?_
  rw [Tryz.ntmps95]
  obtain ⟨y, rfl⟩ : ∃ y, Y = [y] := List.length_eq_one_iff.1 h2
  simp (implicitDefEqProofs := false) only [↓reduceIte, go_sem, Nat.reduceLT, Nat.reduceEqDiff, eq_self, w1, w2, show (((X.length : Nat) : Int) = 1) = False from eq_false (by omega), h2]
  refine awp_loop _ _ _ _ (fun (z : Nat × Nat) s H' => H' = E0 ∧ z.1 ≤ z.2 ∧ z.2 ≤ X.length ∧ (z.1 = 0 ∨ ∃ x, X[z.1 - 1]? = some x ∧ ltC c y x = false) ∧ (z.2 = X.length ∨ ∃ x, X[z.2]? = some x ∧ ltC c y x = true) ∧
    s 0 = .sl id ver 0 n ∧ s 2 = iA m ∧ s 4 = .fn g caps ∧ s 14 = iA ((a + z.1 : Nat) : Int) ∧ s 15 = iA ((a + z.2 : Nat) : Int)) (fun z => z.2 - z.1) (0, X.length) (Weak.refl _ _) ?_ ?_
  · refine ⟨rfl, Nat.zero_le _, Nat.le_refl _, .inl rfl, .inl rfl, ?_⟩
    simp (implicitDefEqProofs := false) only [↓reduceIte, go_sem, Nat.reduceLT, Nat.reduceEqDiff, reduceCtorEq, eq_self, show ((a : Int) + ((X.length : Nat) : Int)) = (m : Int) by omega, Nat.add_zero]
  · rintro ⟨i, j⟩ s H' ⟨rfl, hij, hj, hlo, hhi, t0, t2, t4, t14, t15⟩
    simp only at hij hj hlo hhi t14 t15
    obtain ⟨i', hi'⟩ : ∃ i', i' = a + i := ⟨_, rfl⟩
    obtain ⟨j', hj'⟩ : ∃ j', j' = a + j := ⟨_, rfl⟩
    rw [← hi'] at t14
    rw [← hj'] at t15
    have f1 : ((a : Int) + (i : Int)) = (i' : Int) := by omega
    have f2 : ((a : Int) + (j : Int)) = (j' : Int) := by omega
    by_cases hlt : i < j
    · obtain ⟨q, hq⟩ : ∃ q, q = i' + j' := ⟨_, rfl⟩
      have w3 : IntKind.i64.wrap ((i' : Int) + (j' : Int)) = (q : Int) := by rw [wrap64_in _ (by omega) (by omega)]; omega
      have w4 := half_eq q (by omega)
      obtain ⟨h, hh⟩ : ∃ h, h = q / 2 := ⟨_, rfl⟩
      rw [← hh] at w4
      obtain ⟨x, hx⟩ : ∃ x, X[h - a]? = some x := ⟨_, List.getElem?_eq_getElem (show h - a < X.length by omega)⟩
      have gx := get_enc (hLX _ _ hx)
      rw [show a + (h - a) = h by omega] at gx
      have gy := get_enc (hLY 0 y rfl)
      rw [Nat.add_zero] at gy
      have hd := hcE y x
      simp only [Val.enc] at gx gy
      simp only [Val.enc, List.map_cons, List.map_nil] at hd
      have hln : h < n := by omega
      have hmn : m < n := by omega
      simp (implicitDefEqProofs := false) only [↓reduceIte, go_sem, Nat.reduceLT, Nat.reduceEqDiff, Int.reduceLE, eq_self, t14, t15, show ((i' : Int) < (j' : Int)) = True from eq_true (by omega), w3, w4]
      refine awp_draw K.mixed (by kernel_rfl) ?_
      simp (implicitDefEqProofs := false) only [↓reduceIte, go_sem, oread, Nat.reduceAdd, Nat.reduceLT, Nat.reduceEqDiff, reduceCtorEq, eq_self, t0, t2, t4, gh, gx, gy, hln, hmn]
      refine KCall.ok hd ?_
      by_cases hcc : c y x < 0
      · simp (implicitDefEqProofs := false) only [↓reduceIte, go_sem, Nat.reduceLT, Nat.reduceEqDiff, eq_self, hcc]
        refine ⟨_, _, (i, h - a), Weak.refl _ _, ⟨rfl, by simp only; omega, by simp only; omega, hlo, .inr ⟨x, hx, by simp [ltC, hcc]⟩, ?_⟩, by simp only; omega⟩
        simp (implicitDefEqProofs := false) only [↓reduceIte, go_sem, Nat.reduceLT, Nat.reduceEqDiff, reduceCtorEq, eq_self, t0, t2, t4, t14, show ((a : Int) + ((h - a : Nat) : Int)) = (h : Int) by omega, f1]
      · have hw5 : IntKind.i64.wrap ((h : Int) + 1) = ((a + (h - a + 1) : Nat) : Int) := by rw [wrap64_in _ (by omega) (by omega)]; omega
        obtain ⟨h2, hh2⟩ : ∃ h2, h2 = a + (h - a + 1) := ⟨_, rfl⟩
        rw [← hh2] at hw5
        simp (implicitDefEqProofs := false) only [↓reduceIte, go_sem, Nat.reduceLT, Nat.reduceEqDiff, eq_self, hcc, hw5]
        refine ⟨_, _, (h - a + 1, j), Weak.refl _ _, ⟨rfl, by simp only; omega, hj, .inr ⟨x, by simpa using hx, by simp [ltC, hcc]⟩, hhi, ?_⟩, by simp only; omega⟩
        simp (implicitDefEqProofs := false) only [↓reduceIte, go_sem, Nat.reduceLT, Nat.reduceEqDiff, reduceCtorEq, eq_self, t0, t2, t4, t15, show ((a : Int) + (((h - a : Nat) : Int) + 1)) = (h2 : Int) by omega, f2]
    · obtain rfl : j = i := by omega
      have hmg := St.merge_last ho hX hj hhi hlo
      simp (implicitDefEqProofs := false) only [↓reduceIte, go_sem, Nat.reduceLT, Nat.reduceEqDiff, eq_self, t14, t15, show ((i' : Int) < (j' : Int)) = False from eq_false (by omega), t2]
      refine awp_loop _ _ _ _ (fun (k : Nat) s H' => k ≤ X.length - j ∧ (∃ Lk, H' = aH H id ver Lk ∧ Lk = P ++ X.take (j + k) ++ y :: (X.drop (j + k) ++ Q)) ∧ s 0 = .sl id ver 0 n ∧ s 14 = iA i' ∧ s 17 = iA ((i' : Int) + (k : Int))) (fun k => k) (X.length - j) (Weak.refl _ _) ?_ ?_
      · refine ⟨Nat.le_refl _, ⟨L, hE0.symm, ?_⟩, ?_⟩
        · rw [show j + (X.length - j) = X.length by omega, List.take_length, List.drop_length, hL]; simp
        · simp (implicitDefEqProofs := false) only [↓reduceIte, go_sem, Nat.reduceLT, Nat.reduceEqDiff, reduceCtorEq, eq_self, t0, t14, show ((i' : Int) + ((X.length - j : Nat) : Int)) = (m : Int) by omega]
      · rintro k s H' ⟨hkx, ⟨Lk, rfl, hLk⟩, t0, t14, t17⟩
        cases k with
        | zero =>
          simp (implicitDefEqProofs := false) only [↓reduceIte, go_sem, Nat.reduceLT, Nat.reduceEqDiff, eq_self, t14, t17, Int.add_zero, Int.lt_irrefl]
          have : Lk = L' := by rw [hLk, hL', Nat.add_zero, ← hmg]; simp
          rw [this]
          exact ⟨_, Weak.refl _ _, rfl⟩
        | succ k =>
          have hkX : j + k < X.length := by omega
          have e1 : X.drop (j + k) = X[j + k] :: X.drop (j + k + 1) := List.drop_eq_getElem_cons hkX
          have e2 : X.take (j + k + 1) = X.take (j + k) ++ [X[j + k]] := List.take_succ_eq_append_getElem hkX
          rw [show j + (k + 1) = j + k + 1 by omega, e2] at hLk
          have l1 : (P ++ X.take (j + k)).length = i' + k := by simp; omega
          obtain ⟨u, hu⟩ : ∃ u, u = i' + k := ⟨_, rfl⟩
          obtain ⟨v, hv⟩ : ∃ v, v = u + 1 := ⟨_, rfl⟩
          rw [← hu] at l1
          have fk : ((i' : Int) + ((k + 1 : Nat) : Int)) = (v : Int) := by omega
          have fk2 : ((i' : Int) + (k : Int)) = (u : Int) := by omega
          rw [fk] at t17
          generalize X[j + k] = x at *
          generalize X.drop (j + k + 1) = X1 at *
          obtain ⟨g1, g2, _, g4, _, g6⟩ := swap_next (L := Lk) (P := P ++ X.take (j + k)) (x := x) (y := y) (R := X1 ++ Q) (by rw [hLk]; simp) l1
          rw [← hv] at g2 g4 g6
          have hw7 : IntKind.i64.wrap ((v : Int) - 1) = (u : Int) := by rw [wrap64_in _ (by omega) (by omega)]; omega
          have gg := aH_get hid ver Lk
          have q1 := get_enc g1
          have q2 := get_enc g2
          have q4 := get_enc g4
          have s1 := set_enc Lk v x
          have s2 := set_enc (Lk.set v x) u y
          rw [g6] at s2
          have hun : u < n := by omega
          have hvn : v < n := by omega
          simp only [Val.enc] at q1 q2 q4 s1 s2
          simp (implicitDefEqProofs := false) only [↓reduceIte, go_sem, Nat.reduceLT, Nat.reduceEqDiff, eq_self, t14, t17, show ((i' : Int) < (v : Int)) = True from eq_true (by omega)]
          refine awp_drawN [false, false, false, false, false, false, false, false, false, false, false, false, false, false, true, true, true, true] 14 K.mixed (by kernel_rfl) (by kernel_rfl) (by kernel_rfl) ?_
          simp (implicitDefEqProofs := false) only [↓reduceIte, go_sem, oread, owrite, Nat.reduceAdd, Nat.reduceLT, Nat.reduceEqDiff, reduceCtorEq, eq_self, t0, t17, hw7, hun, hvn, gg, q1, q2, q4, s1, s2, aH_set, hid, List.getElem?_set_self, List.set_set]
          refine ⟨_, _, k, Weak.refl _ _, ⟨by omega, ⟨_, by rw [← aH_fold], by rw [e1]; simp⟩, ?_⟩, by omega⟩
          simp (implicitDefEqProofs := false) only [↓reduceIte, go_sem, Nat.reduceLT, Nat.reduceEqDiff, reduceCtorEq, eq_self, t0, t14, fk2]
end SV
end Go.Proofs.YtkapgooedfompaaGreat
namespace Go.Proofs.YtkapgooedfompaaGreat
open Go.Proofs.YtkapgooedfompaaGreatAw Go.RowKit
set_option linter.unusedVariables false
set_option linter.unusedSimpArgs false
namespace SV
/-- Hidden from the arithmetic. -/
def Hid (p : Prop) : Prop := p
theorem sym_arith {a m b q mid n0 s0 r0 lx ly : Nat} (hm : a + lx = m) (hb : a + lx + ly = b) (hq : q = a + b) (hmid : mid = q / 2) (hn0 : n0 = mid + m) (hs0 : s0 = if mid < m then n0 - b else a) (hr0 : r0 = if mid < m then mid else m) (hx : 0 < lx) (hy : 0 < ly) (h1 : ¬ lx = 1) :
    (s0 ≤ r0 ∧ a ≤ s0 ∧ r0 ≤ m ∧ r0 ≤ mid) ∧ (n0 ≤ b + s0 ∧ mid < b ∧ a < mid) ∧ Hid (r0 = m ∨ n0 = m + r0) ∧ Hid (s0 = a ∨ n0 = b + s0) ∧ m + r0 ≤ n0 ∧ (mid < m → b ≤ n0) := by
  by_cases h : mid < m
  · rw [if_pos h] at hs0 hr0; unfold Hid; omega
  · rw [if_neg h] at hs0 hr0; unfold Hid; omega
set_option maxRecDepth 10000 in
set_option maxHeartbeats 4000000 in
theorem sym3_does (H : AHeap) (id ver : Nat) (hid : id < H.length) (g : FuncId) (caps : List AV) (c : Val → Val → Int) (ho : St.Ord (ltC c)) (hc : CmpOk g caps c H id) (n : Nat) (hbig : n ≤ 1000000000000) (P X Y Q L L' : List Val) (a m b : Nat)
    (hL : L = P ++ X ++ Y ++ Q) (hL' : L' = P ++ St.sortS (ltC c) (X ++ Y) ++ Q) (ha : P.length = a) (hm : P.length + X.length = m) (hb : P.length + X.length + Y.length = b) (hX0 : 0 < X.length) (hY0 : 0 < Y.length) (hX : St.Sorted (ltC c) X) (hY : St.Sorted (ltC c) Y) (hn : L.length = n) (h1 : ¬ X.length = 1) (h2 : ¬ Y.length = 1)
    (ih : ∀ (P' X' Y' Q' L1 L2 : List Val) (a' m' b' : Nat), X'.length + Y'.length < X.length + Y.length → L1 = P' ++ X' ++ Y' ++ Q' → L2 = P' ++ St.sortS (ltC c) (X' ++ Y') ++ Q' → P'.length = a' → P'.length + X'.length = m' → P'.length + X'.length + Y'.length = b' → 0 < X'.length → 0 < Y'.length →
      St.Sorted (ltC c) X' → St.Sorted (ltC c) Y' → L1.length = n → Does Tryz.prog 95 [.sl id ver 0 n, iA a', iA m', iA b', .fn g caps] (aH H id ver L1) (.ok (.tup [])) (aH H id ver L2)) :
    Does Tryz.prog 95 [.sl id ver 0 n, iA a, iA m, iA b, .fn g caps] (aH H id ver L) (.ok (.tup [])) (aH H id ver L') := by
  have hnl : P.length + X.length + Y.length + Q.length = n := by rw [← hn, hL]; simp; omega
  have w1 : IntKind.i64.wrap ((m : Int) - (a : Int)) = ((X.length : Nat) : Int) := by rw [wrap64_in _ (by omega) (by omega)]; omega
  have w2 : IntKind.i64.wrap ((b : Int) - (m : Int)) = ((Y.length : Nat) : Int) := by rw [wrap64_in _ (by omega) (by omega)]; omega
  have hLX := memX hL ha
  have hLY := memY hL hm
  generalize hE0 : aH H id ver L = E0
  have gh := aH_get hid ver L
  rw [hE0] at gh
  have hcE : ∀ x y : Val, Does Tryz.prog g ([.agg (x.enc.map .d), .agg (y.enc.map .d)] ++ caps) E0 (.ok (iA (c x y))) E0 := fun x y => by rw [← hE0]; exact hc.at ver L x y
  refine Does.of_awp (hint := (fun _ => false)) Tryz.func95 (by kernel_rfl) rfl [] (by kernel_rfl) (by decide) (by simp [Tryz.ntmps95]) ?_
  rw [Tryz.ntmps95]
  obtain ⟨q, hq⟩ : ∃ q, q = a + b := ⟨_, rfl⟩
  obtain ⟨mid, hmid⟩ : ∃ mid, mid = q / 2 := ⟨_, rfl⟩
  obtain ⟨n0, hn0⟩ : ∃ n0, n0 = mid + m := ⟨_, rfl⟩
  obtain ⟨p, hp⟩ : ∃ p, p = n0 - 1 := ⟨_, rfl⟩
  have w3 : IntKind.i64.wrap ((a : Int) + (b : Int)) = (q : Int) := by rw [wrap64_in _ (by omega) (by omega)]; omega
  have w4 := half_eq q (by omega)
  rw [← hmid] at w4
  have w5 : IntKind.i64.wrap ((mid : Int) + (m : Int)) = (n0 : Int) := by rw [wrap64_in _ (by omega) (by omega)]; omega
  have w6 : IntKind.i64.wrap ((n0 : Int) - 1) = (p : Int) := by rw [wrap64_in _ (by omega) (by omega)]; omega
  obtain ⟨s0, hs0⟩ : ∃ s0, s0 = if mid < m then n0 - b else a := ⟨_, rfl⟩
  obtain ⟨r0, hr0⟩ : ∃ r0, r0 = if mid < m then mid else m := ⟨_, rfl⟩
  obtain ⟨a1, a2, a3, a4, a5, a6⟩ := sym_arith (by omega) (by omega) hq hmid hn0 hs0 hr0 hX0 hY0 h1
  have w7 : mid < m → IntKind.i64.wrap ((n0 : Int) - (b : Int)) = (s0 : Int) := fun h => by have := a6 h; rw [if_pos h] at hs0; rw [wrap64_in _ (by omega) (by omega)]; omega
  simp (implicitDefEqProofs := false) only [↓reduceIte, go_sem, Nat.reduceLT, Nat.reduceEqDiff, Int.reduceLE, eq_self, w1, w2, show (((X.length : Nat) : Int) = 1) = False from eq_false (by omega), show (((Y.length : Nat) : Int) = 1) = False from eq_false (by omega), w3, w4, w5]
  refine acond_cut (fun s H' => H' = E0 ∧ s 0 = .sl id ver 0 n ∧ s 1 = iA a ∧ s 2 = iA m ∧ s 3 = iA b ∧ s 4 = .fn g caps ∧ s 18 = iA mid ∧ s 19 = iA n0 ∧ s 20 = iA s0 ∧ s 21 = iA r0) rfl ?_ ?_
  · by_cases hmm : mid < m
    · simp (implicitDefEqProofs := false) only [↓reduceIte, go_sem, Nat.reduceLT, Nat.reduceEqDiff, reduceCtorEq, eq_self, eq_true hmm, w7 hmm]
      rw [hr0, if_pos hmm]
    · simp (implicitDefEqProofs := false) only [↓reduceIte, go_sem, Nat.reduceLT, Nat.reduceEqDiff, reduceCtorEq, eq_self, eq_false hmm]
      rw [hs0, hr0, if_neg hmm, if_neg hmm]
      exact ⟨rfl, rfl⟩
  · clear hs0 hr0 w3 w4 w5 w7 a6 hmid
    rintro s H' ⟨rfl, t0, t1, t2, t3, t4, t18, t19, t20, t21⟩
    simp (implicitDefEqProofs := false) only [↓reduceIte, go_sem, Nat.reduceLT, eq_self, t19, w6]
    refine awp_cutB (fun s H1 => H1 = H' ∧ (∃ st, s0 ≤ st ∧ st ≤ r0 ∧ Hid (st = s0 ∨ ∃ x y, X[st - 1 - a]? = some x ∧ Y[n0 - st - m]? = some y ∧ ltC c y x = false) ∧ Hid (st = r0 ∨ ∃ x y, X[st - a]? = some x ∧ Y[p - st - m]? = some y ∧ ltC c y x = true) ∧ s 20 = iA st) ∧
      s 0 = .sl id ver 0 n ∧ s 1 = iA a ∧ s 2 = iA m ∧ s 3 = iA b ∧ s 4 = .fn g caps ∧ s 18 = iA mid ∧ s 19 = iA n0) rfl ?_ ?_
    · refine awp_loop _ _ _ _ (fun (z : Nat × Nat) s H1 => H1 = H' ∧ s0 ≤ z.1 ∧ z.1 ≤ z.2 ∧ z.2 ≤ r0 ∧ Hid (z.1 = s0 ∨ ∃ x y, X[z.1 - 1 - a]? = some x ∧ Y[n0 - z.1 - m]? = some y ∧ ltC c y x = false) ∧ Hid (z.2 = r0 ∨ ∃ x y, X[z.2 - a]? = some x ∧ Y[p - z.2 - m]? = some y ∧ ltC c y x = true) ∧
        s 0 = .sl id ver 0 n ∧ s 1 = iA a ∧ s 2 = iA m ∧ s 3 = iA b ∧ s 4 = .fn g caps ∧ s 18 = iA mid ∧ s 19 = iA n0 ∧ s 20 = iA z.1 ∧ s 21 = iA z.2 ∧ s 22 = iA p) (fun z => z.2 - z.1) (s0, r0) (Weak.refl _ _) ?_ ?_
      · refine ⟨rfl, Nat.le_refl _, a1.1, Nat.le_refl _, .inl rfl, .inl rfl, ?_⟩
        simp (implicitDefEqProofs := false) only [↓reduceIte, go_sem, Nat.reduceLT, Nat.reduceEqDiff, reduceCtorEq, eq_self, t0, t1, t2, t3, t4, t18, t19, t20, t21]
      · rintro ⟨i, j⟩ s H1 ⟨rfl, hi0, hij, hj0, hlo, hhi, t0, t1, t2, t3, t4, t18, t19, t20, t21, t22⟩
        simp only at hi0 hij hj0 hlo hhi t20 t21
        by_cases hlt : i < j
        · obtain ⟨qq, hqq⟩ : ∃ qq, qq = i + j := ⟨_, rfl⟩
          have v3 : IntKind.i64.wrap ((i : Int) + (j : Int)) = (qq : Int) := by rw [wrap64_in _ (by omega) (by omega)]; omega
          have v4 := half_eq qq (by omega)
          obtain ⟨h, hh⟩ : ∃ h, h = qq / 2 := ⟨_, rfl⟩
          rw [← hh] at v4
          have hpc : m ≤ p - h ∧ p - h < b ∧ h < m ∧ a ≤ h := by omega
          obtain ⟨pc, hpc2⟩ : ∃ pc, pc = p - h := ⟨_, rfl⟩
          have v5 : IntKind.i64.wrap ((p : Int) - (h : Int)) = (pc : Int) := by rw [wrap64_in _ (by omega) (by omega)]; omega
          obtain ⟨x, hx⟩ : ∃ x, X[h - a]? = some x := ⟨_, List.getElem?_eq_getElem (show h - a < X.length by omega)⟩
          obtain ⟨y, hy⟩ : ∃ y, Y[pc - m]? = some y := ⟨_, List.getElem?_eq_getElem (show pc - m < Y.length by omega)⟩
          have gx := get_enc (hLX _ _ hx)
          rw [show a + (h - a) = h by omega] at gx
          have gy := get_enc (hLY _ _ hy)
          rw [show m + (pc - m) = pc by omega] at gy
          have hd := hcE y x
          simp only [Val.enc] at gx gy
          simp only [Val.enc, List.map_cons, List.map_nil] at hd
          have hln : h < n := by omega
          have hpn : pc < n := by omega
          simp (implicitDefEqProofs := false) only [↓reduceIte, go_sem, Nat.reduceLT, Nat.reduceEqDiff, Int.reduceLE, eq_self, t20, t21, eq_true hlt, v3, v4]
          refine awp_draw K.mixed (by kernel_rfl) ?_
          simp (implicitDefEqProofs := false) only [↓reduceIte, go_sem, oread, Nat.reduceAdd, Nat.reduceLT, Nat.reduceEqDiff, reduceCtorEq, eq_self, t0, t4, t22, gh, gx, gy, hln, hpn, v5]
          refine KCall.ok hd ?_
          by_cases hcc : c y x < 0
          · simp (implicitDefEqProofs := false) only [↓reduceIte, go_sem, Nat.reduceLT, Nat.reduceEqDiff, eq_self, hcc]
            refine ⟨_, _, (i, h), Weak.refl _ _, ⟨rfl, hi0, by simp only; omega, by simp only; omega, hlo, .inr ⟨x, y, hx, by rw [← hpc2]; exact hy, by simp [ltC, hcc]⟩, ?_⟩, by simp only; omega⟩
            simp (implicitDefEqProofs := false) only [↓reduceIte, go_sem, Nat.reduceLT, Nat.reduceEqDiff, reduceCtorEq, eq_self, t0, t1, t2, t3, t4, t18, t19, t20, t22]
          · have v6 : IntKind.i64.wrap ((h : Int) + 1) = (h : Int) + 1 := wrap64_in _ (by omega) (by omega)
            simp (implicitDefEqProofs := false) only [↓reduceIte, go_sem, Nat.reduceLT, Nat.reduceEqDiff, eq_self, hcc, v6]
            refine ⟨_, _, (h + 1, j), Weak.refl _ _, ⟨rfl, by simp only; omega, by simp only; omega, hj0, .inr ⟨x, y, by simpa using hx, by rw [show n0 - (h + 1) - m = pc - m by omega]; exact hy, by simp [ltC, hcc]⟩, hhi, ?_⟩, by simp only; omega⟩
            simp (implicitDefEqProofs := false) only [↓reduceIte, go_sem, Nat.reduceLT, Nat.reduceEqDiff, reduceCtorEq, eq_self, t0, t1, t2, t3, t4, t18, t19, t21, t22]
        · obtain rfl : j = i := by omega
          simp (implicitDefEqProofs := false) only [↓reduceIte, go_sem, Nat.reduceLT, Nat.reduceEqDiff, reduceCtorEq, eq_self, t20, t21, Nat.lt_irrefl]
          exact ⟨⟨j, hi0, hj0, hlo, hhi, rfl⟩, t0, t1, t2, t3, t4, t18, t19⟩
    · rintro s H1 ⟨rfl, ⟨st, hst0, hst1, hlo, hhi, t20⟩, t0, t1, t2, t3, t4, t18, t19⟩
      clear w6
      obtain ⟨e, he⟩ : ∃ e, e = n0 - st := ⟨_, rfl⟩
      obtain ⟨sX, hsX⟩ : ∃ sX, sX = st - a := ⟨_, rfl⟩
      obtain ⟨eY, heY⟩ : ∃ eY, eY = e - m := ⟨_, rfl⟩
      have w8 : IntKind.i64.wrap ((n0 : Int) - (st : Int)) = (e : Int) := by rw [wrap64_in _ (by omega) (by omega)]; omega
      have b1 : sX ≤ X.length ∧ eY ≤ Y.length ∧ m ≤ e ∧ e ≤ b ∧ mid = st + eY ∧ e = mid + (m - st) := by omega
      have hcut := St.merge_cut ho hX hY (s := sX) (e := eY) b1.1 b1.2.1 ?_ ?_
      rotate_left
      · rcases hhi with h | ⟨x, y, hx, hy, h⟩
        · rcases a3 with h3 | h3
          · exact .inl (by omega)
          · exact .inr (.inl (by omega))
        · exact .inr (.inr ⟨x, y, by rw [hsX]; exact hx, by rw [show eY - 1 = p - st - m by omega]; exact hy, h⟩)
      · rcases hlo with h | ⟨x, y, hx, hy, h⟩
        · rcases a4 with h4 | h4
          · exact .inl (by omega)
          · exact .inr (.inl (by omega))
        · exact .inr (.inr ⟨x, y, by rw [show sX - 1 = st - 1 - a by omega]; exact hx, by rw [show eY = n0 - st - m by omega]; exact hy, h⟩)
      have hXs := hX
      have hYs := hY
      have eX : X.take sX ++ X.drop sX = X := List.take_append_drop _ _
      have eY' : Y.take eY ++ Y.drop eY = Y := List.take_append_drop _ _
      have lA : (X.take sX).length = sX := by rw [List.length_take]; omega
      have lU : (X.drop sX).length = X.length - sX := List.length_drop
      have lV : (Y.take eY).length = eY := by rw [List.length_take]; omega
      have lB : (Y.drop eY).length = Y.length - eY := List.length_drop
      rw [← eX] at hXs
      rw [← eY'] at hYs
      have sA := hXs.left
      have sU := hXs.right
      have sV := hYs.left
      have sB := hYs.right
      clear hXs hYs hlo hhi a3 a4
      generalize hA : X.take sX = A at *
      generalize hU : X.drop sX = U at *
      generalize hV : Y.take eY = V at *
      generalize hB : Y.drop eY = B at *
      have hLL : L = P ++ A ++ U ++ V ++ (B ++ Q) := by rw [hL, ← eX, ← eY']; simp
      obtain ⟨L1, hL1⟩ : ∃ L1, L1 = P ++ A ++ V ++ U ++ (B ++ Q) := ⟨_, rfl⟩
      obtain ⟨L2, hL2⟩ : ∃ L2, L2 = P ++ St.sortS (ltC c) (A ++ V) ++ U ++ B ++ Q := ⟨_, rfl⟩
      have hL3 : L' = P ++ St.sortS (ltC c) (A ++ V) ++ St.sortS (ltC c) (U ++ B) ++ Q := by rw [hL', ← hcut]; simp
      have n1 : L1.length = n := by rw [← hn, hLL, hL1]; simp; omega
      have n2 : L2.length = n := by rw [← hn, hLL, hL2]; simp [St.sortS_len]; omega
      rw [awp_seq]
      refine awp_cut (fun s H2 => H2 = aH H id ver L ∧ s 0 = .sl id ver 0 n ∧ s 1 = iA a ∧ s 2 = iA m ∧ s 3 = iA b ∧ s 4 = .fn g caps ∧ s 18 = iA mid ∧ s 20 = iA st ∧ s 24 = iA e) rfl (by simp (implicitDefEqProofs := false) only [↓reduceIte, go_sem, Nat.reduceLT, Nat.reduceEqDiff, reduceCtorEq, eq_self, t0, t1, t2, t3, t4, t18, t19, t20, w8, hE0]) ?_
      rintro s H2 ⟨rfl, t0, t1, t2, t3, t4, t18, t20, t24⟩
      rw [awp_seq]
      refine awp_cut (fun s H2 => H2 = aH H id ver L1 ∧ s 0 = .sl id ver 0 n ∧ s 1 = iA a ∧ s 2 = iA m ∧ s 3 = iA b ∧ s 4 = .fn g caps ∧ s 18 = iA mid ∧ s 20 = iA st ∧ s 24 = iA e) rfl ?_ ?_
      · have same : U = [] ∨ V = [] → aH H id ver L = aH H id ver L1 := fun h => by
          rw [hL1, hLL]; rcases h with rfl | rfl <;> simp
        by_cases c1 : st < m
        · by_cases c2 : m < e
          · simp (implicitDefEqProofs := false) only [↓reduceIte, go_sem, Nat.reduceLT, Nat.reduceEqDiff, reduceCtorEq, eq_self, t2, t20, t24, eq_true c1, eq_true c2]
            simp (implicitDefEqProofs := false) only [go_sem, t0, t4]
            refine KCall.ok (rotate_does H id ver hid g caps (P ++ A) U V (B ++ Q) L L1 hLL (by rw [hL1]) st m e n (by simp; omega) (by simp; omega) (by simp; omega) (by omega) (by omega) hn hbig) ?_
            simp (implicitDefEqProofs := false) only [↓reduceIte, go_sem, Nat.reduceEqDiff, reduceCtorEq, eq_self, t0, t1, t2, t3, t4, t18, t20, t24]
          · simp (implicitDefEqProofs := false) only [↓reduceIte, go_sem, Nat.reduceLT, Nat.reduceEqDiff, reduceCtorEq, eq_self, t2, t20, t24, eq_true c1, eq_false c2]
            simp (implicitDefEqProofs := false) only [go_sem, eq_self, t0, t1, t3, t4, t18]
            exact same (.inr (List.eq_nil_of_length_eq_zero (by omega)))
        · simp (implicitDefEqProofs := false) only [↓reduceIte, go_sem, Nat.reduceLT, Nat.reduceEqDiff, reduceCtorEq, eq_self, t2, t20, t24, eq_false c1]
          simp (implicitDefEqProofs := false) only [go_sem, eq_self, t0, t1, t3, t4, t18]
          exact same (.inl (List.eq_nil_of_length_eq_zero (by omega)))
      rintro s H2 ⟨rfl, t0, t1, t2, t3, t4, t18, t20, t24⟩
      rw [awp_seq]
      refine awp_cut (fun s H2 => H2 = aH H id ver L2 ∧ s 0 = .sl id ver 0 n ∧ s 3 = iA b ∧ s 4 = .fn g caps ∧ s 18 = iA mid ∧ s 24 = iA e) rfl ?_ ?_
      · have same : A = [] ∨ V = [] → aH H id ver L1 = aH H id ver L2 := fun h => by
          have : St.sortS (ltC c) (A ++ V) = A ++ V := by
            rcases h with rfl | rfl
            · simpa using St.sortS_self ho sV
            · simpa using St.sortS_self ho sA
          rw [hL1, hL2, this]; simp
        by_cases c1 : a < st
        · by_cases c2 : st < mid
          · simp (implicitDefEqProofs := false) only [↓reduceIte, go_sem, Nat.reduceLT, Nat.reduceEqDiff, reduceCtorEq, eq_self, t1, t18, t20, eq_true c1, eq_true c2]
            simp (implicitDefEqProofs := false) only [go_sem, t0, t4]
            refine KCall.ok (ih P A V (U ++ (B ++ Q)) L1 L2 a st mid (by omega) (by rw [hL1]; simp) (by rw [hL2]; simp) ha (by omega) (by omega) (by omega) (by omega) sA sV n1) ?_
            simp (implicitDefEqProofs := false) only [↓reduceIte, go_sem, Nat.reduceEqDiff, reduceCtorEq, eq_self, t0, t3, t4, t18, t24]
          · simp (implicitDefEqProofs := false) only [↓reduceIte, go_sem, Nat.reduceLT, Nat.reduceEqDiff, reduceCtorEq, eq_self, t1, t18, t20, eq_true c1, eq_false c2]
            simp (implicitDefEqProofs := false) only [go_sem, eq_self, t0, t3, t4, t24]
            exact same (.inr (List.eq_nil_of_length_eq_zero (by omega)))
        · simp (implicitDefEqProofs := false) only [↓reduceIte, go_sem, Nat.reduceLT, Nat.reduceEqDiff, reduceCtorEq, eq_self, t1, t18, t20, eq_false c1]
          simp (implicitDefEqProofs := false) only [go_sem, eq_self, t0, t3, t4, t24]
          exact same (.inl (List.eq_nil_of_length_eq_zero (by omega)))
      rintro s H2 ⟨rfl, t0, t3, t4, t18, t24⟩
      have same : U = [] ∨ B = [] → aH H id ver L2 = aH H id ver L' := fun h => by
        have : St.sortS (ltC c) (U ++ B) = U ++ B := by
          rcases h with rfl | rfl
          · simpa using St.sortS_self ho sB
          · simpa using St.sortS_self ho sU
        rw [hL2, hL3, this]; simp
      by_cases c1 : mid < e
      · by_cases c2 : e < b
        · simp (implicitDefEqProofs := false) only [↓reduceIte, go_sem, Nat.reduceLT, Nat.reduceEqDiff, reduceCtorEq, eq_self, t3, t18, t24, eq_true c1, eq_true c2]
          simp (implicitDefEqProofs := false) only [go_sem, t0, t4]
          have lS := St.sortS_len (lt := ltC c) (A ++ V)
          rw [List.length_append] at lS
          refine KCall.ok (ih (P ++ St.sortS (ltC c) (A ++ V)) U B Q L2 L' mid e b (by omega) (by rw [hL2]) (by rw [hL3]) (by simp; omega) (by simp; omega) (by simp; omega) (by omega) (by omega) sU sB n2) ?_
          simp (implicitDefEqProofs := false) only [go_sem]
          exact ⟨_, Weak.refl _ _, rfl⟩
        · simp (implicitDefEqProofs := false) only [↓reduceIte, go_sem, Nat.reduceLT, Nat.reduceEqDiff, eq_self, t3, t18, t24, eq_true c1, eq_false c2]
          rw [same (.inr (List.eq_nil_of_length_eq_zero (by omega)))]
          exact ⟨_, Weak.refl _ _, rfl⟩
      · simp (implicitDefEqProofs := false) only [↓reduceIte, go_sem, Nat.reduceLT, Nat.reduceEqDiff, reduceCtorEq, eq_self, t18, t24, eq_false c1]
        rw [same (.inl (List.eq_nil_of_length_eq_zero (by omega)))]
        exact ⟨_, Weak.refl _ _, rfl⟩
end SV
end Go.Proofs.YtkapgooedfompaaGreat
namespace Go.Proofs.YtkapgooedfompaaGreat
set_option linter.unusedVariables false
namespace St
variable {α : Type} {lt : α → α → Bool}
def blk (s j : Nat) (l : List α) : List α := (l.drop (j * s)).take s
theorem blk_front {s j k : Nat} {P R : List α} (hP : P.length = k * s) (hj : j < k) : blk s j (P ++ R) = (P.drop (j * s)).take s := by
  have h1 : (j + 1) * s ≤ k * s := Nat.mul_le_mul_right s hj
  rw [Nat.add_mul, Nat.one_mul] at h1
  unfold blk
  rw [List.drop_append_of_le_length (by omega), List.take_append_of_le_length (by rw [List.length_drop]; omega)]
theorem blk_at {s k : Nat} {P X Q : List α} (hP : P.length = k * s) (hX : X.length = s ∨ X.length ≤ s ∧ Q = []) : blk s k (P ++ X ++ Q) = X := by
  unfold blk
  rw [List.append_assoc, ← hP, List.drop_left]
  rcases hX with h | ⟨h, rfl⟩
  · rw [← h, List.take_left]
  · rw [List.append_nil, List.take_of_length_le h]
theorem drop_behind {P X Q : List α} {i : Nat} (h : P.length + X.length ≤ i) : (P ++ X ++ Q).drop i = Q.drop (i - (P.length + X.length)) := by
  rw [List.drop_append, List.drop_of_length_le (by rw [List.length_append]; exact h), List.nil_append, List.length_append]
theorem blk_behind {s j : Nat} {P X X' Q : List α} (hX : X.length = X'.length) (h : P.length + X.length ≤ j * s) : blk s j (P ++ X ++ Q) = blk s j (P ++ X' ++ Q) := by
  unfold blk
  rw [drop_behind h, drop_behind (by omega), hX]
theorem blk_out {s j : Nat} {l : List α} (h : l.length ≤ j * s) : blk s j l = [] := by
  unfold blk
  rw [List.drop_of_length_le h, List.take_nil]
/-- One block more. -/
theorem blk_more (ho : Ord lt) {s k : Nat} {P X Q : List α} (hP : P.length = k * s) (h : ∀ j, j < k → Sorted lt (blk s j (P ++ X ++ Q))) (hX : X.length = s ∨ X.length ≤ s ∧ Q = []) : ∀ j, j < k + 1 → Sorted lt (blk s j (P ++ sortS lt X ++ Q)) := by
  intro j hj
  rcases Nat.lt_or_ge j k with h1 | h1
  · have := h j h1
    rw [List.append_assoc, blk_front hP h1] at this ⊢
    exact this
  · obtain rfl : j = k := by omega
    rw [blk_at hP (by rw [sortS_len]; exact hX)]
    exact sortS_sorted ho X
theorem steq_part (ho : Ord lt) (P X Q : List α) : StEq lt (P ++ sortS lt X ++ Q) (P ++ X ++ Q) := StEq.app (StEq.app (.refl _) (sortS_steq ho X)) (.refl _)
/-- A list, cut at two places. -/
theorem cut3 (l : List α) (a s : Nat) : l.take a ++ (l.drop a).take s ++ l.drop (a + s) = l := by
  rw [List.append_assoc, ← List.drop_drop, List.take_append_drop, List.take_append_drop]
theorem cut4 (l : List α) (a s t : Nat) : l.take a ++ (l.drop a).take s ++ (l.drop (a + s)).take t ++ l.drop (a + s + t) = l := by
  have e : (l.drop (a + s)).take t ++ l.drop (a + s + t) = l.drop (a + s) := by
    have := List.take_append_drop t (l.drop (a + s))
    rwa [List.drop_drop] at this
  rw [List.append_assoc, e, cut3]
end St
end Go.Proofs.YtkapgooedfompaaGreat
namespace Go.Proofs.YtkapgooedfompaaGreat
open Go.Proofs.YtkapgooedfompaaGreatAw Go.RowKit
set_option linter.unusedVariables false
set_option linter.unusedSimpArgs false
namespace SV
theorem symMerge_does (H : AHeap) (id ver : Nat) (hid : id < H.length) (g : FuncId) (caps : List AV) (c : Val → Val → Int) (ho : St.Ord (ltC c)) (hc : CmpOk g caps c H id) (n : Nat) (hbig : n ≤ 1000000000000) : ∀ (N : Nat) (P X Y Q L L' : List Val) (a m b : Nat), X.length + Y.length ≤ N →
    L = P ++ X ++ Y ++ Q → L' = P ++ St.sortS (ltC c) (X ++ Y) ++ Q → P.length = a → P.length + X.length = m → P.length + X.length + Y.length = b → 0 < X.length → 0 < Y.length → St.Sorted (ltC c) X → St.Sorted (ltC c) Y → L.length = n →
    Does Tryz.prog 95 [.sl id ver 0 n, iA a, iA m, iA b, .fn g caps] (aH H id ver L) (.ok (.tup [])) (aH H id ver L') := by
  intro N
  induction N with
  | zero => intros; omega
  | succ N ih =>
    intro P X Y Q L L' a m b hN hL hL' ha hm hb hX0 hY0 hX hY hn
    by_cases h1 : X.length = 1
    · exact sym1_does H id ver hid g caps c ho hc n hbig P X Y Q L L' a m b hL hL' ha hm hb hX0 hY0 hX hY hn h1
    · by_cases h2 : Y.length = 1
      · exact sym2_does H id ver hid g caps c ho hc n hbig P X Y Q L L' a m b hL hL' ha hm hb hX0 hY0 hX hY hn h1 h2
      · exact sym3_does H id ver hid g caps c ho hc n hbig P X Y Q L L' a m b hL hL' ha hm hb hX0 hY0 hX hY hn h1 h2 fun P' X' Y' Q' L1 L2 a' m' b' hlt => ih P' X' Y' Q' L1 L2 a' m' b' (by omega)
set_option maxRecDepth 10000 in
set_option maxHeartbeats 4000000 in
theorem stable_does (H : AHeap) (id ver : Nat) (hid : id < H.length) (g : FuncId) (caps : List AV) (c : Val → Val → Int) (ho : St.Ord (ltC c)) (hc : CmpOk g caps c H id) (n : Nat) (hbig : n ≤ 100000000000) (L : List Val) (hn : L.length = n) :
    Does Tryz.prog 75 [.sl id ver 0 n, iA n, .fn g caps] (aH H id ver L) (.ok (.tup [])) (aH H id ver (St.sortS (ltC c) L)) := by
  generalize hE0 : aH H id ver L = E0
  generalize hE1 : aH H id ver (St.sortS (ltC c) L) = E1
  refine Does.of_awp (hint := (fun _ => false)) Tryz.func75 (by kernel_rfl) rfl [] (by kernel_rfl) (by decide) (by simp [Tryz.ntmps75]) ?_
  rw [Tryz.ntmps75]
  simp (implicitDefEqProofs := false) only [↓reduceIte, go_sem, Nat.reduceLT, Nat.reduceEqDiff, eq_self]
  refine awp_cutB (fun s H' => (∃ Lk, H' = aH H id ver Lk ∧ St.StEq (ltC c) Lk L ∧ Lk.length = n ∧ (∃ k, k * 20 ≤ n ∧ n < (k + 1) * 20 ∧ (∀ j, j < k → St.Sorted (ltC c) (St.blk 20 j Lk)) ∧ s 7 = iA ((k * 20 : Nat) : Int))) ∧ s 0 = .sl id ver 0 n ∧ s 1 = iA n ∧ s 2 = .fn g caps ∧ s 6 = iA 20) rfl ?_ ?_
  · refine awp_loop _ _ _ _ (fun (k : Nat) s H' => k * 20 ≤ n ∧ (∃ Lk, H' = aH H id ver Lk ∧ St.StEq (ltC c) Lk L ∧ Lk.length = n ∧ ∀ j, j < k → St.Sorted (ltC c) (St.blk 20 j Lk)) ∧ s 0 = .sl id ver 0 n ∧ s 1 = iA n ∧ s 2 = .fn g caps ∧ s 6 = iA 20 ∧ s 7 = iA ((k * 20 : Nat) : Int) ∧ s 8 = iA (((k + 1) * 20 : Nat) : Int)) (fun k => n - k) 0 (Weak.refl _ _) ?_ ?_
    · refine ⟨by omega, ⟨L, hE0.symm, .refl _, hn, fun j hj => by omega⟩, ?_⟩
      simp (implicitDefEqProofs := false) only [↓reduceIte, go_sem, Nat.reduceLT, Nat.reduceEqDiff, reduceCtorEq, eq_self]
    · rintro k s H' ⟨hk, ⟨Lk, rfl, hst, hlen, hso⟩, t0, t1, t2, t6, t7, t8⟩
      obtain ⟨a, ha⟩ : ∃ a, a = k * 20 := ⟨_, rfl⟩
      obtain ⟨b, hb⟩ : ∃ b, b = (k + 1) * 20 := ⟨_, rfl⟩
      rw [← ha] at t7
      rw [← hb] at t8
      by_cases hbn : b ≤ n
      · obtain ⟨P, hP⟩ : ∃ P, P = Lk.take a := ⟨_, rfl⟩
        obtain ⟨X, hX⟩ : ∃ X, X = (Lk.drop a).take 20 := ⟨_, rfl⟩
        obtain ⟨Q, hQ⟩ : ∃ Q, Q = Lk.drop (a + 20) := ⟨_, rfl⟩
        have hc3 : Lk = P ++ X ++ Q := by rw [hP, hX, hQ, St.cut3]
        have lP : P.length = a := by rw [hP, List.length_take]; omega
        have lX : X.length = 20 := by rw [hX, List.length_take, List.length_drop]; omega
        obtain ⟨L1, hL1⟩ : ∃ L1, L1 = P ++ St.sortS (ltC c) X ++ Q := ⟨_, rfl⟩
        have lL1 : L1.length = n := by rw [hL1, ← hlen, hc3]; simp [St.sortS_len]
        have hso1 : ∀ j, j < k + 1 → St.Sorted (ltC c) (St.blk 20 j L1) := by
          rw [hL1]; exact St.blk_more ho (by omega) (by rw [← hc3]; exact hso) (.inl lX)
        have hst1 : St.StEq (ltC c) L1 L := by
          refine St.StEq.trans ?_ hst
          rw [hL1, hc3]; exact St.steq_part ho P X Q
        have w1 : IntKind.i64.wrap ((b : Int) + 20) = (((k + 1 + 1) * 20 : Nat) : Int) := by rw [wrap64_in _ (by omega) (by omega)]; omega
        obtain ⟨b2, hb2⟩ : ∃ b2, b2 = (k + 1 + 1) * 20 := ⟨_, rfl⟩
        rw [← hb2] at w1
        simp (implicitDefEqProofs := false) only [↓reduceIte, go_sem, Nat.reduceLT, Nat.reduceEqDiff, reduceCtorEq, eq_self, t1, t8, eq_true hbn]
        simp (implicitDefEqProofs := false) only [go_sem, t0, t2, t7]
        refine KCall.ok (insSort_does H id ver hid g caps c ho hc P X Q Lk L1 hc3 hL1 a b n lP (by omega) hlen (by omega)) ?_
        simp (implicitDefEqProofs := false) only [↓reduceIte, go_sem, Nat.reduceLT, Nat.reduceEqDiff, eq_self, t6, t8, w1]
        refine ⟨_, _, k + 1, Weak.refl _ _, ⟨by omega, ⟨L1, rfl, hst1, lL1, hso1⟩, ?_⟩, by omega⟩
        rw [← hb, ← hb2]
        simp (implicitDefEqProofs := false) only [↓reduceIte, go_sem, Nat.reduceLT, Nat.reduceEqDiff, reduceCtorEq, eq_self, t0, t1, t2, t6]
      · simp (implicitDefEqProofs := false) only [↓reduceIte, go_sem, Nat.reduceLT, Nat.reduceEqDiff, reduceCtorEq, eq_self, t1, t8, eq_false hbn]
        refine ⟨⟨Lk, rfl, hst, hlen, k, by omega, by omega, hso, ?_⟩, ?_⟩
        · rw [← ha]; simp (implicitDefEqProofs := false) only [go_sem, eq_self, t7]
        · simp (implicitDefEqProofs := false) only [go_sem, eq_self, t0, t2, t6]
  rintro s H' ⟨⟨Lk, rfl, hst, hlen, k, hk1, hk2, hso, t7⟩, t0, t1, t2, t6⟩
  obtain ⟨a, ha⟩ : ∃ a, a = k * 20 := ⟨_, rfl⟩
  rw [← ha] at t7
  have hc3 : Lk = Lk.take a ++ Lk.drop a ++ [] := by simp
  obtain ⟨L1, hL1⟩ : ∃ L1, L1 = Lk.take a ++ St.sortS (ltC c) (Lk.drop a) ++ [] := ⟨_, rfl⟩
  have lP : (Lk.take a).length = a := by rw [List.length_take]; omega
  have lX : (Lk.drop a).length = n - a := by rw [List.length_drop]; omega
  have lL1 : L1.length = n := by rw [hL1]; simp only [List.length_append, St.sortS_len, lP, lX, List.length_nil]; omega
  have hst1 : St.StEq (ltC c) L1 L := by
    refine St.StEq.trans ?_ hst
    rw [hL1]
    have := St.steq_part ho (Lk.take a) (Lk.drop a) []
    rwa [← hc3] at this
  have hb1 : ∀ j, St.Sorted (ltC c) (St.blk 20 j L1) := by
    intro j
    rcases Nat.lt_or_ge j (k + 1) with h | h
    · rw [hL1]
      exact St.blk_more ho (by omega) (by rw [← hc3]; exact hso) (.inr ⟨by omega, rfl⟩) j h
    · have := Nat.mul_le_mul_right 20 h
      rw [St.blk_out (by omega)]
      exact List.Pairwise.nil
  simp (implicitDefEqProofs := false) only [↓reduceIte, go_sem, Nat.reduceLT, Nat.reduceEqDiff, eq_self, t0, t1, t2, t7]
  refine KCall.ok (insSort_does H id ver hid g caps c ho hc _ _ _ Lk L1 hc3 hL1 a n n lP (by omega) hlen (by omega)) ?_
  clear hc3 hL1 lP lX hst hso hlen
  simp (implicitDefEqProofs := false) only [go_sem]
  refine awp_loop _ _ _ _ (fun (z : Nat) s H' => 20 ≤ z ∧ z ≤ 2 * n + 20 ∧ (∃ Lk, H' = aH H id ver Lk ∧ St.StEq (ltC c) Lk L ∧ Lk.length = n ∧ ∀ j, St.Sorted (ltC c) (St.blk z j Lk)) ∧ s 0 = .sl id ver 0 n ∧ s 1 = iA n ∧ s 2 = .fn g caps ∧ s 6 = iA z) (fun z => n - z) 20 (Weak.refl _ _) ?_ ?_
  · refine ⟨Nat.le_refl _, by omega, ⟨L1, rfl, hst1, lL1, hb1⟩, ?_⟩
    simp (implicitDefEqProofs := false) only [↓reduceIte, go_sem, Nat.reduceEqDiff, reduceCtorEq, eq_self, t0, t1, t2, t6]
  clear hb1 hst1 lL1 t0 t1 t2 t6 t7 hk1 hk2 ha
  rintro z s H' ⟨hz1, hz2, ⟨Lk, rfl, hst, hlen, hbl⟩, t0, t1, t2, t6⟩
  by_cases hzn : z < n
  · have w1 : IntKind.i64.wrap (2 * (z : Int)) = ((2 * z : Nat) : Int) := by rw [wrap64_in _ (by omega) (by omega)]; omega
    have w1' : IntKind.i64.wrap ((z : Int) * 2) = ((2 * z : Nat) : Int) := by rw [wrap64_in _ (by omega) (by omega)]; omega
    obtain ⟨y, hy⟩ : ∃ y, y = 2 * z := ⟨_, rfl⟩
    rw [← hy] at w1 w1'
    simp (implicitDefEqProofs := false) only [↓reduceIte, go_sem, Nat.reduceLT, Nat.reduceEqDiff, eq_self, t1, t6, eq_true hzn, w1]
    refine awp_cutB (fun s H' => (∃ Lk, H' = aH H id ver Lk ∧ St.StEq (ltC c) Lk L ∧ Lk.length = n ∧ ∃ k a, a = k * y ∧ a = 2 * k * z ∧ a ≤ n ∧ n < a + y ∧ (∀ j, j < k → St.Sorted (ltC c) (St.blk y j Lk)) ∧ (∀ j, 2 * k ≤ j → St.Sorted (ltC c) (St.blk z j Lk)) ∧ s 7 = iA a) ∧ s 0 = .sl id ver 0 n ∧ s 1 = iA n ∧ s 2 = .fn g caps ∧ s 6 = iA z) rfl ?_ ?_
    · refine awp_loop _ _ _ _ (fun (k : Nat) s H' => (∃ a, a = k * y ∧ a = 2 * k * z ∧ a ≤ n ∧ s 7 = iA a ∧ s 8 = iA ((a + y : Nat) : Int)) ∧ (∃ Lk, H' = aH H id ver Lk ∧ St.StEq (ltC c) Lk L ∧ Lk.length = n ∧ (∀ j, j < k → St.Sorted (ltC c) (St.blk y j Lk)) ∧ (∀ j, 2 * k ≤ j → St.Sorted (ltC c) (St.blk z j Lk))) ∧ s 0 = .sl id ver 0 n ∧ s 1 = iA n ∧ s 2 = .fn g caps ∧ s 6 = iA z) (fun k => n + 1 - k * y) 0 (Weak.refl _ _) ?_ ?_
      · refine ⟨⟨0, by omega, by omega, by omega, ?_⟩, ⟨Lk, rfl, hst, hlen, fun j hj => by omega, fun j _ => hbl j⟩, ?_⟩
        · simp (implicitDefEqProofs := false) only [↓reduceIte, go_sem, Nat.reduceLT, Nat.reduceEqDiff, eq_self, Nat.zero_add]
        · simp (implicitDefEqProofs := false) only [↓reduceIte, go_sem, Nat.reduceEqDiff, reduceCtorEq, eq_self, t0, t1, t2, t6]
      clear hst hlen hbl Lk t0 t1 t2 t6
      rintro k s H' ⟨⟨a, ha, ha2, han, t7, t8⟩, ⟨Lk, rfl, hst, hlen, hso, hso2⟩, t0, t1, t2, t6⟩
      obtain ⟨b, hb⟩ : ∃ b, b = a + y := ⟨_, rfl⟩
      rw [← hb] at t8
      have hk1 : (k + 1) * y = a + y := by rw [Nat.add_mul, ← ha, Nat.one_mul]
      have hk2 : 2 * (k + 1) * z = a + 2 * z := by rw [Nat.mul_add, Nat.add_mul, ← ha2]
      have hk3 : (2 * k + 1) * z = a + z := by rw [Nat.add_mul, ← ha2, Nat.one_mul]
      by_cases hbn : b ≤ n
      · obtain ⟨P, hP⟩ : ∃ P, P = Lk.take a := ⟨_, rfl⟩
        obtain ⟨X, hX⟩ : ∃ X, X = (Lk.drop a).take z := ⟨_, rfl⟩
        obtain ⟨Y, hY⟩ : ∃ Y, Y = (Lk.drop (a + z)).take z := ⟨_, rfl⟩
        obtain ⟨Q, hQ⟩ : ∃ Q, Q = Lk.drop (a + z + z) := ⟨_, rfl⟩
        have hc4 : Lk = P ++ X ++ Y ++ Q := by rw [hP, hX, hY, hQ, St.cut4]
        have hc5 : Lk = P ++ (X ++ Y) ++ Q := by rw [hc4]; simp
        have lP : P.length = a := by rw [hP, List.length_take]; omega
        have lX : X.length = z := by rw [hX, List.length_take, List.length_drop]; omega
        have lY : Y.length = z := by rw [hY, List.length_take, List.length_drop]; omega
        have lXY : (X ++ Y).length = y := by rw [List.length_append]; omega
        have sX : St.Sorted (ltC c) X := by have := hso2 (2 * k) (Nat.le_refl _); rw [St.blk, ← ha2, ← hX] at this; exact this
        have sY : St.Sorted (ltC c) Y := by have := hso2 (2 * k + 1) (by omega); rw [St.blk, hk3, ← hY] at this; exact this
        obtain ⟨L1, hL1⟩ : ∃ L1, L1 = P ++ St.sortS (ltC c) (X ++ Y) ++ Q := ⟨_, rfl⟩
        have lL1 : L1.length = n := by rw [hL1, ← hlen, hc5]; simp [St.sortS_len]; try omega
        have hst1 : St.StEq (ltC c) L1 L := by
          refine St.StEq.trans ?_ hst
          rw [hL1, hc5]; exact St.steq_part ho P (X ++ Y) Q
        have hso1 : ∀ j, j < k + 1 → St.Sorted (ltC c) (St.blk y j L1) := by
          rw [hL1]; exact St.blk_more ho (by omega) (by rw [← hc5]; exact hso) (.inl lXY)
        have hso3 : ∀ j, 2 * (k + 1) ≤ j → St.Sorted (ltC c) (St.blk z j L1) := fun j hj => by
          have h1 := Nat.mul_le_mul_right z hj
          rw [hL1, St.blk_behind (X' := X ++ Y) (St.sortS_len _) (by rw [St.sortS_len, lXY, lP]; omega), ← hc5]
          exact hso2 j (by omega)
        clear hP hX hY hQ hst hso hso2
        obtain ⟨m, hm⟩ : ∃ m, m = a + z := ⟨_, rfl⟩
        obtain ⟨b2, hb2⟩ : ∃ b2, b2 = b + y := ⟨_, rfl⟩
        have w2 : IntKind.i64.wrap ((a : Int) + (z : Int)) = (m : Int) := by rw [wrap64_in _ (by omega) (by omega)]; omega
        have w3 : IntKind.i64.wrap ((b : Int) + (y : Int)) = (b2 : Int) := by rw [wrap64_in _ (by omega) (by omega)]; omega
        simp (implicitDefEqProofs := false) only [↓reduceIte, go_sem, Nat.reduceLT, Nat.reduceEqDiff, reduceCtorEq, eq_self, t1, t8, eq_true hbn]
        simp (implicitDefEqProofs := false) only [↓reduceIte, go_sem, Nat.reduceLT, Nat.reduceEqDiff, eq_self, t0, t2, t6, t7, t8, w2]
        refine KCall.ok (symMerge_does H id ver hid g caps c ho hc n (by omega) _ P X Y Q Lk L1 a m b (Nat.le_refl _) hc4 hL1 lP (by omega) (by omega) (by omega) (by omega) sX sY hlen) ?_
        simp (implicitDefEqProofs := false) only [↓reduceIte, go_sem, Nat.reduceLT, Nat.reduceEqDiff, eq_self, t6, t8, w1, w3]
        refine ⟨_, _, k + 1, Weak.refl _ _, ⟨⟨b, by omega, by omega, hbn, ?_⟩, ⟨L1, rfl, hst1, lL1, hso1, hso3⟩, ?_⟩, by omega⟩
        · simp (implicitDefEqProofs := false) only [↓reduceIte, go_sem, Nat.reduceLT, Nat.reduceEqDiff, eq_self, show ((b : Int) + (y : Int)) = (b2 : Int) by omega]
        · simp (implicitDefEqProofs := false) only [↓reduceIte, go_sem, Nat.reduceEqDiff, reduceCtorEq, eq_self, t0, t1, t2, t6]
      · simp (implicitDefEqProofs := false) only [↓reduceIte, go_sem, Nat.reduceLT, Nat.reduceEqDiff, reduceCtorEq, eq_self, t1, t8, eq_false hbn]
        refine ⟨⟨Lk, rfl, hst, hlen, k, a, ha, ha2, han, by omega, hso, hso2, ?_⟩, ?_⟩
        · simp (implicitDefEqProofs := false) only [go_sem, eq_self, t7]
        · simp (implicitDefEqProofs := false) only [go_sem, eq_self, t0, t2, t6]
    clear hst hlen hbl Lk t0 t1 t2 t6
    rintro s H' ⟨⟨Lk, rfl, hst, hlen, k, a, ha, ha2, han, hna, hso, hso2, t7⟩, t0, t1, t2, t6⟩
    have hk3 : (2 * k + 1) * z = a + z := by rw [Nat.add_mul, ← ha2, Nat.one_mul]
    have hk1 : (k + 1) * y = a + y := by rw [Nat.add_mul, ← ha, Nat.one_mul]
    obtain ⟨m, hm⟩ : ∃ m, m = a + z := ⟨_, rfl⟩
    have w2 : IntKind.i64.wrap ((a : Int) + (z : Int)) = (m : Int) := by rw [wrap64_in _ (by omega) (by omega)]; omega
    have all : ∀ L1 : List Val, L1.length = n → (∀ j, j < k + 1 → St.Sorted (ltC c) (St.blk y j L1)) → ∀ j, St.Sorted (ltC c) (St.blk y j L1) := fun L1 hl h j => by
      rcases Nat.lt_or_ge j (k + 1) with h1 | h1
      · exact h j h1
      · have := Nat.mul_le_mul_right y h1
        rw [St.blk_out (by omega)]
        exact List.Pairwise.nil
    by_cases hmn : m < n
    · obtain ⟨P, hP⟩ : ∃ P, P = Lk.take a := ⟨_, rfl⟩
      obtain ⟨X, hX⟩ : ∃ X, X = (Lk.drop a).take z := ⟨_, rfl⟩
      obtain ⟨Y, hY⟩ : ∃ Y, Y = (Lk.drop (a + z)).take z := ⟨_, rfl⟩
      have hQ : Lk.drop (a + z + z) = [] := List.drop_of_length_le (by omega)
      have hc4 : Lk = P ++ X ++ Y ++ [] := by rw [hP, hX, hY, ← hQ, St.cut4]
      have hc5 : Lk = P ++ (X ++ Y) ++ [] := by rw [hc4]; simp
      have lP : P.length = a := by rw [hP, List.length_take]; omega
      have lX : X.length = z := by rw [hX, List.length_take, List.length_drop]; omega
      have lY : Y.length = n - m := by rw [hY, List.length_take, List.length_drop]; omega
      have lXY : (X ++ Y).length ≤ y := by rw [List.length_append]; omega
      have sX : St.Sorted (ltC c) X := by have := hso2 (2 * k) (Nat.le_refl _); rw [St.blk, ← ha2, ← hX] at this; exact this
      have sY : St.Sorted (ltC c) Y := by have := hso2 (2 * k + 1) (by omega); rw [St.blk, hk3, ← hY] at this; exact this
      obtain ⟨L1, hL1⟩ : ∃ L1, L1 = P ++ St.sortS (ltC c) (X ++ Y) ++ [] := ⟨_, rfl⟩
      have lL1 : L1.length = n := by rw [hL1, ← hlen, hc5]; simp [St.sortS_len]; try omega
      have hst1 : St.StEq (ltC c) L1 L := by
        refine St.StEq.trans ?_ hst
        rw [hL1]
        have := St.steq_part ho P (X ++ Y) []
        rwa [← hc5] at this
      have hso1 : ∀ j, j < k + 1 → St.Sorted (ltC c) (St.blk y j L1) := by
        rw [hL1]; exact St.blk_more ho (by omega) (by rw [← hc5]; exact hso) (.inr ⟨lXY, rfl⟩)
      clear hP hX hY hQ hst hso hso2
      simp (implicitDefEqProofs := false) only [↓reduceIte, go_sem, Nat.reduceLT, Nat.reduceEqDiff, reduceCtorEq, eq_self, t1, t6, t7, w2, eq_true hmn]
      simp (implicitDefEqProofs := false) only [go_sem, t0, t2]
      refine KCall.ok (symMerge_does H id ver hid g caps c ho hc n (by omega) _ P X Y [] Lk L1 a m n (Nat.le_refl _) hc4 hL1 lP (by omega) (by omega) (by omega) (by omega) sX sY hlen) ?_
      simp (implicitDefEqProofs := false) only [↓reduceIte, go_sem, Nat.reduceLT, Nat.reduceEqDiff, eq_self, t6, w1']
      refine ⟨_, _, y, Weak.refl _ _, ⟨by omega, by omega, ⟨L1, rfl, hst1, lL1, all L1 lL1 hso1⟩, ?_⟩, by omega⟩
      simp (implicitDefEqProofs := false) only [↓reduceIte, go_sem, Nat.reduceLT, Nat.reduceEqDiff, reduceCtorEq, eq_self, t0, t1, t2]
    · have hso1 : ∀ j, j < k + 1 → St.Sorted (ltC c) (St.blk y j Lk) := fun j hj => by
        rcases Nat.lt_or_ge j k with h | h
        · exact hso j h
        · obtain rfl : j = k := by omega
          have h1 := hso2 (2 * j) (Nat.le_refl _)
          unfold St.blk at h1 ⊢
          rw [← ha2, List.take_of_length_le (by rw [List.length_drop]; omega)] at h1
          rw [← ha, List.take_of_length_le (by rw [List.length_drop]; omega)]
          exact h1
      simp (implicitDefEqProofs := false) only [↓reduceIte, go_sem, Nat.reduceLT, Nat.reduceEqDiff, eq_self, t1, t6, t7, w2, eq_false hmn, w1']
      refine ⟨_, _, y, Weak.refl _ _, ⟨by omega, by omega, ⟨Lk, rfl, hst, hlen, all Lk hlen hso1⟩, ?_⟩, by omega⟩
      simp (implicitDefEqProofs := false) only [↓reduceIte, go_sem, Nat.reduceLT, Nat.reduceEqDiff, reduceCtorEq, eq_self, t0, t1, t2]
  · simp (implicitDefEqProofs := false) only [↓reduceIte, go_sem, Nat.reduceLT, Nat.reduceEqDiff, eq_self, t1, t6, eq_false hzn]
    have h0 := hbl 0
    unfold St.blk at h0
    rw [Nat.zero_mul, List.drop_zero, List.take_of_length_le (by omega)] at h0
    rw [← hE1, St.sortS_eq ho h0 hst]
    exact ⟨_, Weak.refl _ _, rfl⟩
set_option maxRecDepth 10000 in
theorem sort_does (H : AHeap) (id ver : Nat) (hid : id < H.length) (g : FuncId) (caps : List AV) (c : Val → Val → Int) (ho : St.Ord (ltC c)) (hc : CmpOk g caps c H id) (n : Nat) (hbig : n ≤ 100000000000) (L : List Val) (hn : L.length = n) :
    Does Tryz.prog 39 [.sl id ver 0 n, .fn g caps] (aH H id ver L) (.ok (.tup [])) (aH H id ver (St.sortS (ltC c) L)) := by
  have gh := aH_get hid ver L
  have hs := stable_does H id ver hid g caps c ho hc n hbig L hn
  generalize aH H id ver L = E0 at *
  refine Does.of_awp (hint := (fun _ => false)) Tryz.func39 (by kernel_rfl) rfl [] (by kernel_rfl) (by decide) (by simp [Tryz.ntmps39]) ?_
  rw [Tryz.ntmps39]
  simp (implicitDefEqProofs := false) only [↓reduceIte, go_sem, Nat.reduceLT, Nat.reduceEqDiff, reduceCtorEq, eq_self, gh]
  refine KCall.ok hs ?_
  simp (implicitDefEqProofs := false) only [go_sem]
  exact ⟨_, Weak.refl _ _, rfl⟩
end SV
end Go.Proofs.YtkapgooedfompaaGreat
namespace Go.Proofs.YtkapgooedfompaaGreat
open Go.Proofs.YtkapgooedfompaaGreatAw Go.RowKit
set_option linter.unusedVariables false
set_option linter.unusedSimpArgs false
namespace SV
def EqOk (g : FuncId) (caps : List AV) (c : Val → Val → Bool) (H : AHeap) (id : Nat) : Prop := ∀ (o : AObj) (x y : Val), Does Tryz.prog g ([.agg (x.enc.map .d), .agg (y.enc.map .d)] ++ caps) (H.set id o) (.ok (bA (c x y))) (H.set id o)
def zrow : List D := [iD 0, iD 0, .v (.string ⟨#[]⟩)]
def compH (H : AHeap) (id ver : Nat) (c : Val → Val → Bool) (L : List Val) : AHeap := H.set id (.arr 45 3 ver ((St.compactP c L).map Val.enc ++ List.replicate (L.length - (St.compactP c L).length) zrow))
theorem compH_same (H : AHeap) (id ver : Nat) (c : Val → Val → Bool) (L : List Val) (h : St.compactP c L = L) : compH H id ver c L = aH H id ver L := by
  unfold compH aH
  rw [h, Nat.sub_self, List.replicate_zero, List.append_nil]
set_option maxRecDepth 10000 in
set_option maxHeartbeats 4000000 in
theorem compact_does (H : AHeap) (id ver : Nat) (hid : id < H.length) (g : FuncId) (caps : List AV) (c : Val → Val → Bool) (hc : EqOk g caps c H id) (n : Nat) (hbig : n ≤ 100000000000) (L : List Val) (hn : L.length = n) :
    Does Tryz.prog 41 [.sl id ver 0 n, .fn g caps] (aH H id ver L) (.ok (.sl id ver 0 (St.compactP c L).length)) (compH H id ver c L) := by
  have gh := aH_get hid ver L
  have hcE : ∀ M : List Val, ∀ x y : Val, Does Tryz.prog g ([.agg (x.enc.map .d), .agg (y.enc.map .d)] ++ caps) (aH H id ver M) (.ok (bA (c x y))) (aH H id ver M) := fun M x y => hc _ x y
  generalize hE1 : compH H id ver c L = E1
  by_cases h2 : n < 2
  · have hsame : St.compactP c L = L := by
      cases L with
      | nil => rfl
      | cons x t =>
        cases t with
        | nil => rfl
        | cons y t => simp at hn; omega
    have he : aH H id ver L = E1 := by rw [← hE1, compH_same _ _ _ _ _ hsame]
    rw [hsame, hn]
    generalize aH H id ver L = E0 at *
    subst he
    refine Does.of_awp (hint := (fun _ => false)) Tryz.func41 (by kernel_rfl) rfl [4] (by kernel_rfl) (by decide) (by simp [Tryz.ntmps41]) ?_
    rw [Tryz.ntmps41]
    simp (implicitDefEqProofs := false) only [↓reduceIte, go_sem, Nat.reduceLT, reduceCtorEq, eq_self, gh, show ((n : Int) < 2) = True from eq_true (by omega)]
    refine AEnd.ret0 ?_
    simp (implicitDefEqProofs := false) only [↓reduceIte, go_sem, Nat.reduceLT, eq_self]
  generalize hE0 : aH H id ver L = E0 at gh
  refine Does.of_awp (hint := (fun _ => false)) Tryz.func41 (by kernel_rfl) rfl [4] (by kernel_rfl) (by decide) (by simp [Tryz.ntmps41]) ?_
  rw [Tryz.ntmps41]
  simp (implicitDefEqProofs := false) only [↓reduceIte, go_sem, Nat.reduceLT, reduceCtorEq, eq_self, gh, show ((n : Int) < 2) = False from eq_false (by omega)]
  refine awp_for3 (fun k s H' => H' = E0 ∧ St.compactP c (L.take (k + 1)) = L.take (k + 1) ∧ s 0 = .sl id ver 0 n ∧ s 1 = .fn g caps ∧ s 5 = iA ((k : Int) + 1)) (n - 1) (by omega) (Weak.refl _ _) ?_ ?_ ?_
  · refine ⟨rfl, ?_, ?_⟩
    · cases L <;> rfl
    · simp (implicitDefEqProofs := false) only [↓reduceIte, go_sem, Nat.reduceLT, Nat.reduceEqDiff, Int.reduceAdd, reduceCtorEq, eq_self]
  · rintro k s H' hk hw ⟨rfl, hp, t0, t1, t5⟩
    obtain ⟨q, hq⟩ : ∃ q, q = k + 1 := ⟨_, rfl⟩
    obtain ⟨x, hx⟩ : ∃ x, L[q]? = some x := ⟨_, List.getElem?_eq_getElem (by omega)⟩
    obtain ⟨y, hy⟩ : ∃ y, L[k]? = some y := ⟨_, List.getElem?_eq_getElem (by omega)⟩
    have e1 : L.take (q + 1) = L.take q ++ [x] := by rw [List.take_add_one, hx]; rfl
    have hsn : St.compactP c (L.take (q + 1)) = St.compactP c (L.take q) ++ (if c x y = true then [] else [x]) := by
      rw [e1]
      exact St.compactP_snoc (k := k) (by rw [List.length_take]; omega) (by rw [List.getElem?_take, if_pos (by omega)]; exact hy)
    rw [← hq] at hp
    have f1 : ((k : Int) + 1) = (q : Int) := by omega
    rw [f1] at t5
    have gx := get_enc hx
    have gy := get_enc hy
    have hd := hcE L x y
    rw [hE0] at hd
    have w1 : IntKind.i64.wrap ((q : Int) - 1) = (k : Int) := by rw [wrap64_in _ (by omega) (by omega)]; omega
    have w2 : IntKind.i64.wrap ((q : Int) + 1) = (q : Int) + 1 := wrap64_in _ (by omega) (by omega)
    have hqn : q < n := by omega
    have hkn : k < n := by omega
    simp only [Val.enc] at gx gy
    simp only [Val.enc, List.map_cons, List.map_nil] at hd
    simp (implicitDefEqProofs := false) only [↓reduceIte, go_sem, Nat.reduceLT, Nat.reduceEqDiff, reduceCtorEq, eq_self, t0, t5, gh, eq_true hqn]
    refine awp_draw K.mixed (by kernel_rfl) ?_
    simp (implicitDefEqProofs := false) only [↓reduceIte, go_sem, oread, Nat.reduceAdd, Nat.reduceLT, Nat.reduceEqDiff, reduceCtorEq, eq_self, t0, t1, t5, gh, gx, gy, hqn, hkn, w1]
    refine KCall.ok hd ?_
    cases hcc : c x y with
    | false =>
      rw [hcc] at hsn
      simp (implicitDefEqProofs := false) only [↓reduceIte, go_sem, Nat.reduceLT, Nat.reduceEqDiff, eq_self, t5, w2]
      refine Rnd.same ⟨rfl, ?_, ?_⟩
      · rw [← hq, hsn, hp, e1]; rfl
      · simp (implicitDefEqProofs := false) only [↓reduceIte, go_sem, Nat.reduceLT, Nat.reduceEqDiff, reduceCtorEq, eq_self, t0, t1, show ((k : Int) + 1) = (q : Int) by omega]
    | true =>
      rw [hcc] at hsn
      have hsn2 : St.compactP c (L.take (q + 1)) = L.take q := by rw [hsn, hp]; simp
      simp (implicitDefEqProofs := false) only [↓reduceIte, go_sem, Nat.reduceLT, Nat.reduceEqDiff, reduceCtorEq, eq_self, t0, t5, gh]
      refine ⟨by omega, .inr (by omega), ?_⟩
      have hnq : ((n : Int).toNat - q) = n - q := by omega
      refine awp_for3 (fun k2 s H' => (∃ C K1, H' = aH H id ver C ∧ C = K1 ++ L.drop K1.length ∧ K1 = St.compactP c (L.take (q + k2 + 1)) ∧ K1.length ≤ q + k2 ∧ s 5 = iA K1.length) ∧ s 0 = .sl id ver 0 n ∧ s 1 = .fn g caps ∧ s 6 = .sl id ver q (n - q) ∧ s 7 = iA ((k2 : Int) + 1)) (n - q - 1) (by omega) (Weak.refl _ _) ?_ ?_ ?_
      · refine ⟨⟨L, L.take q, hE0.symm, ?_, ?_, ?_, ?_⟩, ?_⟩
        · rw [List.length_take, Nat.min_eq_left (by omega), List.take_append_drop]
        · rw [Nat.add_zero]; exact hsn2.symm
        · rw [List.length_take]; omega
        · rw [List.length_take, Nat.min_eq_left (by omega)]; simp (implicitDefEqProofs := false) only [↓reduceIte, go_sem, Nat.reduceEqDiff, eq_self, t5]
        · simp (implicitDefEqProofs := false) only [↓reduceIte, go_sem, Nat.reduceLT, Nat.reduceEqDiff, Int.reduceAdd, reduceCtorEq, eq_self, t0, t1]
      · rintro k2 s H' hk2 hw3 ⟨⟨C, K1, rfl, hC, hK1, hKl, t5⟩, t0, t1, t6, t7⟩
        obtain ⟨u, hu⟩ : ∃ u, u = k2 + 1 := ⟨_, rfl⟩
        obtain ⟨v, hv⟩ : ∃ v, v = q + u := ⟨_, rfl⟩
        obtain ⟨x2, hx2⟩ : ∃ x, L[v]? = some x := ⟨_, List.getElem?_eq_getElem (by omega)⟩
        obtain ⟨y2, hy2⟩ : ∃ y, L[v - 1]? = some y := ⟨_, List.getElem?_eq_getElem (by omega)⟩
        have hCg : ∀ i, K1.length ≤ i → C[i]? = L[i]? := fun i hi => by
          rw [hC, List.getElem?_append_right hi, List.getElem?_drop, Nat.add_sub_cancel' hi]
        have hCl : C.length = n := by rw [hC, List.length_append, List.length_drop]; omega
        have e2 : L.take (v + 1) = L.take v ++ [x2] := by rw [List.take_add_one, hx2]; rfl
        have hsn3 : St.compactP c (L.take (v + 1)) = K1 ++ (if c x2 y2 = true then [] else [x2]) := by
          rw [e2, hK1, show q + k2 + 1 = v by omega]
          exact St.compactP_snoc (k := v - 1) (by rw [List.length_take]; omega) (by rw [List.getElem?_take, if_pos (by omega)]; exact hy2)
        have gx2 := get_enc ((hCg v (by omega)).trans hx2)
        have gy2 := get_enc ((hCg (v - 1) (by omega)).trans hy2)
        have hd2 := hcE C x2 y2
        have gC := aH_get hid ver C
        have f2 : ((k2 : Int) + 1) = (u : Int) := by omega
        rw [f2] at t7
        have w3 : IntKind.i64.wrap ((u : Int) - 1) = (k2 : Int) := by rw [wrap64_in _ (by omega) (by omega)]; omega
        have w4 : IntKind.i64.wrap ((u : Int) + 1) = (u : Int) + 1 := wrap64_in _ (by omega) (by omega)
        have f3 : q + u = v := hv.symm
        have f4 : q + k2 = v - 1 := by omega
        have hun : u < n - q := by omega
        have hkn2 : k2 < n - q := by omega
        simp only [Val.enc] at gx2 gy2
        simp only [Val.enc, List.map_cons, List.map_nil] at hd2
        simp (implicitDefEqProofs := false) only [↓reduceIte, go_sem, Nat.reduceLT, Nat.reduceEqDiff, eq_self, t6, t7, gC, eq_true hun]
        refine awp_draw K.mixed (by kernel_rfl) ?_
        simp (implicitDefEqProofs := false) only [↓reduceIte, go_sem, oread, Nat.reduceAdd, Nat.reduceLT, Nat.reduceEqDiff, eq_self, t1, t6, t7, gC, w3, hun, hkn2, f3, f4, gx2, gy2]
        refine KCall.ok hd2 ?_
        cases hc2 : c x2 y2 with
        | true =>
          rw [hc2] at hsn3
          simp (implicitDefEqProofs := false) only [↓reduceIte, go_sem, Nat.reduceLT, Nat.reduceEqDiff, eq_self, t7, w4]
          refine Rnd.same ⟨⟨C, K1, rfl, hC, ?_, by omega, ?_⟩, ?_⟩
          · rw [show q + (k2 + 1) + 1 = v + 1 by omega, hsn3]; simp
          · simp (implicitDefEqProofs := false) only [↓reduceIte, go_sem, Nat.reduceEqDiff, eq_self, t5]
          · simp (implicitDefEqProofs := false) only [↓reduceIte, go_sem, Nat.reduceLT, Nat.reduceEqDiff, reduceCtorEq, eq_self, t0, t1, t6, show ((k2 : Int) + 1) = (u : Int) by omega]
        | false =>
          rw [hc2] at hsn3
          obtain ⟨r, hr⟩ : ∃ r, r = K1.length := ⟨_, rfl⟩
          rw [← hr] at t5
          have hrn : r < n := by omega
          have w5 : IntKind.i64.wrap ((r : Int) + 1) = ((r + 1 : Nat) : Int) := by rw [wrap64_in _ (by omega) (by omega)]; omega
          obtain ⟨r2, hr2⟩ : ∃ r2, r2 = r + 1 := ⟨_, rfl⟩
          rw [← hr2] at w5
          have s1 := set_enc C r x2
          obtain ⟨z0, hz0⟩ : ∃ z, C[r]? = some z := ⟨_, List.getElem?_eq_getElem (by omega)⟩
          have gz := get_enc hz0
          simp only [Val.enc] at s1 gz
          simp (implicitDefEqProofs := false) only [↓reduceIte, go_sem, oread, owrite, Nat.reduceAdd, Nat.reduceLT, Nat.reduceEqDiff, reduceCtorEq, eq_self, t0, t5, t6, t7, gC, hun, hrn, f3, gx2, gz, s1, aH_set, w4, w5]
          refine Rnd.same ⟨⟨C.set r x2, K1 ++ [x2], by rw [← aH_fold], ?_, ?_, ?_, ?_⟩, ?_⟩
          · have e3 : L.drop r = L[r]'(by omega) :: L.drop (r + 1) := List.drop_eq_getElem_cons (by omega)
            rw [hC, ← hr, e3, set_at hr.symm]; simp [hr]
          · rw [show q + (k2 + 1) + 1 = v + 1 by omega, hsn3]; simp
          · rw [List.length_append, List.length_singleton]; omega
          · simp (implicitDefEqProofs := false) only [↓reduceIte, go_sem, Nat.reduceLT, Nat.reduceEqDiff, eq_self, List.length_append, show ((K1.length : Int) + 1) = (r2 : Int) by omega]
          · simp (implicitDefEqProofs := false) only [↓reduceIte, go_sem, Nat.reduceLT, Nat.reduceEqDiff, reduceCtorEq, eq_self, t0, t1, t6, show ((k2 : Int) + 1) = (u : Int) by omega]
      · rintro s H' ⟨⟨C, K1, rfl, hC, hK1, hKl, t5⟩, t0, t1, t6, t7⟩
        have hK2 : St.compactP c L = K1 := by rw [hK1, List.take_of_length_le (by omega)]
        have hCl : C.length = n := by rw [hC, List.length_append, List.length_drop]; omega
        have gC := aH_get hid ver C
        have hlt : ((((n - q - 1 : Nat) : Int) + 1) < ((n - q : Nat) : Int)) = False := eq_false (by omega)
        obtain ⟨r, hr⟩ : ∃ r, r = K1.length := ⟨_, rfl⟩
        rw [← hr] at t5
        have hrn : ((n : Int).toNat - r) = n - r := by omega
        have hCt : C.take r = K1 := by rw [hC, hr, List.take_left]
        have hsr : setRows (C.map Val.enc) r (zrows (.agg #[.int .i64 0, .int .i64 0, .string ⟨#[]⟩]) (n - r)) = (St.compactP c L).map Val.enc ++ List.replicate (L.length - (St.compactP c L).length) zrow := by
          unfold setRows
          rw [← List.map_take, hCt, List.drop_of_length_le (by simp [zrows]; omega), List.append_nil, hK2, hn, ← hr]
          rfl
        have hfo : H.set id (.arr 45 3 ver ((St.compactP c L).map Val.enc ++ List.replicate (L.length - (St.compactP c L).length) zrow)) = E1 := hE1
        have gE : E1[id]? = some (.arr 45 3 ver ((St.compactP c L).map Val.enc ++ List.replicate (L.length - (St.compactP c L).length) zrow)) := by rw [← hfo]; simp [hid]
        simp (implicitDefEqProofs := false) only [↓reduceIte, go_sem, Nat.reduceAdd, Nat.reduceLT, Nat.reduceEqDiff, reduceCtorEq, eq_self, t0, t5, t6, t7, gC, hlt]
        refine ⟨by omega, .inr (by omega), ?_⟩
        rw [hsr, aH_set, hfo]
        simp (implicitDefEqProofs := false) only [↓reduceIte, go_sem, Nat.reduceLT, Int.reduceLE, Int.reduceToNat, eq_self, gE]
        refine ⟨by omega, .inl trivial, _, Weak.refl _ _, ?_⟩
        simp (implicitDefEqProofs := false) only [↓reduceIte, go_sem, Nat.reduceLT, eq_self, hK2, ← hr, Nat.sub_zero]
  · rintro s H' ⟨rfl, hp, t0, t1, t5⟩
    have hsame : St.compactP c L = L := by rwa [show n - 1 + 1 = n by omega, ← hn, List.take_length] at hp
    have he : H' = E1 := by rw [← hE1, compH_same _ _ _ _ _ hsame, hE0]
    simp (implicitDefEqProofs := false) only [↓reduceIte, go_sem, Nat.reduceLT, Nat.reduceEqDiff, reduceCtorEq, eq_self, t0, t5, gh, show (((n - 1 : Nat) : Int) + 1 < (n : Int)) = False from eq_false (by omega)]
    rw [← he, hsame, hn]
    refine AEnd.ret0 ?_
    simp (implicitDefEqProofs := false) only [↓reduceIte, go_sem, Nat.reduceLT, eq_self]
end SV
end Go.Proofs.YtkapgooedfompaaGreat
namespace Go.Proofs.YtkapgooedfompaaGreat
open Go.Proofs.YtkapgooedfompaaGreatAw Go.RowKit
set_option linter.unusedVariables false
set_option linter.unusedSimpArgs false
set_option maxRecDepth 10000 in
set_option maxHeartbeats 1000000 in
theorem same01_does (l m : List Nat) (n1 n2 : Bool) (H : AHeap) (hl : l.length ≤ 9223372036854775807) :
    Does Tryz.prog 13 [.d (.list n1 (us l)), .d (.list n2 (us m))] H (.ok (bA (decide (l = m)))) H := by
  refine Does.of_awp (hint := (fun _ => false)) Tryz.func13 (by kernel_rfl) rfl [4] (by kernel_rfl) (by decide) (by simp [Tryz.ntmps13]) ?_
  rw [Tryz.ntmps13]
  simp (implicitDefEqProofs := false) only [↓reduceIte, go_sem, Nat.reduceLT, Nat.reduceEqDiff, reduceCtorEq, eq_self, us_len]
  by_cases hlm : l.length = m.length
  · refine awp_F (by simp (implicitDefEqProofs := false) only [go_sem, eq_self, hlm]) ?_
    simp (implicitDefEqProofs := false) only [go_sem]
    refine awp_for3 (fun k s H' => H' = H ∧ l.take k = m.take k ∧ s 0 = .d (.list n1 (us l)) ∧ s 1 = .d (.list n2 (us m)) ∧ s 5 = iA k) l.length hl (Weak.refl _ _) ?_ ?_ ?_
    · simp (implicitDefEqProofs := false) only [↓reduceIte, go_sem, Nat.reduceLT, Nat.reduceEqDiff, reduceCtorEq, eq_self, List.take_zero]
    · rintro k s H' hk hw ⟨rfl, hp, h0, h1, h5⟩
      have hx := us_get l k hk
      have hy := us_get m k (by omega)
      have e1 := List.take_succ_eq_append_getElem hk
      have e2 := List.take_succ_eq_append_getElem (show k < m.length by omega)
      have e3 : ∀ (g : l = m), l[k] = m[k]'(by omega) := by intro g; subst g; rfl
      generalize l[k] = x at hx e1 e3
      generalize m[k]'(by omega) = y at hy e2 e3
      simp (implicitDefEqProofs := false) only [↓reduceIte, go_sem, Nat.reduceLT, Nat.reduceEqDiff, reduceCtorEq, eq_self, h0, h5, hk, us_len]
      refine awp_draw K.mixed (by kernel_rfl) ?_
      simp (implicitDefEqProofs := false) only [↓reduceIte, go_sem, Nat.reduceLT, Nat.reduceEqDiff, reduceCtorEq, eq_self, h0, h1, h5, hx, hy]
      by_cases hxy : (x : Int) = (y : Int)
      · refine awp_F (by simp (implicitDefEqProofs := false) only [go_sem, eq_self, hxy]) ?_
        simp (implicitDefEqProofs := false) only [↓reduceIte, go_sem, Nat.reduceLT, Nat.reduceEqDiff, eq_self, h5]
        refine Rnd.same ⟨rfl, by rw [e1, e2, hp, show x = y by omega], ?_⟩
        simp (implicitDefEqProofs := false) only [↓reduceIte, go_sem, Nat.reduceLT, Nat.reduceEqDiff, reduceCtorEq, eq_self, h0, h1, hw]
      · refine awp_T (by simp (implicitDefEqProofs := false) only [go_sem, eq_self, hxy]) ?_
        simp (implicitDefEqProofs := false) only [go_sem]
        refine AEnd.ret0 ?_
        simp (implicitDefEqProofs := false) only [↓reduceIte, go_sem, Nat.reduceLT, eq_self, show ¬ l = m from fun g => hxy (by rw [e3 g])]
    · rintro s H' ⟨rfl, hp, h0, h1, h5⟩
      simp (implicitDefEqProofs := false) only [↓reduceIte, go_sem, Nat.reduceLT, Nat.reduceEqDiff, reduceCtorEq, eq_self, h0, h5, us_len]
      refine AEnd.ret0 ?_
      rw [List.take_length, hlm, List.take_length] at hp
      simp (implicitDefEqProofs := false) only [↓reduceIte, go_sem, Nat.reduceLT, eq_self, hp]
  · simp (implicitDefEqProofs := false) only [go_sem, show ((l.length : Int) = (m.length : Int)) = False from eq_false (by omega)]
    refine AEnd.ret0 ?_
    simp (implicitDefEqProofs := false) only [↓reduceIte, go_sem, Nat.reduceLT, eq_self, show ¬ l = m from fun g => hlm (by rw [g])]
end Go.Proofs.YtkapgooedfompaaGreat
namespace Go.Proofs.YtkapgooedfompaaGreat
open Go.Proofs.YtkapgooedfompaaGreatAw Go.RowKit
set_option linter.unusedVariables false
set_option linter.unusedSimpArgs false
def eqV (a b : Val) : Bool := decide (cmpV a b = 0)
set_option maxRecDepth 10000 in
set_option maxHeartbeats 1000000 in
theorem words1_does (a b : Val) (H : AHeap) : Does Tryz.prog 42 [a.av, b.av] H (.ok (bA (eqV a b))) H := by
  refine Does.of_awp (hint := (fun _ => false)) Tryz.func42 (by kernel_rfl) rfl [4] (by kernel_rfl) (by decide) (by simp [Tryz.ntmps42]) ?_
  rw [Tryz.ntmps42]
  simp (implicitDefEqProofs := false) only [↓reduceIte, go_sem, oread, Nat.reduceAdd, Nat.reduceLT, Nat.reduceEqDiff, eq_self]
  refine KCall.ok (vcmp_does a b _) ?_
  simp (implicitDefEqProofs := false) only [↓reduceIte, go_sem, Nat.reduceLT, eq_self]
  refine AEnd.ret ?_
  simp (implicitDefEqProofs := false) only [↓reduceIte, go_sem, Nat.reduceLT, eq_self, eqV]
theorem wordsP_len {α : Type} (c : α → α → Int) (l : List α) : (wordsP c l).length ≤ l.length := by
  have h := St.compactP_len (eq := fun a b => decide (c a b = 0)) (St.sortS (ltT c) l)
  rwa [St.sortS_len] at h
set_option maxRecDepth 10000 in
set_option maxHeartbeats 1000000 in
theorem words_does (l : List Val) (nn : Bool) (H : AHeap) (hl : l.length ≤ 10000000000) : Does Tryz.prog 14 [.d (.list nn (l.map Val.enc))] H (.ok (.d (.list false ((wordsP cmpV l).map Val.enc)))) H := by
  have ho : St.Ord (SV.ltC cmpV) := cmpV_tri.ord
  obtain ⟨H1, hH1⟩ : ∃ H1, H1 = H ++ [AObj.arr 45 3 1 (l.map Val.enc)] := ⟨_, rfl⟩
  have hid : H.length < H1.length := by rw [hH1]; simp
  have e0 : H1 = SV.aH H1 H.length 1 l := by
    unfold SV.aH
    rw [hH1]; simp
  have hs := SV.sort_does H1 H.length 1 hid 40 [] cmpV ho (fun o x y => vcmp_does x y _) l.length (by omega) l rfl
  rw [← e0] at hs
  have hc := SV.compact_does H1 H.length 1 hid 42 [] eqV (fun o x y => words1_does x y _) l.length (by omega) (St.sortS (SV.ltC cmpV) l) (St.sortS_len _)
  have hk := SV.clone_does l nn H (by omega)
  rw [← hH1] at hk
  have hn : St.compactP eqV (St.sortS (SV.ltC cmpV) l) = wordsP cmpV l := rfl
  have hfin : SV.compH H1 H.length 1 eqV (St.sortS (SV.ltC cmpV) l) = H ++ [AObj.arr 45 3 1 ((wordsP cmpV l).map Val.enc ++ List.replicate (l.length - (wordsP cmpV l).length) SV.zrow)] := by
    unfold SV.compH
    rw [hH1, St.sortS_len, hn]
    simp
  refine Does.of_awp (hint := (fun _ => false)) Tryz.func14 (by kernel_rfl) rfl [2] (by kernel_rfl) (by decide) (by simp [Tryz.ntmps14]) ?_
  rw [Tryz.ntmps14]
  simp (implicitDefEqProofs := false) only [↓reduceIte, go_sem, Nat.reduceLT, reduceCtorEq, eq_self]
  refine KCall.ok hk ?_
  simp (implicitDefEqProofs := false) only [↓reduceIte, go_sem, Nat.reduceLT, eq_self]
  refine KCall.ok hs ?_
  simp (implicitDefEqProofs := false) only [↓reduceIte, go_sem, Nat.reduceLT, Nat.reduceEqDiff, eq_self]
  refine KCall.ok hc ?_
  rw [hfin]
  simp (implicitDefEqProofs := false) only [↓reduceIte, go_sem, Nat.reduceLT, eq_self, hn]
  refine AEnd.ret ?_
  have ht : ((wordsP cmpV l).map Val.enc ++ List.replicate (l.length - (wordsP cmpV l).length) SV.zrow).take (wordsP cmpV l).length = (wordsP cmpV l).map Val.enc := by rw [List.take_left' (by simp)]
  simp (implicitDefEqProofs := false) only [↓reduceIte, go_sem, Nat.reduceLT, eq_self, ht]
def fsum : List Val → Nat → Nat
  | [], n => n
  | v :: r, n => if n ≤ 100000 then fsum r (n + v.s.size) else n
theorem fsum_cons (v : Val) (r : List Val) (n : Nat) : fsum (v :: r) n = if n ≤ 100000 then fsum r (n + v.s.size) else n := rfl
def fewP (l : List Val) : Bool := decide (l.length ≤ 1000) && decide (fsum l 0 ≤ 100000)
theorem fewP_len {l : List Val} (h : fewP l = true) : l.length ≤ 1000 := by
  unfold fewP at h
  simp at h
  exact h.1
set_option maxRecDepth 10000 in
set_option maxHeartbeats 1000000 in
theorem few09_does (l : List Val) (nn : Bool) (H : AHeap) (hl : l.length ≤ 1000000000000000) (hs : ∀ v ∈ l, v.s.size ≤ 140737488351232) : Does Tryz.prog 5 [.d (.list nn (l.map Val.enc))] H (.ok (bA (fewP l))) H := by
  refine Does.of_awp (hint := (fun _ => false)) Tryz.func5 (by kernel_rfl) rfl [2] (by kernel_rfl) (by decide) (by simp [Tryz.ntmps5]) ?_
  rw [Tryz.ntmps5]
  simp (implicitDefEqProofs := false) only [go_sem]
  refine awp_loop _ _ _ _ (fun (k : Nat) s H' => H' = H ∧ k ≤ l.length ∧ (∃ n : Nat, n ≤ 150000000000000 ∧ fsum l 0 = fsum (l.drop k) n ∧ s 3 = iA n) ∧ s 0 = .d (.list nn (l.map Val.enc)) ∧ s 4 = iA k) (fun k => l.length - k) 0 (Weak.refl _ _) ?_ ?_
  · refine ⟨rfl, Nat.zero_le _, ⟨0, by omega, rfl, ?_⟩, ?_⟩
    · simp (implicitDefEqProofs := false) only [↓reduceIte, go_sem, Nat.reduceLT, Nat.reduceEqDiff, eq_self]
    · simp (implicitDefEqProofs := false) only [↓reduceIte, go_sem, Nat.reduceLT, reduceCtorEq, eq_self]
  · rintro k s H' ⟨rfl, hk, ⟨n, hn, hf, t3⟩, t0, t4⟩
    have hw1 : IntKind.i64.wrap ((k : Int) + 1) = (k : Int) + 1 := wrap64_in _ (by omega) (by omega)
    have fin : (k = l.length ∨ 100000 < n) → fsum l 0 = n := by
      rintro (h | h)
      · rw [hf, List.drop_of_length_le (by omega)]; rfl
      · rw [hf]
        cases l.drop k with
        | nil => rfl
        | cons v r => rw [fsum_cons, if_neg (by omega)]
    by_cases hkl : k < l.length
    · by_cases hn2 : n ≤ 100000
      · have hx := List.getElem?_eq_getElem hkl
        have e1 := List.drop_eq_getElem_cons hkl
        have hxs := hs _ (List.getElem_mem hkl)
        generalize l[k] = x at hx e1 hxs
        have hf2 : fsum l 0 = fsum (l.drop (k + 1)) (n + x.s.size) := by rw [hf, e1, fsum_cons, if_pos hn2]
        obtain ⟨n2, hn2'⟩ : ∃ n2, n2 = n + x.s.size := ⟨_, rfl⟩
        have hw2 : IntKind.i64.wrap ((n : Int) + (x.s.size : Int)) = (n2 : Int) := by rw [wrap64_in _ (by omega) (by omega)]; omega
        simp (implicitDefEqProofs := false) only [↓reduceIte, go_sem, Nat.reduceLT, Nat.reduceEqDiff, reduceCtorEq, eq_self, t0, t3, t4, eq_true hkl, show ((n : Int) ≤ 100000) = True from eq_true (by omega)]
        simp (implicitDefEqProofs := false) only [↓reduceIte, go_sem, Nat.reduceAdd, Nat.reduceLT, Nat.reduceLeDiff, Nat.reduceEqDiff, eq_self, t4, hx, Val.enc, hw2, hw1]
        refine ⟨_, _, k + 1, Weak.refl _ _, ⟨rfl, hkl, ⟨n2, by omega, by rw [hn2']; exact hf2, ?_⟩, ?_⟩, by omega⟩
        · simp (implicitDefEqProofs := false) only [↓reduceIte, go_sem, Nat.reduceLT, Nat.reduceEqDiff, eq_self]
        · simp (implicitDefEqProofs := false) only [↓reduceIte, go_sem, Nat.reduceLT, reduceCtorEq, eq_self, t0]
      · simp (implicitDefEqProofs := false) only [↓reduceIte, go_sem, Nat.reduceLT, Nat.reduceEqDiff, reduceCtorEq, eq_self, t0, t3, t4, eq_true hkl, show ((n : Int) ≤ 100000) = False from eq_false (by omega)]
        have hfe : fewP l = false := by unfold fewP; rw [fin (.inr (by omega))]; simp; omega
        by_cases h1 : l.length ≤ 1000
        · simp (implicitDefEqProofs := false) only [↓reduceIte, go_sem, Nat.reduceLT, Nat.reduceEqDiff, eq_self, t3, show ((l.length : Int) ≤ 1000) = True from eq_true (by omega), show ((n : Int) ≤ 100000) = False from eq_false (by omega)]
          refine AEnd.ret0 ?_
          simp (implicitDefEqProofs := false) only [↓reduceIte, go_sem, Nat.reduceLT, eq_self, hfe]
        · simp (implicitDefEqProofs := false) only [↓reduceIte, go_sem, Nat.reduceLT, Nat.reduceEqDiff, reduceCtorEq, eq_self, show ((l.length : Int) ≤ 1000) = False from eq_false (by omega)]
          refine AEnd.ret0 ?_
          simp (implicitDefEqProofs := false) only [↓reduceIte, go_sem, Nat.reduceLT, eq_self, hfe]
    · simp (implicitDefEqProofs := false) only [↓reduceIte, go_sem, Nat.reduceLT, Nat.reduceEqDiff, reduceCtorEq, eq_self, t0, t4, eq_false hkl]
      have hfe : fewP l = (decide (l.length ≤ 1000) && decide (n ≤ 100000)) := by unfold fewP; rw [fin (.inl (by omega))]
      by_cases h1 : l.length ≤ 1000
      · by_cases h2 : n ≤ 100000
        · simp (implicitDefEqProofs := false) only [↓reduceIte, go_sem, Nat.reduceLT, Nat.reduceEqDiff, eq_self, t3, show ((l.length : Int) ≤ 1000) = True from eq_true (by omega), show ((n : Int) ≤ 100000) = True from eq_true (by omega)]
          refine AEnd.ret0 ?_
          simp (implicitDefEqProofs := false) only [↓reduceIte, go_sem, Nat.reduceLT, eq_self, hfe, h1, h2, Bool.and_self]
        · simp (implicitDefEqProofs := false) only [↓reduceIte, go_sem, Nat.reduceLT, Nat.reduceEqDiff, eq_self, t3, show ((l.length : Int) ≤ 1000) = True from eq_true (by omega), show ((n : Int) ≤ 100000) = False from eq_false (by omega)]
          refine AEnd.ret0 ?_
          simp (implicitDefEqProofs := false) only [↓reduceIte, go_sem, Nat.reduceLT, eq_self, hfe, h1, h2, Bool.and_false]
      · simp (implicitDefEqProofs := false) only [↓reduceIte, go_sem, Nat.reduceLT, Nat.reduceEqDiff, reduceCtorEq, eq_self, show ((l.length : Int) ≤ 1000) = False from eq_false (by omega)]
        refine AEnd.ret0 ?_
        simp (implicitDefEqProofs := false) only [↓reduceIte, go_sem, Nat.reduceLT, eq_self, hfe, h1, Bool.false_and]
def txA : Val := ⟨3, 0, ⟨#[97]⟩⟩
def txB : Val := ⟨3, 0, ⟨#[98]⟩⟩
theorem ab : cmpV txA txB = -1 := by simp [cmpV, txA, txB, cmpS, lessS, Op.bytesLess, ordI]
theorem ba : cmpV txB txA = 1 := by simp [cmpV, txA, txB, cmpS, lessS, Op.bytesLess, ordI]
theorem bb : cmpV txB txB = 0 := cmpV_tri.self _
theorem aa : cmpV txA txA = 0 := cmpV_tri.self _
theorem ex_words : wordsP cmpV [txB, txA, txB] = [txA, txB] := by
  simp [wordsP, St.sortS, St.ins, ltT, ab, ba, bb, St.compactP, St.cgo]
theorem ex_place : placeP [txA, txB] txA = 0 ∧ placeP [txA, txB] txB = 1 := by
  simp [placeP, idxP, ab, ba, bb, aa, List.findIdx_cons]
theorem ex_codes : codesR [txA, txB] [txB, txA, txB] = .tup [.d (.list false (us [1, 0, 1])), iA 0] := by
  simp [codesR, codesP, codesE, codesOk, ex_place]
theorem ex_below : belowP [txA, txB] txB = 1 := by simp [belowP, ab, bb]
set_option maxRecDepth 10000 in
set_option maxHeartbeats 1000000 in
theorem shown09_does (H : AHeap) : Does Tryz.prog 4 [] H (.ok (bA true)) H := by
  have h1 := fun H => words_does [txB, txA, txB] true H (by simp)
  rw [ex_words] at h1
  have h2 := fun H => codes_does [txA, txB] [txB, txA, txB] false true H (by simp) (by simp)
  rw [ex_codes] at h2
  have h3 := fun H => below_does [txA, txB] txB false H (by simp)
  rw [ex_below] at h3
  refine Does.of_awp (hint := (fun _ => false)) Tryz.func4 (by kernel_rfl) rfl [0] (by kernel_rfl) (by decide) (by simp [Tryz.ntmps4]) ?_
  rw [Tryz.ntmps4]
  simp (implicitDefEqProofs := false) only [↓reduceIte, go_sem, oread, owrite, Nat.reduceAdd, Nat.reduceMul, Nat.reduceLT, Nat.reduceLeDiff, Nat.reduceEqDiff, eq_self]
  refine KCall.ok (h1 _) ?_
  simp (implicitDefEqProofs := false) only [↓reduceIte, go_sem, oread, Nat.reduceAdd, Nat.reduceMul, Nat.reduceLT, Nat.reduceLeDiff, Nat.reduceEqDiff, eq_self]
  refine KCall.ok (h2 _) ?_
  simp (implicitDefEqProofs := false) only [↓reduceIte, go_sem, oread, Nat.reduceAdd, Nat.reduceMul, Nat.reduceLT, Nat.reduceLeDiff, Nat.reduceEqDiff, eq_self]
  refine KCall.ok (same05_does [txA, txB] [txA, txB] false true _ (by simp)) ?_
  simp (implicitDefEqProofs := false) only [↓reduceIte, go_sem, Nat.reduceAdd, Nat.reduceLT, Nat.reduceLeDiff, Nat.reduceEqDiff, eq_self]
  refine KCall.ok (same01_does [1, 0, 1] [1, 0, 1] false true _ (by simp)) ?_
  simp (implicitDefEqProofs := false) only [↓reduceIte, go_sem, oread, Nat.reduceAdd, Nat.reduceLT, Nat.reduceEqDiff, eq_self]
  refine KCall.ok (h3 _) ?_
  simp (implicitDefEqProofs := false) only [↓reduceIte, go_sem, Nat.reduceLT, Nat.reduceEqDiff, eq_self]
  refine AEnd.ret ?_
  simp (implicitDefEqProofs := false) only [↓reduceIte, go_sem, Nat.reduceLT, eq_self]
end Go.Proofs.YtkapgooedfompaaGreat
namespace Go.Proofs.YtkapgooedfompaaGreat
open Go.Proofs.YtkapgooedfompaaGreatAw Go.RowKit
set_option linter.unusedVariables false
set_option linter.unusedSimpArgs false
theorem Tri.congr_l {α : Type} {c : α → α → Int} (h : Tri c) {x y z : α} (e : c x y = 0) : c x z < 0 ↔ c y z < 0 := by
  have e' := (h.zero x y).1 e
  constructor
  · intro g
    rcases h.ntrans x y z g with g1 | g1
    · omega
    · exact g1
  · intro g
    rcases h.ntrans y x z g with g1 | g1
    · omega
    · exact g1
def Rise (W : List Val) : Prop := W.Pairwise (fun x y => ltT cmpV x y = true)
theorem Rise.get {W : List Val} (h : Rise W) {i j : Nat} {x y : Val} (hx : W[i]? = some x) (hy : W[j]? = some y) : cmpV x y < 0 ↔ i < j := by
  have key : ∀ {i j : Nat} {x y : Val}, W[i]? = some x → W[j]? = some y → i < j → cmpV x y < 0 := by
    intro i j x y hx hy hij
    obtain ⟨h1, rfl⟩ := List.getElem?_eq_some_iff.1 hx
    obtain ⟨h2, rfl⟩ := List.getElem?_eq_some_iff.1 hy
    have := List.pairwise_iff_getElem.1 h i j h1 h2 hij
    simpa [ltT] using this
  constructor
  · intro g
    rcases Nat.lt_trichotomy i j with h1 | h1 | h1
    · exact h1
    · subst h1
      rw [hx] at hy; cases hy
      have := cmpV_tri.self x
      omega
    · have := key hy hx h1
      have := (cmpV_tri.anti x y).1 g
      omega
  · exact key hx hy
theorem Rise.below {v : Val} : ∀ {W : List Val}, Rise W → ∀ {i : Nat} {y : Val}, W[i]? = some y → (cmpV y v < 0 ↔ i < belowP W v)
  | [], _, i, y, hy => by simp at hy
  | x :: t, h, i, y, hy => by
    have h1 := List.pairwise_cons.1 h
    have hb : belowP (x :: t) v = belowP t v + if cmpV x v < 0 then 1 else 0 := by
      unfold belowP
      rw [List.countP_cons]
      by_cases h : cmpV x v < 0 <;> simp [h]
    by_cases hx : cmpV x v < 0
    · rw [hb, if_pos hx]
      cases i with
      | zero =>
        simp at hy; subst hy
        simp [hx]
      | succ i =>
        have := Rise.below (v := v) h1.2 (i := i) (y := y) (by simpa using hy)
        omega
    · rw [hb, if_neg hx, Nat.add_zero]
      have hz : belowP t v = 0 := by
        unfold belowP
        rw [List.countP_eq_zero]
        intro w hw
        have h2 := h1.1 w hw
        intro h3
        have h4 := cmpV_tri.ord.trans h2 (show ltT cmpV w v = true by simpa [ltT] using h3)
        exact hx (by simpa [ltT] using h4)
      rw [hz]
      refine ⟨fun g => ?_, fun g => by omega⟩
      exfalso
      cases i with
      | zero => simp at hy; subst hy; exact hx g
      | succ i =>
        have hyt : y ∈ t := List.mem_of_getElem? (i := i) (by simpa using hy)
        have : 0 < belowP t v := by
          unfold belowP
          rw [List.countP_pos_iff]
          exact ⟨y, hyt, by simpa using g⟩
        omega
theorem words_Rise (l : List Val) : Rise (wordsP cmpV l) := words_rise cmpV_tri l
theorem place_spec {W : List Val} {a : Val} (h : ∃ y ∈ W, cmpV y a = 0) : ∃ (i : Nat) (y : Val), placeP W a = i ∧ W[i]? = some y ∧ cmpV y a = 0 := by
  obtain ⟨y, hy, hc⟩ := h
  have hany : W.any (fun w => decide (cmpV w a = 0)) = true := List.any_eq_true.2 ⟨y, hy, by simpa using hc⟩
  have hlt : W.findIdx (fun w => decide (cmpV w a = 0)) < W.length := List.findIdx_lt_length_of_exists ⟨y, hy, by simpa using hc⟩
  refine ⟨W.findIdx (fun w => decide (cmpV w a = 0)), W[W.findIdx (fun w => decide (cmpV w a = 0))], ?_, List.getElem?_eq_getElem hlt, ?_⟩
  · unfold placeP idxP
    rw [if_pos hany]
  · have := List.findIdx_getElem (w := hlt)
    simpa using this
theorem words_place {l : List Val} {a : Val} (h : a ∈ l) : ∃ (i : Nat) (y : Val), placeP (wordsP cmpV l) a = i ∧ (wordsP cmpV l)[i]? = some y ∧ cmpV y a = 0 := by
  obtain ⟨y, hy, hc⟩ := words_has cmpV_tri h
  exact place_spec ⟨y, hy, (cmpV_tri.zero a y).1 hc⟩
def codeW (l : List Val) (a : Val) : Nat := (placeP (wordsP cmpV l) a).toNat
theorem codesOk_words (l : List Val) : codesOk (wordsP cmpV l) l = true := by
  unfold codesOk
  rw [List.all_eq_true]
  intro a ha
  obtain ⟨i, y, hi, _⟩ := words_place ha
  rw [hi]; simp
theorem codesR_words (l : List Val) : codesR (wordsP cmpV l) l = .tup [.d (.list false (us (l.map (codeW l)))), iA 0] := by
  unfold codesR codesP codesE
  rw [codesOk_words]
  rfl
end Go.Proofs.YtkapgooedfompaaGreat
namespace Go.Proofs.YtkapgooedfompaaGreat
open Go.Proofs.YtkapgooedfompaaGreatAw Go.RowKit
set_option linter.unusedVariables false
set_option linter.unusedSimpArgs false
def widP (n : Nat) : Nat := lenN (n - 1)
theorem widP_le {n : Nat} (h : n ≤ 4096) : widP n ≤ 12 := (lenN_le _ 12).2 (by omega)
theorem widP_one (n : Nat) : widthP [n] = lenN n := by simp [widthP]
set_option maxRecDepth 10000 in
theorem dwidth_does (n : Nat) (hn : n ≤ 1000000000000) (H : AHeap) : Does Tryz.prog 22 [iA n] H (.ok (iA (widP n))) H := by
  have hw := fun H => width_does [n - 1] true H (by simp) (by intro x hx; simp at hx; omega)
  rw [widP_one] at hw
  have m : max (IntKind.i64.wrap ((n : Int) - 1)) 0 = ((n - 1 : Nat) : Int) := by rw [wrap64_in _ (by omega) (by omega)]; omega
  have u := wrapU64N (n - 1) (by omega)
  have hus : us [n - 1] = [[.v (.int .u64 ((n - 1 : Nat) : Int))]] := rfl
  rw [hus] at hw
  unfold widP
  generalize ((n - 1 : Nat) : Int) = q at *
  generalize lenN (n - 1) = r at *
  refine Does.of_awp (hint := (fun _ => false)) Tryz.func22 (by kernel_rfl) rfl [2] (by kernel_rfl) (by decide) (by simp [Tryz.ntmps22]) ?_
  rw [Tryz.ntmps22]
  simp (implicitDefEqProofs := false) only [↓reduceIte, go_sem, Nat.reduceLT, Nat.reduceLeDiff, reduceCtorEq, eq_self, m, u, List.foldl_cons, List.foldl_nil]
  refine KCall.ok (hw _) ?_
  simp (implicitDefEqProofs := false) only [↓reduceIte, go_sem, Nat.reduceLT, eq_self]
  refine AEnd.ret0 ?_
  simp (implicitDefEqProofs := false) only [↓reduceIte, go_sem, Nat.reduceLT, eq_self]
def wbytes (W : List Val) : List Nat := W.flatMap valB
theorem wbytes_snoc (W : List Val) (v : Val) : wbytes (W ++ [v]) = wbytes W ++ valB v := by simp [wbytes]
/-- Dict's bytes. -/
def dictB (l : List Val) : List Nat := putP (wordsP cmpV l).length ++ wbytes (wordsP cmpV l) ++ packP (l.map (codeW l)) (widP (wordsP cmpV l).length)
def dictL (l : List Val) (k : Int) : List Nat := if plainP l k = 0 then dictB l else []
theorem plainP_may {l : List Val} {k : Int} (h : plainP l k = 0) : ∀ v ∈ l, mayV v = true := by
  unfold plainP at h
  intro v hv
  by_cases h1 : l.any (fun v => !mayV v) = true
  · rw [if_pos h1] at h
    repeat' split at h
    all_goals omega
  · have h2 : l.any (fun v => !mayV v) = false := by simpa using h1
    have := List.any_eq_false.1 h2 v hv
    simpa using this
theorem codeW_lt {l : List Val} {a : Val} (h : a ∈ l) : codeW l a < (wordsP cmpV l).length := by
  obtain ⟨i, y, h1, h2, _⟩ := words_place h
  unfold codeW
  rw [h1]
  have := (List.getElem?_eq_some_iff.1 h2).1
  omega
theorem words_len (l : List Val) : (wordsP cmpV l).length ≤ l.length := by
  have h := St.compactP_len (eq := fun a b => decide (cmpV a b = 0)) (St.sortS (ltT cmpV) l)
  rwa [St.sortS_len] at h
theorem code_fits {l : List Val} : ∀ n ∈ l.map (codeW l), n < 2 ^ widP (wordsP cmpV l).length := fun n hn => by
  obtain ⟨a, ha, rfl⟩ := List.mem_map.1 hn
  have h1 := codeW_lt ha
  have h2 := (lenN_le ((wordsP cmpV l).length - 1) (widP (wordsP cmpV l).length)).1 (Nat.le_refl _)
  omega
theorem valB_len {v : Val} (hi : -9223372036854775808 ≤ v.i ∧ v.i ≤ 9223372036854775807) (hm : mayV v = true) : (valB v).length ≤ 1035 := by
  unfold valB
  have hz := zigP_lt hi.1 hi.2
  by_cases h1 : v.kind = 1
  · rw [if_pos h1]; have := putP_len 10 (zigP v.i) (by omega); omega
  rw [if_neg h1]
  by_cases h2 : v.kind = 2
  · rw [if_pos h2, beP_len]; omega
  rw [if_neg h2]
  by_cases h3 : v.kind = 3
  · rw [if_pos h3]
    have hs := may_size hm h3
    have := putP_len 10 v.s.size (by omega)
    rw [textP, List.length_append, sbytes_len]
    omega
  · rw [if_neg h3]; simp
set_option maxRecDepth 10000 in
set_option maxHeartbeats 2000000 in
theorem dictBytes_does (l : List Val) (k : Int) (hok : ∀ v ∈ l, I64 v.i) (H : AHeap) (hl : l.length ≤ 1000000000000) :
    Does Tryz.prog 6 [.d (.list false (l.map Val.enc)), iA k] H (.ok (.tup [.d (.list false (bys (dictL l k))), iA (plainP l k)])) H := by
  by_cases hp : plainP l k = 0
  · have hd : dictL l k = dictB l := by unfold dictL; rw [if_pos hp]
    have hmay := plainP_may hp
    have h4 := plainP_len hp
    have hwl := words_len l
    have hW : ∀ w ∈ wordsP cmpV l, w ∈ l := fun w hw => words_mem cmpV_tri hw
    have hcf := code_fits (l := l)
    have hcd := fun H => codes_does (wordsP cmpV l) l false false H (by omega) (by omega)
    have hwd := fun H => words_does l false H (by omega)
    rw [codesR_words] at hcd
    have hB : dictB l = putP (wordsP cmpV l).length ++ wbytes (wordsP cmpV l) ++ packP (l.map (codeW l)) (widP (wordsP cmpV l).length) := rfl
    have hcl : (l.map (codeW l)).length = l.length := by simp
    rw [hd, hp]
    generalize l.map (codeW l) = C at *
    generalize wordsP cmpV l = W at *
    have hpk := packP
    have hwid := widP_le (n := W.length) (by omega)
    have l1 := putP_len 10 W.length (by omega)
    have hWb : ∀ k, k ≤ W.length → (wbytes (W.take k)).length ≤ k * 1035 := by
      intro k
      induction k with
      | zero => intro _; simp [wbytes]
      | succ k ih =>
        intro hk
        have hk' : k < W.length := by omega
        rw [List.take_succ_eq_append_getElem hk', wbytes_snoc, List.length_append]
        have h1 := ih (by omega)
        have hm := hW _ (List.getElem_mem hk')
        have h2 := valB_len (hok _ hm) (hmay _ hm)
        omega
    refine Does.of_awp (hint := (fun _ => false)) Tryz.func6 (by kernel_rfl) rfl [4, 5] (by kernel_rfl) (by decide) (by simp [Tryz.ntmps6]) ?_
    rw [Tryz.ntmps6]
    simp (implicitDefEqProofs := false) only [↓reduceIte, go_sem, Nat.reduceLT, Nat.reduceEqDiff, reduceCtorEq, eq_self]
    refine KCall.ok (plain_does l k false _ (by omega)) ?_
    rw [hp]
    simp (implicitDefEqProofs := false) only [↓reduceIte, go_sem, Nat.reduceLT, reduceCtorEq, eq_self]
    refine KCall.ok (hwd _) ?_
    simp (implicitDefEqProofs := false) only [↓reduceIte, go_sem, Nat.reduceLT, eq_self, List.length_map, wrapU64N W.length (by omega)]
    refine KCall.ok (putOwn_does W.length (by omega) _) ?_
    simp (implicitDefEqProofs := false) only [↓reduceIte, go_sem, Nat.reduceLT, Nat.reduceEqDiff, eq_self, List.length_map]
    refine awp_for (fun j s H' => ∃ ver, H' = H ++ [.arr 5 1 ver (bys (putP W.length ++ wbytes (W.take j)))] ∧ s 0 = .d (.list false (l.map Val.enc)) ∧ s 7 = .d (.list false (W.map Val.enc)) ∧ s 8 = .sl H.length ver 0 (putP W.length ++ wbytes (W.take j)).length ∧ s 29 = .d (.list false (W.map Val.enc)) ∧ s 30 = iA W.length ∧ s 31 = iA j) W.length (by omega) (Weak.refl _ _) ?_ ?_ ?_
    · refine ⟨(putP W.length).length, ?_, ?_⟩
      · rw [show wbytes (W.take 0) = [] from rfl, List.append_nil]
      · rw [show wbytes (W.take 0) = [] from rfl, List.append_nil]
        simp (implicitDefEqProofs := false) only [↓reduceIte, go_sem, Nat.reduceLT, Nat.reduceEqDiff, reduceCtorEq, eq_self]
    · rintro j s H' hj hw ⟨ver, rfl, t0, t7, t8, t29, t30, t31⟩
      have hx := List.getElem?_eq_getElem hj
      have hm := hW _ (List.getElem_mem hj)
      have hb := hWb j (by omega)
      have hvl := valB_len (hok _ hm) (hmay _ hm)
      have e1 : putP W.length ++ wbytes (W.take (j + 1)) = (putP W.length ++ wbytes (W.take j)) ++ valB W[j] := by rw [List.take_succ_eq_append_getElem hj, wbytes_snoc, List.append_assoc]
      have hvd := fun H => valBytes_does W[j] (hok _ hm) (hmay _ hm) H
      rw [e1]
      have hBl : (putP W.length ++ wbytes (W.take j)).length ≤ 11 + j * 1035 := by rw [List.length_append]; omega
      generalize putP W.length ++ wbytes (W.take j) = B at *
      generalize W[j] = w at *
      simp (implicitDefEqProofs := false) only [↓reduceIte, go_sem, oread, owrite, Nat.reduceAdd, Nat.reduceLT, Nat.reduceEqDiff, eq_self, t29, t30, t31, hj, hx, Val.enc]
      refine KCall.ok (hvd _) ?_
      simp (implicitDefEqProofs := false) only [↓reduceIte, go_sem, Nat.reduceLT, Nat.reduceEqDiff, eq_self, t8, bys_one, bys_len, bys_app]
      refine ⟨by omega, by omega, ?_⟩
      simp (implicitDefEqProofs := false) only [↓reduceIte, go_sem, Nat.reduceLT, eq_self, t31]
      refine Rnd.cut [.arr 5 1 (ver + 1) (bys (B ++ valB w))] [.box 45 3 0 1 [iA w.kind, iA w.i, sA w.s]] 1 rfl rfl (by simp (implicitDefEqProofs := false) only [go_sem, eq_self]) ?_
      refine ⟨ver + 1, rfl, ?_⟩
      simp (implicitDefEqProofs := false) only [↓reduceIte, go_sem, Nat.reduceLT, Nat.reduceEqDiff, reduceCtorEq, eq_self, t0, t7, t29, t30, hw]
    · rintro s H' ⟨ver, rfl, t0, t7, t8, t29, t30, t31⟩
      rw [show W.take W.length = W from List.take_length] at *
      have hb := hWb W.length (Nat.le_refl _)
      rw [List.take_length] at hb
      have l3 : (packP C (widP W.length)).length ≤ 100000 := by
        rw [packP, packB_len, bitsL_len]
        have : C.length * widP W.length ≤ 4096 * 12 := Nat.mul_le_mul (by omega) hwid
        omega
      have l4 : (putP W.length ++ wbytes W).length ≤ 11 + 4096 * 1035 := by rw [List.length_append]; omega
      simp (implicitDefEqProofs := false) only [↓reduceIte, go_sem, Nat.reduceLT, Nat.reduceEqDiff, reduceCtorEq, eq_self, t0, t7, t30, t31]
      refine KCall.ok (hcd _) ?_
      simp (implicitDefEqProofs := false) only [↓reduceIte, go_sem, Nat.reduceLT, Nat.reduceEqDiff, eq_self, t7, List.length_map]
      refine KCall.ok (dwidth_does W.length (by omega) _) ?_
      simp (implicitDefEqProofs := false) only [↓reduceIte, go_sem, Nat.reduceLT, Nat.reduceEqDiff, eq_self]
      refine KCall.ok (pack_does C (widP W.length) (by omega) hcf (by omega) false _) ?_
      rw [hB]
      generalize packP C (widP W.length) = Z at *
      generalize putP W.length ++ wbytes W = B at *
      simp (implicitDefEqProofs := false) only [↓reduceIte, go_sem, Nat.reduceLT, Nat.reduceEqDiff, eq_self, t8, bys_one, bys_len, bys_app]
      refine ⟨by omega, by omega, AEnd.ret ?_⟩
      have ht : (bys (B ++ Z)).take (B.length + Z.length) = bys (B ++ Z) := List.take_of_length_le (by rw [bys_len, List.length_append]; omega)
      simp (implicitDefEqProofs := false) only [↓reduceIte, go_sem, Nat.reduceLT, Nat.reduceEqDiff, eq_self, ht]
  · have hd : dictL l k = [] := by unfold dictL; rw [if_neg hp]
    rw [hd]
    refine Does.subT (cs := [.d (.v (.slice none 0 0)), iA (plainP l k)]) ?_ (.cons .nil (.cons (.refl _) .nil))
    refine Does.of_awp (hint := (fun _ => false)) Tryz.func6 (by kernel_rfl) rfl [4, 5] (by kernel_rfl) (by decide) (by simp [Tryz.ntmps6]) ?_
    rw [Tryz.ntmps6]
    simp (implicitDefEqProofs := false) only [↓reduceIte, go_sem, Nat.reduceLT, Nat.reduceEqDiff, reduceCtorEq, eq_self]
    refine KCall.ok (plain_does l k false _ (by omega)) ?_
    simp (implicitDefEqProofs := false) only [↓reduceIte, go_sem, Nat.reduceLT, Nat.reduceEqDiff, eq_self, hp]
    refine AEnd.ret0 ?_
    simp (implicitDefEqProofs := false) only [↓reduceIte, go_sem, Nat.reduceLT, Nat.reduceEqDiff, eq_self]
end Go.Proofs.YtkapgooedfompaaGreat
namespace Go.Proofs.YtkapgooedfompaaGreat
open Go.Proofs.YtkapgooedfompaaGreatAw Go.RowKit
set_option linter.unusedVariables false
set_option linter.unusedSimpArgs false
set_option maxRecDepth 10000 in
theorem plainNone_does (k : Int) (H : AHeap) : Does Tryz.prog 29 [.d (.v (.slice none 0 0)), iA 0, iA k] H (.ok (.tup [.d (.v (.slice none 0 0)), iA (if kindsP k then 0 else 1)])) H := by
  cases hk : kindsP k with
  | false =>
    refine Does.of_awp (hint := (fun _ => false)) Tryz.func29 (by kernel_rfl) rfl [6, 7] (by kernel_rfl) (by decide) (by simp [Tryz.ntmps29]) ?_
    rw [Tryz.ntmps29]
    simp (implicitDefEqProofs := false) only [↓reduceIte, go_sem, oread, Nat.reduceLT, Nat.reduceEqDiff, eq_self]
    refine KCall.ok (kinds_does k _) ?_
    simp (implicitDefEqProofs := false) only [↓reduceIte, go_sem, Nat.reduceLT, eq_self, hk]
    refine AEnd.ret ?_
    simp (implicitDefEqProofs := false) only [↓reduceIte, go_sem, Nat.reduceLT, Nat.reduceEqDiff, eq_self, Bool.false_eq_true]
  | true =>
    refine Does.of_awp (hint := (fun _ => false)) Tryz.func29 (by kernel_rfl) rfl [6, 7] (by kernel_rfl) (by decide) (by simp [Tryz.ntmps29]) ?_
    rw [Tryz.ntmps29]
    simp (implicitDefEqProofs := false) only [↓reduceIte, go_sem, oread, Nat.reduceLT, Nat.reduceEqDiff, eq_self]
    refine KCall.ok (kinds_does k _) ?_
    simp (implicitDefEqProofs := false) only [↓reduceIte, go_sem, Nat.reduceLT, Nat.reduceEqDiff, Int.reduceLT, reduceCtorEq, eq_self, hk]
    refine awp_for (fun j s H' => H' = H ++ [.box 23 1 0 1 [.d (.v (.slice none 0 0))], .box 3 1 0 1 [iA k]] ∧ s 3 = .ptr H.length 0 0 0 ∧ s 9 = .d (.v (.slice none 0 0)) ∧ s 24 = iA 0 ∧ s 25 = iA j) 0 (by omega) (Weak.refl _ _) ?_ ?_ ?_
    · refine ⟨rfl, ?_⟩
      simp (implicitDefEqProofs := false) only [↓reduceIte, go_sem, Nat.reduceLT, Nat.reduceEqDiff, eq_self]
    · rintro j s H' hj
      omega
    · rintro s H' ⟨rfl, t3, t9, t24, t25⟩
      simp (implicitDefEqProofs := false) only [↓reduceIte, go_sem, oread, Nat.reduceLT, Nat.reduceEqDiff, Int.reduceLT, eq_self, t3, t9, t24, t25]
      refine AEnd.ret ?_
      simp (implicitDefEqProofs := false) only [↓reduceIte, go_sem, Nat.reduceLT, Nat.reduceEqDiff, eq_self]
def toldC (o : List Nat) (c : Nat) : List Nat := if c ∈ o then o else o ++ [c]
def toldL (l : List Nat) : List Nat := l.foldl toldC []
def toldE (l : List Nat) : List (Int × AV) := l.map fun (c : Nat) => ((c : Int), bA true)
theorem mpIdx_in (c : Nat) : ∀ (l : List Nat) (i : Nat), c ∈ l → ∃ j, mpIdx (c : Int) (toldE l) i = some (i + j, bA true) ∧ l[j]? = some c
  | [], _, h => by simp at h
  | m :: l, i, h => by
    simp only [toldE, List.map_cons, mpIdx]
    by_cases e : c = m
    · exact ⟨0, by simp [e], by simp [e]⟩
    · rw [if_neg (by omega)]
      obtain ⟨j, h1, h2⟩ := mpIdx_in c l (i + 1) (by simpa [e] using h)
      exact ⟨j + 1, by rw [show mpIdx (c : Int) (List.map (fun (c : Nat) => ((c : Int), bA true)) l) (i + 1) = _ from h1, Nat.add_assoc, Nat.add_comm 1], by simpa using h2⟩
theorem mpIdx_out (c : Nat) : ∀ (l : List Nat) (i : Nat), c ∉ l → mpIdx (c : Int) (toldE l) i = none
  | [], _, _ => rfl
  | m :: l, i, h => by
    simp only [List.mem_cons, not_or] at h
    simp only [toldE, List.map_cons, mpIdx]
    rw [if_neg (by omega)]
    exact mpIdx_out c l (i + 1) h.2
theorem toldE_len (l : List Nat) : (toldE l).length = l.length := by simp [toldE]
theorem mpPut_told (c : Nat) (l : List Nat) : mpPut (c : Int) (bA true) (toldE l) = toldE (toldC l c) := by
  unfold mpPut toldC
  by_cases h : c ∈ l
  · obtain ⟨j, h1, h2⟩ := mpIdx_in c l 0 h
    rw [if_pos h, h1, Nat.zero_add]
    simp only
    obtain ⟨hj, he⟩ := List.getElem?_eq_some_iff.1 h2
    apply List.ext_getElem
    · simp
    · intro i i1 i2
      rw [List.getElem_set]
      split
      · rename_i e
        subst e
        simp [toldE, he]
      · rfl
  · rw [if_neg h, mpIdx_out c l 0 h]
    simp [toldE]
theorem toldL_take (l : List Nat) (k : Nat) (h : k < l.length) : toldL (l.take (k + 1)) = toldC (toldL (l.take k)) l[k] := by
  unfold toldL
  rw [List.take_succ_eq_append_getElem h, List.foldl_append]; rfl
theorem toldC_mem (o : List Nat) (c x : Nat) : x ∈ toldC o c ↔ x ∈ o ∨ x = c := by
  unfold toldC
  split
  · rename_i h
    constructor
    · exact .inl
    · rintro (h' | rfl)
      · exact h'
      · exact h
  · simp
theorem toldF_mem (x : Nat) : ∀ (l o : List Nat), x ∈ l.foldl toldC o ↔ x ∈ o ∨ x ∈ l
  | [], o => by simp
  | c :: l, o => by
    rw [List.foldl_cons, toldF_mem x l, toldC_mem, List.mem_cons, or_assoc]
theorem toldL_mem (l : List Nat) (x : Nat) : x ∈ toldL l ↔ x ∈ l := by
  unfold toldL
  rw [toldF_mem]; simp
theorem toldC_len (o : List Nat) (c : Nat) : (toldC o c).length ≤ o.length + 1 := by unfold toldC; split <;> simp
theorem toldF_len : ∀ (l o : List Nat), (l.foldl toldC o).length ≤ o.length + l.length
  | [], o => by simp
  | c :: l, o => by
    rw [List.foldl_cons, List.length_cons]
    have h1 := toldF_len l (toldC o c)
    have h2 := toldC_len o c
    omega
theorem toldL_len (l : List Nat) : (toldL l).length ≤ l.length := by have := toldF_len l []; simpa [toldL] using this
def usedP (codes : List Nat) (n : Nat) : Bool := (toldL codes).all (fun c => decide (c < n)) && decide ((toldL codes).length = n)
/-- Places that differ and are below a number are no more than it. -/
theorem seen_len : ∀ {m : Nat} {seen : List Nat}, seen.Nodup → (∀ j ∈ seen, j < m) → seen.length ≤ m
  | 0, seen, _, hm => by
    cases seen with
    | nil => simp
    | cons j r => have := hm j (by simp); omega
  | m + 1, seen, h, hm => by
    by_cases hi : m ∈ seen
    · have h1 := seen_len (m := m) (h.erase m) fun j hj => by
        have h2 := (h.mem_erase_iff).1 hj
        have := hm j h2.2
        omega
      rw [List.length_erase_of_mem hi] at h1
      omega
    · have h1 := seen_len (m := m) h fun j hj => by
        have := hm j hj
        have : j ≠ m := fun e => hi (e ▸ hj)
        omega
      omega
set_option maxRecDepth 10000 in
set_option maxHeartbeats 1000000 in
theorem used_does (codes : List Nat) (n : Nat) (H : AHeap) (hn : n ≤ 1000000000000) (hl : codes.length ≤ 1000000000000) (hc : ∀ c ∈ codes, c < 18446744073709551616) :
    Does Tryz.prog 33 [.d (.list false (us codes)), iA n] H (.ok (bA (usedP codes n))) H := by
  have hU : usedP codes n = ((toldL codes).all (fun c => decide (c < n)) && decide ((toldL codes).length = n)) := rfl
  have hml := toldL_len codes
  have hnu := wrapU64N n (by omega)
  refine Does.of_awp (hint := (fun _ => false)) Tryz.func33 (by kernel_rfl) rfl [4] (by kernel_rfl) (by decide) (by simp [Tryz.ntmps33]) ?_
  rw [Tryz.ntmps33]
  simp (implicitDefEqProofs := false) only [↓reduceIte, go_sem, Nat.reduceLT, reduceCtorEq, eq_self]
  refine awp_for (fun k s H' => H' = H ++ [.mp .u64 (toldE (toldL (codes.take k)))] ∧ s 1 = iA n ∧ s 5 = .mp H.length ∧ s 10 = .d (.list false (us codes)) ∧ s 11 = iA codes.length ∧ s 12 = iA k) codes.length (by omega) (Weak.refl _ _) ?_ ?_ ?_
  · refine ⟨rfl, ?_⟩
    simp (implicitDefEqProofs := false) only [↓reduceIte, go_sem, Nat.reduceLT, Nat.reduceEqDiff, eq_self, us_len]
  · rintro k s H' hk hw ⟨rfl, t1, t5, t10, t11, t12⟩
    have hx := us_get codes k hk
    have hp := mpPut_told codes[k] (toldL (codes.take k))
    rw [toldL_take codes k hk]
    generalize codes[k] = c at *
    generalize toldL (codes.take k) = o at *
    simp (implicitDefEqProofs := false) only [↓reduceIte, go_sem, Nat.reduceLT, Nat.reduceEqDiff, eq_self, t5, t10, t11, t12, hk, hx, hp]
    refine Rnd.same ⟨rfl, ?_⟩
    simp (implicitDefEqProofs := false) only [↓reduceIte, go_sem, Nat.reduceLT, Nat.reduceEqDiff, eq_self, t1, t5, t10, t11, hw]
  · rintro s H' ⟨rfl, t1, t5, t10, t11, t12⟩
    rw [List.take_length]
    have hE : ∀ j e, (toldE (toldL codes))[j]? = some e → ∃ c : Nat, (toldL codes)[j]? = some c ∧ e = ((c : Int), bA true) ∧ c < 18446744073709551616 := fun j e he => by
      unfold toldE at he
      rw [List.getElem?_map] at he
      rcases hc' : (toldL codes)[j]? with _ | (c : Nat)
      · rw [hc'] at he; simp at he
      · rw [hc'] at he
        simp at he
        exact ⟨c, hc', he.symm, hc c ((toldL_mem codes c).1 (List.mem_of_getElem? hc'))⟩
    generalize hT : toldL codes = T at *
    have hel := toldE_len T
    simp (implicitDefEqProofs := false) only [↓reduceIte, go_sem, Nat.reduceLT, Nat.reduceEqDiff, eq_self, t5, t11, t12]
    refine awp_loop Tryz.prog _ _ _ (fun seen s H' => H' = H ++ [.mp .u64 (toldE T), .iter H.length T.length seen] ∧ seen.Nodup ∧ (∀ j ∈ seen, j < T.length ∧ ∀ c, T[j]? = some c → c < n) ∧ s 1 = iA n ∧ s 5 = .mp H.length ∧ s 20 = .ptr (H.length + 1) 0 0 0) (fun seen => T.length - seen.length) [] (Weak.refl _ _) ?_ ?_
    · refine ⟨by rw [hel], List.nodup_nil, by simp, ?_⟩
      simp (implicitDefEqProofs := false) only [↓reduceIte, go_sem, Nat.reduceLT, Nat.reduceEqDiff, eq_self, t1, t5]
    · rintro seen s H' ⟨rfl, hnd, hse, t1, t5, t20⟩
      simp (implicitDefEqProofs := false) only [↓reduceIte, go_sem, Nat.reduceLT, Nat.reduceEqDiff, eq_self, t1, t5, t20, hel]
      refine ⟨?_, ?_⟩
      · intro hall
        have hq : usedP codes n = decide (T.length = n) := by
          rw [hU, List.all_eq_true.2 fun c hc => ?_, Bool.true_and]
          obtain ⟨j, hj, rfl⟩ := List.mem_iff_getElem.1 hc
          simpa using (hse j (hall j hj)).2 _ (List.getElem?_eq_getElem hj)
        refine AEnd.ret ?_
        rw [hq, show decide (T.length = n) = decide ((T.length : Int) = (n : Int)) from decide_eq_decide.2 (by omega)]
        simp (implicitDefEqProofs := false) only [↓reduceIte, go_sem, Nat.reduceLT, eq_self]
      · intro j e hj hns
        obtain ⟨c, h1, rfl, h3⟩ := hE j e hj
        have hjl := (List.getElem?_eq_some_iff.1 h1).1
        by_cases hcn : n ≤ c
        · have hq : usedP codes n = false := by
            rw [hU, Bool.and_eq_false_iff]
            exact .inl (List.all_eq_false.2 ⟨c, List.mem_of_getElem? h1, by simpa using hcn⟩)
          simp (implicitDefEqProofs := false) only [↓reduceIte, go_sem, Nat.reduceLT, Nat.reduceEqDiff, eq_self, List.getLast?_concat, hj, hel, t1, hnu, hcn]
          refine AEnd.ret ?_
          rw [hq]
          simp (implicitDefEqProofs := false) only [↓reduceIte, go_sem, Nat.reduceLT, eq_self]
        · simp (implicitDefEqProofs := false) only [↓reduceIte, go_sem, Nat.reduceLT, Nat.reduceEqDiff, eq_self, List.getLast?_concat, hj, hel, t1, hnu, hcn]
          refine ⟨_, _, seen ++ [j], Weak.refl _ _, ⟨rfl, ?_, ?_, ?_⟩, ?_⟩
          · rw [List.nodup_append]
            refine ⟨hnd, by simp, fun a ha b hb e => ?_⟩
            simp at hb
            subst hb
            exact hns (e ▸ ha)
          · intro i hi
            rcases List.mem_append.1 hi with h | h
            · exact hse i h
            · simp at h
              subst h
              refine ⟨hjl, fun d hd => ?_⟩
              rw [h1] at hd
              cases hd
              omega
          · simp (implicitDefEqProofs := false) only [↓reduceIte, go_sem, Nat.reduceEqDiff, eq_self, t1, t5, t20]
          · have hnd2 : (seen ++ [j]).Nodup := by
              rw [List.nodup_append]
              refine ⟨hnd, by simp, fun a ha b hb e => ?_⟩
              simp at hb
              subst hb
              exact hns (e ▸ ha)
            have := seen_len hnd2 (m := T.length) fun i hi => by
              rcases List.mem_append.1 hi with h | h
              · exact (hse i h).1
              · simp at h; subst h; exact hjl
            simp only [List.length_append, List.length_singleton] at this ⊢
            omega
end Go.Proofs.YtkapgooedfompaaGreat
namespace Go.Proofs.YtkapgooedfompaaGreat
open Go.Proofs.YtkapgooedfompaaGreatAw Go.RowKit
set_option linter.unusedVariables false
set_option linter.unusedSimpArgs false
/-- So many values one behind the other. -/
def readN (k : Int) : Nat → List Nat → List Val × List Nat × Int
  | 0, b => ([], b, 0)
  | n + 1, b => if (ofV b k).2.2 = 0 then (if (readN k n (ofV b k).2.1).2.2 = 0 then ((ofV b k).1 :: (readN k n (ofV b k).2.1).1, (readN k n (ofV b k).2.1).2.1, 0) else ([], [], (readN k n (ofV b k).2.1).2.2)) else ([], [], (ofV b k).2.2)
def joinR (L : List Val) (q : List Val × List Nat × Int) : List Val × List Nat × Int := if q.2.2 = 0 then (L ++ q.1, q.2.1, 0) else ([], [], q.2.2)
theorem joinR_nil (k : Int) (n : Nat) (b : List Nat) : joinR [] (readN k n b) = readN k n b := by
  cases n with
  | zero => simp [joinR, readN]
  | succ n =>
    unfold joinR readN
    split
    · split
      · rfl
      · rename_i h; simp []
    · rename_i h; simp []
theorem joinR_step {k : Int} {n : Nat} {b r : List Nat} {v : Val} (L : List Val) (h : ofV b k = (v, r, 0)) : joinR L (readN k (n + 1) b) = joinR (L ++ [v]) (readN k n r) := by
  unfold joinR
  rw [show readN k (n + 1) b = if (ofV b k).2.2 = 0 then (if (readN k n (ofV b k).2.1).2.2 = 0 then ((ofV b k).1 :: (readN k n (ofV b k).2.1).1, (readN k n (ofV b k).2.1).2.1, 0) else ([], [], (readN k n (ofV b k).2.1).2.2)) else ([], [], (ofV b k).2.2) from rfl, h]
  simp only [if_true]
  by_cases h2 : (readN k n r).2.2 = 0
  · simp [h2]
  · simp [h2]
theorem joinR_stop {k : Int} {n : Nat} {b r : List Nat} {v : Val} {e : Int} (L : List Val) (h : ofV b k = (v, r, e)) (he : e ≠ 0) : joinR L (readN k (n + 1) b) = ([], [], e) := by
  unfold joinR
  rw [show readN k (n + 1) b = if (ofV b k).2.2 = 0 then (if (readN k n (ofV b k).2.1).2.2 = 0 then ((ofV b k).1 :: (readN k n (ofV b k).2.1).1, (readN k n (ofV b k).2.1).2.1, 0) else ([], [], (readN k n (ofV b k).2.1).2.2)) else ([], [], (ofV b k).2.2) from rfl, h]
  simp [he]
theorem ofV_suffix (b : List Nat) (k : Int) : ∃ j, (ofV b k).2.1 = b.drop j := by
  have nil : ∃ j, ([] : List Nat) = b.drop j := ⟨b.length, by simp⟩
  unfold ofV
  split
  · exact ⟨0, rfl⟩
  split
  · split
    · exact ⟨_, rfl⟩
    · exact nil
  split
  · unfold floatV
    split
    · exact nil
    · split
      · exact ⟨8, rfl⟩
      · exact nil
  split
  · split
    · unfold toTextP
      obtain ⟨j, h⟩ := numP_suffix 10 0 b
      rcases hn : numP 10 0 b with ⟨_ | n, r⟩
      · exact nil
      · rw [hn] at h
        simp only at h ⊢
        split
        · exact nil
        · split
          · exact nil
          · exact ⟨j + n, by rw [h, List.drop_drop]⟩
    · exact nil
  · exact nil
/-- Each word is below the next. -/
def RiseN (W : List Val) : Prop := ∀ i x y, W[i]? = some x → W[i + 1]? = some y → cmpV x y < 0
noncomputable instance RiseN.dec (W : List Val) : Decidable (RiseN W) := Classical.propDecidable _
noncomputable def readR (k : Int) (n : Nat) (b : List Nat) : List Val × List Nat × Int := if (readN k n b).2.2 = 0 then (if RiseN (readN k n b).1 then readN k n b else ([], [], 4)) else ([], [], (readN k n b).2.2)
theorem readN_err {k : Int} {n : Nat} {b : List Nat} (h : (readN k n b).2.2 ≠ 0) : readN k n b = ([], [], (readN k n b).2.2) := by
  have := joinR_nil k n b
  unfold joinR at this
  rw [if_neg h] at this
  exact this.symm
set_option maxRecDepth 10000 in
set_option maxHeartbeats 2000000 in
theorem dread_does' (b : List Nat) (m : Nat) (k : Int) (hm : m ≤ 4096) (hl : b.length ≤ 140737488351232) (hb : ∀ c ∈ b, c < 256) (H : AHeap) :
    Does Tryz.prog 31 [.d (.list false (bys b)), iA m, iA k] H (.ok (if (readR k m b).2.2 = 0 then .tup [.d (.list false ((readR k m b).1.map Val.enc)), .d (.list false (bys (readR k m b).2.1)), iA 0] else .tup [.d (.v (.slice none 0 0)), .d (.v (.slice none 0 0)), iA (readR k m b).2.2])) H := by
  have hR : readR k m b = if (readN k m b).2.2 = 0 then (if RiseN (readN k m b).1 then readN k m b else ([], [], 4)) else ([], [], (readN k m b).2.2) := by unfold readR; rfl
  have hj0 := joinR_nil k m b
  refine Does.of_awp (hint := (fun _ => false)) Tryz.func31 (by kernel_rfl) rfl [6, 7, 8] (by kernel_rfl) (by decide) (by simp [Tryz.ntmps31]) ?_
  rw [Tryz.ntmps31]
  simp (implicitDefEqProofs := false) only [↓reduceIte, go_sem, Nat.reduceEqDiff]
  refine awp_for (fun j s H' => ∃ L c, H' = H ++ [.arr 45 3 j (L.map Val.enc)] ∧ L.length = j ∧ c.length ≤ b.length ∧ (∀ x ∈ c, x < 256) ∧ joinR L (readN k (m - j) c) = readN k m b ∧ s 0 = .d (.list false (bys c)) ∧ s 2 = iA k ∧ s 9 = .sl H.length j 0 j ∧ s 14 = iA m ∧ s 15 = iA j) m (by omega) (Weak.virt1 _ _ 9 45 3 (by decide) (by simp (implicitDefEqProofs := false) only [↓reduceIte, go_sem, Nat.reduceLT, Nat.reduceEqDiff, eq_self]) _) ?_ ?_ ?_
  · refine ⟨[], b, rfl, rfl, Nat.le_refl _, hb, by simpa using hj0, ?_⟩
    simp (implicitDefEqProofs := false) only [↓reduceIte, go_sem, Nat.reduceLT, Nat.reduceEqDiff, reduceCtorEq, eq_self]
  · rintro j s H' hj hw ⟨L, c, rfl, hL, hcl, hcb, hjoin, t0, t2, t9, t14, t15⟩
    have hod := fun H => valOf_does c k (by omega) hcb H
    obtain ⟨p, hp⟩ := ofV_suffix c k
    obtain ⟨q, hq⟩ : ∃ q, m - j = q + 1 := ⟨m - j - 1, by omega⟩
    have hst := fun v r h => joinR_step (k := k) (n := q) (b := c) (r := r) (v := v) L h
    have hsp := fun v r e h he => joinR_stop (k := k) (n := q) (b := c) (r := r) (v := v) (e := e) L h he
    rw [hq] at hjoin
    rcases hv : ofV c k with ⟨v, r, e⟩
    simp only [hv] at hod hp hst hsp
    simp (implicitDefEqProofs := false) only [↓reduceIte, go_sem, Nat.reduceLT, Nat.reduceEqDiff, reduceCtorEq, eq_self, t0, t2, t14, t15, hj]
    refine KCall.ok (hod _) ?_
    by_cases he : e = 0
    · subst he
      have hsn : L.map Val.enc ++ [[D.v (.int .i64 v.kind), D.v (.int .i64 v.i), D.v (.string v.s)]] = (L ++ [v]).map Val.enc := by simp [Val.enc]
      simp (implicitDefEqProofs := false) only [↓reduceIte, go_sem, oread, owrite, Nat.reduceAdd, Nat.reduceLT, Nat.reduceLeDiff, Nat.reduceEqDiff, reduceCtorEq, eq_self, t9, List.length_map, hL, hsn]
      refine ⟨by omega, by omega, ?_⟩
      simp (implicitDefEqProofs := false) only [↓reduceIte, go_sem, Nat.reduceLT, eq_self, t15]
      refine Rnd.cut [.arr 45 3 (j + 1) ((L ++ [v]).map Val.enc)] [vbox v] 1 rfl rfl (by simp (implicitDefEqProofs := false) only [go_sem, eq_self]) ?_
      refine ⟨L ++ [v], r, rfl, by simp [hL], ?_, ?_, ?_, ?_⟩
      · rw [hp, List.length_drop]; omega
      · intro x hx
        rw [hp] at hx
        exact hcb x (List.mem_of_mem_drop hx)
      · rw [show m - (j + 1) = q by omega, ← hst v r rfl, hjoin]
      · simp (implicitDefEqProofs := false) only [↓reduceIte, go_sem, Nat.reduceLT, Nat.reduceEqDiff, reduceCtorEq, eq_self, t2, t14, hw]
    · simp (implicitDefEqProofs := false) only [↓reduceIte, go_sem, owrite, Nat.reduceAdd, Nat.reduceLT, Nat.reduceEqDiff, eq_self, he]
      refine AEnd.ret ?_
      have hN : readN k m b = ([], [], e) := by rw [← hjoin]; exact hsp v r e rfl he
      rw [hR, hN]
      simp (implicitDefEqProofs := false) only [↓reduceIte, go_sem, Nat.reduceLT, Nat.reduceEqDiff, eq_self, he]
  · rintro s H' ⟨L, c, rfl, hL, hcl, hcb, hjoin, t0, t2, t9, t14, t15⟩
    have hN : readN k m b = (L, c, 0) := by rw [← hjoin, Nat.sub_self]; simp [joinR, readN]
    rw [hN] at hR
    simp only [if_true] at hR
    rw [hR]
    clear hR hN hjoin hj0
    simp (implicitDefEqProofs := false) only [↓reduceIte, go_sem, Nat.reduceLT, eq_self, t14, t15]
    refine awp_for3 (fun i s H' => H' = H ++ [.arr 45 3 m (L.map Val.enc)] ∧ (∀ j x y, j < i → L[j]? = some x → L[j + 1]? = some y → cmpV x y < 0) ∧ s 0 = .d (.list false (bys c)) ∧ s 9 = .sl H.length m 0 m ∧ s 13 = iA ((i + 1 : Nat) : Int)) (m - 1) (by omega) (Weak.refl _ _) ?_ ?_ ?_
    · refine ⟨rfl, fun j x y hj => by omega, ?_⟩
      simp (implicitDefEqProofs := false) only [↓reduceIte, go_sem, Nat.reduceLT, Nat.reduceEqDiff, reduceCtorEq, eq_self, t0, t9]
    · rintro i s H' hi hw ⟨rfl, hri, t0, t9, t13⟩
      have h1 := List.getElem?_eq_getElem (show i < L.length by omega)
      have h2 := List.getElem?_eq_getElem (show i + 1 < L.length by omega)
      generalize L[i] = x at h1
      generalize L[i + 1] = y at h2
      have hw1 : IntKind.i64.wrap (((i + 1 : Nat) : Int) - 1) = (i : Int) := by rw [wrap64_in _ (by omega) (by omega)]; omega
      have hw2 : IntKind.i64.wrap (((i + 1 : Nat) : Int) + 1) = ((i + 1 + 1 : Nat) : Int) := by rw [wrap64_in _ (by omega) (by omega)]; omega
      have g0 : ((i + 1 : Nat) : Int) < (m : Int) := by omega
      have g1 : ((i : Nat) : Int) < (m : Int) := by omega
      generalize hI : i + 1 = I at *
      simp (implicitDefEqProofs := false) only [↓reduceIte, go_sem, Nat.reduceLT, Nat.reduceEqDiff, eq_self, t9, t13, show ((I : Int) < (m : Int)) = True from eq_true g0]
      refine awp_draw K.mixed (by kernel_rfl) ?_
      simp (implicitDefEqProofs := false) only [↓reduceIte, go_sem, oread, Nat.reduceAdd, Nat.reduceLT, Nat.reduceEqDiff, eq_self, t9, t13, hw1, h1, h2, show I < m by omega, show i < m by omega, Val.enc]
      refine KCall.ok (vcmp_does x y _) ?_
      by_cases hc : cmpV x y < 0
      · simp (implicitDefEqProofs := false) only [↓reduceIte, go_sem, Nat.reduceLT, Nat.reduceEqDiff, eq_self, show (0 ≤ cmpV x y) = False from eq_false (by omega), t13, hw2]
        refine Rnd.same ⟨rfl, ?_, ?_⟩
        · intro j a b hj
          rcases Nat.lt_or_ge j i with h | h
          · exact hri j a b h
          · obtain rfl : j = i := by omega
            rw [hI, h1, h2]
            rintro ⟨rfl⟩ ⟨rfl⟩
            exact hc
        · simp (implicitDefEqProofs := false) only [↓reduceIte, go_sem, Nat.reduceLT, Nat.reduceEqDiff, reduceCtorEq, eq_self, t0, t9]
      · simp (implicitDefEqProofs := false) only [↓reduceIte, go_sem, Nat.reduceLT, eq_self, show (0 ≤ cmpV x y) = True from eq_true (by omega)]
        refine AEnd.ret ?_
        have hno : ¬ RiseN L := fun h => hc (h i x y h1 (by rw [hI]; exact h2))
        rw [if_neg hno]
        simp (implicitDefEqProofs := false) only [↓reduceIte, go_sem, Nat.reduceLT, Nat.reduceEqDiff, Int.reduceEq, eq_self]
    · rintro s H' ⟨rfl, hri, t0, t9, t13⟩
      have hyes : RiseN L := fun i x y hx hy => hri i x y (by have := (List.getElem?_eq_some_iff.1 hy).1; omega) hx hy
      have g0 : ¬ ((m - 1 : Nat) : Int) + 1 < (m : Int) := by omega
      rw [if_pos hyes]
      simp (implicitDefEqProofs := false) only [↓reduceIte, go_sem, Nat.reduceLT, Nat.reduceEqDiff, reduceCtorEq, eq_self, t0, t9, t13, eq_false g0]
      refine AEnd.ret ?_
      simp (implicitDefEqProofs := false) only [↓reduceIte, go_sem, Nat.reduceLT, Nat.reduceEqDiff, eq_self, List.take_of_length_le (show (L.map Val.enc).length ≤ m by rw [List.length_map]; omega)]
theorem dread_does (b : List Nat) (m : Nat) (k : Int) (hm : m ≤ 4096) (hl : b.length ≤ 140737488351232) (hb : ∀ c ∈ b, c < 256) (H : AHeap) :
    Does Tryz.prog 31 [.d (.list false (bys b)), iA m, iA k] H (.ok (.tup [.d (.list false ((readR k m b).1.map Val.enc)), .d (.list false (bys (readR k m b).2.1)), iA (readR k m b).2.2])) H := by
  have h := dread_does' b m k hm hl hb H
  by_cases he : (readR k m b).2.2 = 0
  · rw [if_pos he] at h
    rw [he]
    exact h
  · rw [if_neg he] at h
    have hz : readR k m b = ([], [], (readR k m b).2.2) := by
      unfold readR at he ⊢
      split
      · rename_i h1
        rw [if_pos h1] at he
        split
        · rename_i h2
          rw [if_pos h2] at he
          exact absurd h1 he
        · rfl
      · rfl
    rw [hz]
    exact Does.subT h (.cons .nil (.cons .nil (.cons (.refl _) .nil)))
end Go.Proofs.YtkapgooedfompaaGreat
namespace Go.Proofs.YtkapgooedfompaaGreat
open Go.Proofs.YtkapgooedfompaaGreatAw Go.RowKit
set_option linter.unusedVariables false
set_option linter.unusedSimpArgs false
theorem readN_len (k : Int) : ∀ (n : Nat) (b : List Nat), (readN k n b).2.2 = 0 → (readN k n b).1.length = n
  | 0, _, _ => rfl
  | n + 1, b, h => by
    unfold readN at h ⊢
    split
    · rename_i h1
      rw [if_pos h1] at h
      split
      · rename_i h2
        simp [readN_len k n _ h2]
      · rename_i h2
        rw [if_neg h2] at h
        exact absurd h h2
    · rename_i h1
      rw [if_neg h1] at h
      exact absurd h h1
theorem readN_suffix (k : Int) : ∀ (n : Nat) (b : List Nat), ∃ j, (readN k n b).2.1 = b.drop j
  | 0, b => ⟨0, rfl⟩
  | n + 1, b => by
    have nil : ∃ j, ([] : List Nat) = b.drop j := ⟨b.length, by simp⟩
    unfold readN
    split
    · split
      · obtain ⟨j, h⟩ := ofV_suffix b k
        obtain ⟨i, h2⟩ := readN_suffix k n (ofV b k).2.1
        exact ⟨j + i, by rw [h2, h, List.drop_drop]⟩
      · exact nil
    · exact nil
theorem readR_ok {k : Int} {n : Nat} {b : List Nat} (h : (readR k n b).2.2 = 0) : readR k n b = readN k n b ∧ (readN k n b).2.2 = 0 ∧ RiseN (readN k n b).1 := by
  unfold readR at h ⊢
  split
  · rename_i h1
    rw [if_pos h1] at h
    split
    · rename_i h2
      exact ⟨rfl, h1, h2⟩
    · rename_i h2
      rw [if_neg h2] at h
      simp at h
  · rename_i h1
    rw [if_neg h1] at h
    exact absurd h h1
/-- What follows the words: the codes, or an error. -/
noncomputable def tailV (q : List Val × List Nat × Int) (n : Nat) : List Val × List Nat × Int :=
  if q.2.2 ≠ 0 then ([], [], q.2.2)
  else if unpackE q.2.1 n (widP q.1.length) ≠ 0 then ([], [], unpackE q.2.1 n (widP q.1.length))
  else if usedP (unpackL q.2.1 n (widP q.1.length)) q.1.length then (q.1, unpackL q.2.1 n (widP q.1.length), 0) else ([], [], 4)
noncomputable def toCodesV (b : List Nat) (n k : Int) : List Val × List Nat × Int :=
  if kindsP k = false then ([], [], 1)
  else if n < 0 then ([], [], 2)
  else if 4096 < n then ([], [], 2)
  else if (getP b).2.2 ≠ 0 then ([], [], (getP b).2.2)
  else if n < (getP b).1 then ([], [], 4)
  else tailV (readR k (getP b).1 (b.drop (getP b).2.1)) n.toNat
set_option maxRecDepth 10000 in
set_option maxHeartbeats 2000000 in
theorem tocodes_does (b : List Nat) (n k : Int) (hl : b.length ≤ 140737488351232) (hb : ∀ c ∈ b, c < 256) (H : AHeap) :
    Does Tryz.prog 10 [.d (.list false (bys b)), iA n, iA k] H (.ok (.tup [.d (.list false ((toCodesV b n k).1.map Val.enc)), .d (.list false (us (toCodesV b n k).2.1)), iA (toCodesV b n k).2.2])) H := by
  by_cases hk : kindsP k = false
  · rw [show toCodesV b n k = ([], [], 1) from if_pos hk]
    refine Does.subT (cs := [.d (.v (.slice none 0 0)), .d (.v (.slice none 0 0)), iA 1]) ?_ (.cons .nil (.cons .nil (.cons (.refl _) .nil)))
    refine Does.of_awp (hint := (fun _ => false)) Tryz.func10 (by kernel_rfl) rfl [6, 7, 8] (by kernel_rfl) (by decide) (by simp [Tryz.ntmps10]) ?_
    rw [Tryz.ntmps10]
    simp (implicitDefEqProofs := false) only [↓reduceIte, go_sem, Nat.reduceLT, Nat.reduceEqDiff, eq_self]
    refine KCall.ok (plainNone_does k _) ?_
    simp (implicitDefEqProofs := false) only [↓reduceIte, go_sem, Nat.reduceLT, Nat.reduceEqDiff, Int.reduceEq, eq_self, hk, Bool.false_eq_true]
    refine AEnd.ret0 ?_
    simp (implicitDefEqProofs := false) only [↓reduceIte, go_sem, Nat.reduceLT, Nat.reduceEqDiff, eq_self]
  rw [show toCodesV b n k = _ from if_neg hk]
  have hk1 : kindsP k = true := by simpa using hk
  by_cases h1 : n < 0
  · rw [if_pos h1]
    refine Does.subT (cs := [.d (.v (.slice none 0 0)), .d (.v (.slice none 0 0)), iA 2]) ?_ (.cons .nil (.cons .nil (.cons (.refl _) .nil)))
    refine Does.of_awp (hint := (fun _ => false)) Tryz.func10 (by kernel_rfl) rfl [6, 7, 8] (by kernel_rfl) (by decide) (by simp [Tryz.ntmps10]) ?_
    rw [Tryz.ntmps10]
    simp (implicitDefEqProofs := false) only [↓reduceIte, go_sem, Nat.reduceLT, Nat.reduceEqDiff, eq_self]
    refine KCall.ok (plainNone_does k _) ?_
    simp (implicitDefEqProofs := false) only [↓reduceIte, go_sem, Nat.reduceLT, Nat.reduceEqDiff, eq_self, hk1, h1]
    refine AEnd.ret0 ?_
    simp (implicitDefEqProofs := false) only [↓reduceIte, go_sem, Nat.reduceLT, Nat.reduceEqDiff, eq_self]
  rw [if_neg h1]
  by_cases h2 : 4096 < n
  · rw [if_pos h2]
    refine Does.subT (cs := [.d (.v (.slice none 0 0)), .d (.v (.slice none 0 0)), iA 2]) ?_ (.cons .nil (.cons .nil (.cons (.refl _) .nil)))
    refine Does.of_awp (hint := (fun _ => false)) Tryz.func10 (by kernel_rfl) rfl [6, 7, 8] (by kernel_rfl) (by decide) (by simp [Tryz.ntmps10]) ?_
    rw [Tryz.ntmps10]
    simp (implicitDefEqProofs := false) only [↓reduceIte, go_sem, Nat.reduceLT, Nat.reduceEqDiff, eq_self]
    refine KCall.ok (plainNone_does k _) ?_
    simp (implicitDefEqProofs := false) only [↓reduceIte, go_sem, Nat.reduceLT, Nat.reduceEqDiff, reduceCtorEq, eq_self, hk1, h1, h2]
    refine AEnd.ret0 ?_
    simp (implicitDefEqProofs := false) only [↓reduceIte, go_sem, Nat.reduceLT, Nat.reduceEqDiff, eq_self]
  rw [if_neg h2]
  obtain ⟨N, rfl⟩ : ∃ N : Nat, n = (N : Int) := ⟨n.toNat, by omega⟩
  rw [Int.toNat_natCast]
  have h1f : ((N : Int) < 0) = False := eq_false h1
  have h2f : ((4096 : Int) < (N : Int)) = False := eq_false h2
  have hgd := fun H => getN_does b false (by omega) hb H
  have hgl := getP_le b
  have hglt := getP_lt b
  generalize getP b = g at *
  obtain ⟨many, j, e⟩ := g
  simp only at hgd hgl hglt ⊢
  have hNu := wrapU64N N (by omega)
  by_cases he : e = 0
  · subst he
    rw [if_neg (by simp)]
    by_cases h3 : (N : Int) < (many : Int)
    · rw [if_pos h3]
      refine Does.subT (cs := [.d (.v (.slice none 0 0)), .d (.v (.slice none 0 0)), iA 4]) ?_ (.cons .nil (.cons .nil (.cons (.refl _) .nil)))
      refine Does.of_awp (hint := (fun _ => false)) Tryz.func10 (by kernel_rfl) rfl [6, 7, 8] (by kernel_rfl) (by decide) (by simp [Tryz.ntmps10]) ?_
      rw [Tryz.ntmps10]
      simp (implicitDefEqProofs := false) only [↓reduceIte, go_sem, Nat.reduceLT, Nat.reduceEqDiff, eq_self]
      refine KCall.ok (plainNone_does k _) ?_
      simp (implicitDefEqProofs := false) only [↓reduceIte, go_sem, Nat.reduceLT, Nat.reduceEqDiff, reduceCtorEq, eq_self, hk1, h1f, h2f]
      refine KCall.ok (hgd _) ?_
      simp (implicitDefEqProofs := false) only [↓reduceIte, go_sem, Nat.reduceLT, Nat.reduceEqDiff, eq_self, hNu, eq_true h3]
      refine AEnd.ret0 ?_
      simp (implicitDefEqProofs := false) only [↓reduceIte, go_sem, Nat.reduceLT, Nat.reduceEqDiff, eq_self]
    rw [if_neg h3]
    have h3f : ((N : Int) < (many : Int)) = False := eq_false h3
    have hmw : IntKind.i64.wrap (many : Int) = (many : Int) := wrap64_in _ (by omega) (by omega)
    have hj0 : ((0 : Int) ≤ (j : Int)) = True := eq_true (by omega)
    have hdb : ∀ c ∈ b.drop j, c < 256 := fun c hc => hb c (List.mem_of_mem_drop hc)
    have hrd := fun H => dread_does (b.drop j) many k (by omega) (by rw [List.length_drop]; omega) hdb H
    have hro := readR_ok (k := k) (n := many) (b := b.drop j)
    have hrl := readN_len k many (b.drop j)
    obtain ⟨i, hrs⟩ := readN_suffix k many (b.drop j)
    have hbt : (bys b).take b.length = bys b := List.take_of_length_le (by rw [bys_len]; exact Nat.le_refl _)
    generalize readN k many (b.drop j) = q2 at *
    generalize readR k many (b.drop j) = q at *
    obtain ⟨W, r, f⟩ := q
    simp only at hrd hro
    by_cases hf : f = 0
    · subst hf
      obtain ⟨e1, e2, e3⟩ := hro rfl
      subst e1
      have hW : W.length = many := hrl rfl
      have hrs' : r = (b.drop j).drop i := hrs
      have hrb : ∀ c ∈ r, c < 256 := fun c hc => hdb c (List.mem_of_mem_drop (hrs' ▸ hc))
      have hrlen : r.length ≤ b.length := by rw [hrs', List.length_drop, List.length_drop]; omega
      have hwl := widP_le (n := W.length) (by omega)
      have hun := fun H => unpack_does r N (widP W.length) false (by omega) hrb (by omega) (by omega) H
      have hT : tailV (W, r, 0) N = if unpackE r N (widP W.length) ≠ 0 then ([], [], unpackE r N (widP W.length)) else if usedP (unpackL r N (widP W.length)) W.length then (W, unpackL r N (widP W.length), 0) else ([], [], 4) := rfl
      have hdw := fun H => dwidth_does W.length (by omega) H
      have hCl := unpackL_len r N (widP W.length)
      have hClt := unpackL_lt r N (widP W.length) (by omega)
      unfold unpackA at hun
      rw [hT]
      generalize widP W.length = wd at *
      generalize unpackL r N wd = C at *
      generalize unpackE r N wd = z at *
      by_cases hz : z = 0
      · subst hz
        rw [if_neg (by simp)]
        have hus := fun H => used_does C W.length H (by omega) (by omega) hClt
        rw [if_pos rfl] at hun
        cases hu : usedP C W.length with
        | true =>
          rw [hu] at hus
          refine Does.of_awp (hint := (fun _ => false)) Tryz.func10 (by kernel_rfl) rfl [6, 7, 8] (by kernel_rfl) (by decide) (by simp [Tryz.ntmps10]) ?_
          rw [Tryz.ntmps10]
          simp (implicitDefEqProofs := false) only [↓reduceIte, go_sem, Nat.reduceLT, Nat.reduceEqDiff, eq_self]
          refine KCall.ok (plainNone_does k _) ?_
          simp (implicitDefEqProofs := false) only [↓reduceIte, go_sem, Nat.reduceLT, Nat.reduceEqDiff, reduceCtorEq, eq_self, hk1, h1f, h2f]
          refine KCall.ok (hgd _) ?_
          simp (implicitDefEqProofs := false) only [↓reduceIte, go_sem, Nat.reduceLT, Nat.reduceEqDiff, reduceCtorEq, eq_self, hNu, h3f, bys_one, bys_len, hj0, hbt, drop_bys, hmw]
          refine ⟨by omega, KCall.ok (hrd _) ?_⟩
          simp (implicitDefEqProofs := false) only [↓reduceIte, go_sem, Nat.reduceLT, Nat.reduceEqDiff, eq_self, List.length_map]
          refine KCall.ok (hdw _) ?_
          simp (implicitDefEqProofs := false) only [↓reduceIte, go_sem, Nat.reduceLT, Nat.reduceEqDiff, eq_self]
          refine KCall.ok (hun _) ?_
          simp (implicitDefEqProofs := false) only [↓reduceIte, go_sem, Nat.reduceLT, Nat.reduceEqDiff, eq_self, List.length_map]
          refine KCall.ok (hus _) ?_
          simp (implicitDefEqProofs := false) only [↓reduceIte, go_sem, Nat.reduceLT, Nat.reduceEqDiff, eq_self]
          refine AEnd.ret0 ?_
          simp (implicitDefEqProofs := false) only [↓reduceIte, go_sem, Nat.reduceLT, Nat.reduceEqDiff, eq_self]
        | false =>
          rw [hu] at hus
          rw [if_neg (by simp)]
          refine Does.subT (cs := [.d (.v (.slice none 0 0)), .d (.v (.slice none 0 0)), iA 4]) ?_ (.cons .nil (.cons .nil (.cons (.refl _) .nil)))
          refine Does.of_awp (hint := (fun _ => false)) Tryz.func10 (by kernel_rfl) rfl [6, 7, 8] (by kernel_rfl) (by decide) (by simp [Tryz.ntmps10]) ?_
          rw [Tryz.ntmps10]
          simp (implicitDefEqProofs := false) only [↓reduceIte, go_sem, Nat.reduceLT, Nat.reduceEqDiff, eq_self]
          refine KCall.ok (plainNone_does k _) ?_
          simp (implicitDefEqProofs := false) only [↓reduceIte, go_sem, Nat.reduceLT, Nat.reduceEqDiff, reduceCtorEq, eq_self, hk1, h1f, h2f]
          refine KCall.ok (hgd _) ?_
          simp (implicitDefEqProofs := false) only [↓reduceIte, go_sem, Nat.reduceLT, Nat.reduceEqDiff, reduceCtorEq, eq_self, hNu, h3f, bys_one, bys_len, hj0, hbt, drop_bys, hmw]
          refine ⟨by omega, KCall.ok (hrd _) ?_⟩
          simp (implicitDefEqProofs := false) only [↓reduceIte, go_sem, Nat.reduceLT, Nat.reduceEqDiff, eq_self, List.length_map]
          refine KCall.ok (hdw _) ?_
          simp (implicitDefEqProofs := false) only [↓reduceIte, go_sem, Nat.reduceLT, Nat.reduceEqDiff, eq_self]
          refine KCall.ok (hun _) ?_
          simp (implicitDefEqProofs := false) only [↓reduceIte, go_sem, Nat.reduceLT, Nat.reduceEqDiff, eq_self, List.length_map]
          refine KCall.ok (hus _) ?_
          simp (implicitDefEqProofs := false) only [↓reduceIte, go_sem, Nat.reduceLT, eq_self]
          refine AEnd.ret0 ?_
          simp (implicitDefEqProofs := false) only [↓reduceIte, go_sem, Nat.reduceLT, Nat.reduceEqDiff, eq_self]
      · rw [if_pos hz]
        rw [if_neg hz] at hun
        refine Does.subT (cs := [.d (.v (.slice none 0 0)), .d (.v (.slice none 0 0)), iA z]) ?_ (.cons .nil (.cons .nil (.cons (.refl _) .nil)))
        refine Does.of_awp (hint := (fun _ => false)) Tryz.func10 (by kernel_rfl) rfl [6, 7, 8] (by kernel_rfl) (by decide) (by simp [Tryz.ntmps10]) ?_
        rw [Tryz.ntmps10]
        simp (implicitDefEqProofs := false) only [↓reduceIte, go_sem, Nat.reduceLT, Nat.reduceEqDiff, eq_self]
        refine KCall.ok (plainNone_does k _) ?_
        simp (implicitDefEqProofs := false) only [↓reduceIte, go_sem, Nat.reduceLT, Nat.reduceEqDiff, reduceCtorEq, eq_self, hk1, h1f, h2f]
        refine KCall.ok (hgd _) ?_
        simp (implicitDefEqProofs := false) only [↓reduceIte, go_sem, Nat.reduceLT, Nat.reduceEqDiff, reduceCtorEq, eq_self, hNu, h3f, bys_one, bys_len, hj0, hbt, drop_bys, hmw]
        refine ⟨by omega, KCall.ok (hrd _) ?_⟩
        simp (implicitDefEqProofs := false) only [↓reduceIte, go_sem, Nat.reduceLT, Nat.reduceEqDiff, eq_self, List.length_map]
        refine KCall.ok (hdw _) ?_
        simp (implicitDefEqProofs := false) only [↓reduceIte, go_sem, Nat.reduceLT, Nat.reduceEqDiff, eq_self]
        refine KCall.ok (hun _) ?_
        simp (implicitDefEqProofs := false) only [↓reduceIte, go_sem, Nat.reduceLT, Nat.reduceEqDiff, eq_self, hz]
        refine AEnd.ret0 ?_
        simp (implicitDefEqProofs := false) only [↓reduceIte, go_sem, Nat.reduceLT, Nat.reduceEqDiff, eq_self]
    · rw [show tailV (W, r, f) N = ([], [], f) from if_pos hf]
      refine Does.subT (cs := [.d (.v (.slice none 0 0)), .d (.v (.slice none 0 0)), iA f]) ?_ (.cons .nil (.cons .nil (.cons (.refl _) .nil)))
      refine Does.of_awp (hint := (fun _ => false)) Tryz.func10 (by kernel_rfl) rfl [6, 7, 8] (by kernel_rfl) (by decide) (by simp [Tryz.ntmps10]) ?_
      rw [Tryz.ntmps10]
      simp (implicitDefEqProofs := false) only [↓reduceIte, go_sem, Nat.reduceLT, Nat.reduceEqDiff, eq_self]
      refine KCall.ok (plainNone_does k _) ?_
      simp (implicitDefEqProofs := false) only [↓reduceIte, go_sem, Nat.reduceLT, Nat.reduceEqDiff, reduceCtorEq, eq_self, hk1, h1f, h2f]
      refine KCall.ok (hgd _) ?_
      simp (implicitDefEqProofs := false) only [↓reduceIte, go_sem, Nat.reduceLT, Nat.reduceEqDiff, reduceCtorEq, eq_self, hNu, h3f, bys_one, bys_len, hj0, hbt, drop_bys, hmw]
      refine ⟨by omega, KCall.ok (hrd _) ?_⟩
      simp (implicitDefEqProofs := false) only [↓reduceIte, go_sem, Nat.reduceLT, Nat.reduceEqDiff, eq_self, hf]
      refine AEnd.ret0 ?_
      simp (implicitDefEqProofs := false) only [↓reduceIte, go_sem, Nat.reduceLT, Nat.reduceEqDiff, eq_self]
  · rw [if_pos he]
    refine Does.subT (cs := [.d (.v (.slice none 0 0)), .d (.v (.slice none 0 0)), iA e]) ?_ (.cons .nil (.cons .nil (.cons (.refl _) .nil)))
    refine Does.of_awp (hint := (fun _ => false)) Tryz.func10 (by kernel_rfl) rfl [6, 7, 8] (by kernel_rfl) (by decide) (by simp [Tryz.ntmps10]) ?_
    rw [Tryz.ntmps10]
    simp (implicitDefEqProofs := false) only [↓reduceIte, go_sem, Nat.reduceLT, Nat.reduceEqDiff, eq_self]
    refine KCall.ok (plainNone_does k _) ?_
    simp (implicitDefEqProofs := false) only [↓reduceIte, go_sem, Nat.reduceLT, Nat.reduceEqDiff, reduceCtorEq, eq_self, hk1, h1f, h2f]
    refine KCall.ok (hgd _) ?_
    simp (implicitDefEqProofs := false) only [↓reduceIte, go_sem, Nat.reduceLT, Nat.reduceEqDiff, eq_self, he]
    refine AEnd.ret0 ?_
    simp (implicitDefEqProofs := false) only [↓reduceIte, go_sem, Nat.reduceLT, Nat.reduceEqDiff, eq_self]
end Go.Proofs.YtkapgooedfompaaGreat
namespace Go.Proofs.YtkapgooedfompaaGreat
open Go.Proofs.YtkapgooedfompaaGreatAw Go.RowKit
set_option linter.unusedVariables false
set_option linter.unusedSimpArgs false
def pickV (W : List Val) (C : List Nat) : List Val := C.map fun c => W.getD c zV
noncomputable def ofDict (b : List Nat) (n k : Int) : List Val × Int := if (toCodesV b n k).2.2 = 0 then (pickV (toCodesV b n k).1 (toCodesV b n k).2.1, 0) else ([], (toCodesV b n k).2.2)
theorem usedP_lt {C : List Nat} {n : Nat} (h : usedP C n = true) : ∀ c ∈ C, c < n := fun c hc => by
  unfold usedP at h
  rw [Bool.and_eq_true, List.all_eq_true] at h
  simpa using h.1 c ((toldL_mem C c).2 hc)
/-- What a good reading is. -/
theorem toCodes_ok {b : List Nat} {n k : Int} {W : List Val} {C : List Nat} (h : toCodesV b n k = (W, C, 0)) :
    ∃ (N many j i : Nat), n = (N : Int) ∧ N ≤ 4096 ∧ kindsP k = true ∧ getP b = (many, j, 0) ∧ many ≤ N ∧ readN k many (b.drop j) = (W, (b.drop j).drop i, 0) ∧ RiseN W ∧ W.length = many ∧
      unpackE ((b.drop j).drop i) N (widP W.length) = 0 ∧ C = unpackL ((b.drop j).drop i) N (widP W.length) ∧ usedP C W.length = true := by
  unfold toCodesV at h
  split at h
  · simp at h
  rename_i hk
  split at h
  · simp at h
  rename_i h1
  split at h
  · simp at h
  rename_i h2
  split at h
  · rename_i he
    simp only [Prod.mk.injEq] at h
    exact absurd h.2.2 he
  rename_i he
  split at h
  · simp at h
  rename_i h3
  rcases hg : getP b with ⟨many, j, e⟩
  rw [hg] at h he h3
  simp only at h he h3
  have he' : e = 0 := by simpa using he
  subst he'
  obtain ⟨i, hrs⟩ := readN_suffix k many (b.drop j)
  have hro := readR_ok (k := k) (n := many) (b := b.drop j)
  have hrl := readN_len k many (b.drop j)
  rcases hq : readR k many (b.drop j) with ⟨W', r, f⟩
  rw [hq] at h hro
  simp only at hro
  unfold tailV at h
  split at h
  · rename_i hf
    simp only [Prod.mk.injEq] at h
    exact absurd h.2.2 hf
  rename_i hf
  have hf' : f = 0 := by simpa using hf
  subst hf'
  obtain ⟨e1, e2, e3⟩ := hro rfl
  rw [← e1] at e3 hrs hrl
  simp only at h hrs
  split at h
  · rename_i hz
    simp only [Prod.mk.injEq] at h
    exact absurd h.2.2 hz
  rename_i hz
  split at h
  · rename_i hu
    simp only [Prod.mk.injEq] at h
    obtain ⟨rfl, rfl, _⟩ := h
    have hW : W'.length = many := hrl rfl
    subst hrs
    refine ⟨n.toNat, many, j, i, by omega, by omega, by simpa using hk, rfl, by omega, e1.symm, e3, hW, by simpa using hz, rfl, hu⟩
  · simp at h
set_option maxRecDepth 10000 in
set_option maxHeartbeats 2000000 in
theorem dictOf_does (b : List Nat) (n k : Int) (hl : b.length ≤ 140737488351232) (hb : ∀ c ∈ b, c < 256) (H : AHeap) :
    Does Tryz.prog 8 [.d (.list false (bys b)), iA n, iA k] H (.ok (.tup [.d (.list false ((ofDict b n k).1.map Val.enc)), iA (ofDict b n k).2])) H := by
  have htd := fun H => tocodes_does b n k hl hb H
  have hok := fun W C => toCodes_ok (b := b) (n := n) (k := k) (W := W) (C := C)
  unfold ofDict
  generalize toCodesV b n k = t at *
  obtain ⟨W, C, e⟩ := t
  simp only at htd hok ⊢
  by_cases he : e = 0
  · subst he
    obtain ⟨N, many, j, i, rfl, hN, _, _, hmN, _, _, hW, _, hC, hu⟩ := hok W C rfl
    have hlt := usedP_lt hu
    have hCl : C.length = N := by rw [hC, unpackL_len]
    clear hok hC hu
    rw [if_pos rfl]
    refine Does.of_awp (hint := (fun _ => false)) Tryz.func8 (by kernel_rfl) rfl [6, 7] (by kernel_rfl) (by decide) (by simp [Tryz.ntmps8]) ?_
    rw [Tryz.ntmps8]
    simp (implicitDefEqProofs := false) only [↓reduceIte, go_sem, Nat.reduceLT, Nat.reduceEqDiff, reduceCtorEq, eq_self]
    refine KCall.ok (htd _) ?_
    simp (implicitDefEqProofs := false) only [↓reduceIte, go_sem, Nat.reduceLT, Nat.reduceEqDiff, eq_self]
    refine awp_for (fun i s H' => H' = H ++ [.arr 45 3 i ((pickV W (C.take i)).map Val.enc)] ∧ s 8 = .d (.list false (W.map Val.enc)) ∧ s 11 = .sl H.length i 0 i ∧ s 25 = .d (.list false (us C)) ∧ s 26 = iA C.length ∧ s 27 = iA i) C.length (by omega) (Weak.virt1 _ _ 11 45 3 (by decide) (by simp (implicitDefEqProofs := false) only [↓reduceIte, go_sem, Nat.reduceLT, Nat.reduceEqDiff, eq_self]) _) ?_ ?_ ?_
    · refine ⟨rfl, ?_⟩
      simp (implicitDefEqProofs := false) only [↓reduceIte, go_sem, Nat.reduceLT, Nat.reduceEqDiff, eq_self, us_len]
    · rintro i s H' hi hw ⟨rfl, t8, t11, t25, t26, t27⟩
      have hx := us_get C i hi
      have hcl := hlt _ (List.getElem_mem hi)
      have hwg := List.getElem?_eq_getElem hcl
      have e1 : pickV W (C.take (i + 1)) = pickV W (C.take i) ++ [W[C[i]]] := by
        unfold pickV
        rw [List.take_succ_eq_append_getElem hi, List.map_append]
        simp [List.getD, hcl]
      have hpl : (pickV W (C.take i)).length = i := by unfold pickV; rw [List.length_map, List.length_take]; omega
      rw [e1]
      generalize pickV W (C.take i) = L at *
      generalize W[C[i]] = v at *
      generalize C[i] = c at *
      have hc0 : ((0 : Int) ≤ (c : Int)) = True := eq_true (by omega)
      have hsn : L.map Val.enc ++ [[D.v (.int .i64 v.kind), D.v (.int .i64 v.i), D.v (.string v.s)]] = (L ++ [v]).map Val.enc := by simp [Val.enc]
      simp (implicitDefEqProofs := false) only [↓reduceIte, go_sem, Nat.reduceAdd, Nat.reduceLT, Nat.reduceLeDiff, Nat.reduceEqDiff, eq_self, t8, t11, t25, t26, t27, hi, hx, hwg, hc0, List.length_map, hpl, hsn, Val.enc]
      refine ⟨by omega, by omega, ?_⟩
      refine Rnd.same ⟨rfl, ?_⟩
      simp (implicitDefEqProofs := false) only [↓reduceIte, go_sem, Nat.reduceLT, Nat.reduceEqDiff, eq_self, t8, t25, t26, hw]
    · rintro s H' ⟨rfl, t8, t11, t25, t26, t27⟩
      simp (implicitDefEqProofs := false) only [↓reduceIte, go_sem, Nat.reduceLT, Nat.reduceEqDiff, eq_self, t11, t26, t27]
      refine AEnd.ret ?_
      rw [List.take_length]
      simp (implicitDefEqProofs := false) only [↓reduceIte, go_sem, Nat.reduceLT, Nat.reduceEqDiff, eq_self, List.take_of_length_le (show ((pickV W C).map Val.enc).length ≤ C.length by rw [List.length_map, pickV, List.length_map]; omega)]
  · rw [if_neg he]
    refine Does.subT (cs := [.d (.v (.slice none 0 0)), iA e]) ?_ (.cons .nil (.cons (.refl _) .nil))
    refine Does.of_awp (hint := (fun _ => false)) Tryz.func8 (by kernel_rfl) rfl [6, 7] (by kernel_rfl) (by decide) (by simp [Tryz.ntmps8]) ?_
    rw [Tryz.ntmps8]
    simp (implicitDefEqProofs := false) only [↓reduceIte, go_sem, Nat.reduceLT, Nat.reduceEqDiff, reduceCtorEq, eq_self]
    refine KCall.ok (htd _) ?_
    simp (implicitDefEqProofs := false) only [↓reduceIte, go_sem, Nat.reduceLT, Nat.reduceEqDiff, eq_self, he]
    refine AEnd.ret0 ?_
    simp (implicitDefEqProofs := false) only [↓reduceIte, go_sem, Nat.reduceLT, Nat.reduceEqDiff, eq_self]
end Go.Proofs.YtkapgooedfompaaGreat
namespace Go.Proofs.YtkapgooedfompaaGreat
open Go.Proofs.YtkapgooedfompaaGreatAw Go.RowKit
set_option linter.unusedVariables false
set_option linter.unusedSimpArgs false
set_option maxRecDepth 10000 in
set_option maxHeartbeats 2000000 in
theorem rsome_does' (b : List Nat) (m : Nat) (k : Int) (hm : m ≤ 4096) (hl : b.length ≤ 140737488351232) (hb : ∀ c ∈ b, c < 256) (H : AHeap) :
    Does Tryz.prog 36 [.d (.list false (bys b)), iA m, iA k] H (.ok (if (readN k m b).2.2 = 0 then .tup [.d (.list false ((readN k m b).1.map Val.enc)), .d (.list false (bys (readN k m b).2.1)), iA 0] else .tup [.d (.v (.slice none 0 0)), .d (.v (.slice none 0 0)), iA (readN k m b).2.2])) H := by
  have hj0 := joinR_nil k m b
  refine Does.of_awp (hint := (fun _ => false)) Tryz.func36 (by kernel_rfl) rfl [6, 7, 8] (by kernel_rfl) (by decide) (by simp [Tryz.ntmps36]) ?_
  rw [Tryz.ntmps36]
  simp (implicitDefEqProofs := false) only [go_sem]
  refine awp_for3 (fun j s H' => ∃ L c, H' = H ++ [.arr 45 3 j (L.map Val.enc)] ∧ L.length = j ∧ c.length ≤ b.length ∧ (∀ x ∈ c, x < 256) ∧ joinR L (readN k (m - j) c) = readN k m b ∧ s 0 = .d (.list false (bys c)) ∧ s 1 = iA m ∧ s 2 = iA k ∧ s 9 = .sl H.length j 0 j ∧ s 10 = iA j) m (by omega) (Weak.virt1 _ _ 9 45 3 (by decide) (by simp (implicitDefEqProofs := false) only [↓reduceIte, go_sem, Nat.reduceLT, Nat.reduceEqDiff, eq_self]) _) ?_ ?_ ?_
  · refine ⟨[], b, rfl, rfl, Nat.le_refl _, hb, by simpa using hj0, ?_⟩
    simp (implicitDefEqProofs := false) only [↓reduceIte, go_sem, Nat.reduceLT, Nat.reduceEqDiff, reduceCtorEq, eq_self]
  · rintro j s H' hj hw ⟨L, c, rfl, hL, hcl, hcb, hjoin, t0, t1, t2, t9, t10⟩
    have hod := fun H => rofV_does c k (by omega) hcb H
    obtain ⟨p, hp⟩ := ofV_suffix c k
    obtain ⟨q, hq⟩ : ∃ q, m - j = q + 1 := ⟨m - j - 1, by omega⟩
    have hst := fun v r h => joinR_step (k := k) (n := q) (b := c) (r := r) (v := v) L h
    have hsp := fun v r e h he => joinR_stop (k := k) (n := q) (b := c) (r := r) (v := v) (e := e) L h he
    rw [hq] at hjoin
    rcases hv : ofV c k with ⟨v, r, e⟩
    simp only [hv] at hod hp hst hsp
    simp (implicitDefEqProofs := false) only [↓reduceIte, go_sem, Nat.reduceLT, Nat.reduceEqDiff, reduceCtorEq, eq_self, t0, t1, t2, t10, hj]
    refine KCall.ok (hod _) ?_
    by_cases he : e = 0
    · subst he
      have hsn : L.map Val.enc ++ [[D.v (.int .i64 v.kind), D.v (.int .i64 v.i), D.v (.string v.s)]] = (L ++ [v]).map Val.enc := by simp [Val.enc]
      simp (implicitDefEqProofs := false) only [↓reduceIte, go_sem, oread, owrite, Nat.reduceAdd, Nat.reduceLT, Nat.reduceLeDiff, Nat.reduceEqDiff, reduceCtorEq, eq_self, t9, List.length_map, hL, hsn]
      refine ⟨by omega, by omega, ?_⟩
      simp (implicitDefEqProofs := false) only [↓reduceIte, go_sem, Nat.reduceLT, eq_self, t10]
      refine Rnd.cut [.arr 45 3 (j + 1) ((L ++ [v]).map Val.enc)] [.box 45 3 0 1 [iA v.kind, iA v.i, sA v.s]] 1 rfl rfl (by simp (implicitDefEqProofs := false) only [go_sem, eq_self]) ?_
      refine ⟨L ++ [v], r, rfl, by simp [hL], ?_, ?_, ?_, ?_⟩
      · rw [hp, List.length_drop]; omega
      · intro x hx
        rw [hp] at hx
        exact hcb x (List.mem_of_mem_drop hx)
      · rw [show m - (j + 1) = q by omega, ← hst v r rfl, hjoin]
      · simp (implicitDefEqProofs := false) only [↓reduceIte, go_sem, Nat.reduceLT, Nat.reduceEqDiff, reduceCtorEq, eq_self, t1, t2, hw]
    · simp (implicitDefEqProofs := false) only [↓reduceIte, go_sem, owrite, Nat.reduceAdd, Nat.reduceLT, Nat.reduceEqDiff, eq_self, he]
      refine AEnd.ret ?_
      have hN : readN k m b = ([], [], e) := by rw [← hjoin]; exact hsp v r e rfl he
      rw [hN]
      simp (implicitDefEqProofs := false) only [↓reduceIte, go_sem, Nat.reduceLT, Nat.reduceEqDiff, eq_self, he]
  · rintro s H' ⟨L, c, rfl, hL, hcl, hcb, hjoin, t0, t1, t2, t9, t10⟩
    have hN : readN k m b = (L, c, 0) := by rw [← hjoin, Nat.sub_self]; simp [joinR, readN]
    rw [hN]
    simp (implicitDefEqProofs := false) only [↓reduceIte, go_sem, Nat.reduceLT, Nat.reduceEqDiff, reduceCtorEq, eq_self, t0, t1, t9, t10]
    refine AEnd.ret ?_
    simp (implicitDefEqProofs := false) only [↓reduceIte, go_sem, Nat.reduceLT, Nat.reduceEqDiff, eq_self, List.take_of_length_le (show (L.map Val.enc).length ≤ m by rw [List.length_map]; omega)]
theorem rsome_does (b : List Nat) (m : Nat) (k : Int) (hm : m ≤ 4096) (hl : b.length ≤ 140737488351232) (hb : ∀ c ∈ b, c < 256) (H : AHeap) :
    Does Tryz.prog 36 [.d (.list false (bys b)), iA m, iA k] H (.ok (.tup [.d (.list false ((readN k m b).1.map Val.enc)), .d (.list false (bys (readN k m b).2.1)), iA (readN k m b).2.2])) H := by
  have h := rsome_does' b m k hm hl hb H
  by_cases he : (readN k m b).2.2 = 0
  · rw [if_pos he] at h
    rw [he]
    exact h
  · rw [if_neg he] at h
    rw [readN_err he]
    exact Does.subT h (.cons .nil (.cons .nil (.cons (.refl _) .nil)))
set_option maxRecDepth 10000 in
theorem rwidth09_does (n : Nat) (hn : n ≤ 1000000000000) (H : AHeap) : Does Tryz.prog 28 [iA n] H (.ok (iA (widP n))) H := by
  have m : max (IntKind.i64.wrap ((n : Int) - 1)) 0 = ((n - 1 : Nat) : Int) := by rw [wrap64_in _ (by omega) (by omega)]; omega
  have u := wrapU64N (n - 1) (by omega)
  have hw : widP n ≤ 64 := (lenN_le _ 64).2 (by omega)
  have hx : ∀ w, n - 1 < 2 ^ w ↔ widP n ≤ w := fun w => (lenN_le _ w).symm
  have hfd : ∀ (w : Nat) (hw : w ≤ 1000) H, Does Tryz.prog 63 [.d (.v (.int .u64 ((n - 1 : Nat) : Int))), iA w] H (.ok (bA (decide (widP n ≤ w)))) H := fun w hw H => by
    have := fits_does (n - 1) w (by omega) hw H
    rwa [decide_eq_decide.2 (hx w)] at this
  refine Does.of_awp (hint := (fun _ => false)) Tryz.func28 (by kernel_rfl) rfl [2] (by kernel_rfl) (by decide) (by simp [Tryz.ntmps28]) ?_
  rw [Tryz.ntmps28]
  simp (implicitDefEqProofs := false) only [go_sem]
  refine awp_loop _ _ _ _ (fun (w : Nat) s H' => H' = H ∧ w ≤ widP n ∧ s 0 = iA n ∧ s 3 = iA w) (fun w => 64 - w) 0 (Weak.refl _ _) ?_ ?_
  · refine ⟨rfl, Nat.zero_le _, ?_⟩
    simp (implicitDefEqProofs := false) only [↓reduceIte, go_sem, Nat.reduceLT, reduceCtorEq, eq_self]
  · rintro w s H' ⟨rfl, hle, t0, t3⟩
    generalize ((n - 1 : Nat) : Int) = q at *
    generalize hy : widP n = y at *
    simp (implicitDefEqProofs := false) only [↓reduceIte, go_sem, Nat.reduceLT, Nat.reduceEqDiff, eq_self, t0, m, u, t3, List.foldl_cons, List.foldl_nil]
    refine KCall.ok (hfd w (by omega) _) ?_
    by_cases h : y ≤ w
    · obtain rfl : w = y := by omega
      simp (implicitDefEqProofs := false) only [↓reduceIte, go_sem, Nat.reduceLT, Nat.reduceEqDiff, eq_self, h, t3]
      refine AEnd.ret0 ?_
      simp (implicitDefEqProofs := false) only [↓reduceIte, go_sem, Nat.reduceLT, eq_self]
    · have hw1 : IntKind.i64.wrap ((w : Int) + 1) = ((w + 1 : Nat) : Int) := by rw [wrap64_in _ (by omega) (by omega)]; rfl
      simp (implicitDefEqProofs := false) only [↓reduceIte, go_sem, Nat.reduceLT, Nat.reduceEqDiff, eq_self, h, t3, hw1]
      refine ⟨_, _, w + 1, .refl _ _, ⟨rfl, by omega, ?_⟩, by omega⟩
      simp (implicitDefEqProofs := false) only [↓reduceIte, go_sem, Nat.reduceLT, reduceCtorEq, eq_self, t0]
end Go.Proofs.YtkapgooedfompaaGreat
namespace Go.Proofs.YtkapgooedfompaaGreat
open Go.Proofs.YtkapgooedfompaaGreatAw Go.RowKit
set_option linter.unusedVariables false
set_option linter.unusedSimpArgs false
theorem Val.Oks {v : Val} (h : v.Ok) : v.s.size ≤ 9223372036854775807 := by have := h.s; omega
set_option maxRecDepth 10000 in
set_option maxHeartbeats 2000000 in
theorem rdictBytes_does (l : List Val) (k : Int) (hls : ∀ v ∈ l, v.Ok) (H : AHeap) (hl : l.length ≤ 1000000000) :
    Does Tryz.prog 7 [.d (.list false (l.map Val.enc)), iA k] H (.ok (.tup [.d (.list false (bys (dictL l k))), iA (plainP l k)])) H := by
  have hok : ∀ v ∈ l, I64 v.i := fun v hv => (hls v hv).i
  have hss : ∀ v ∈ l, v.s.size ≤ 9223372036854775807 := fun v hv => Val.Oks (hls v hv)
  by_cases hp : plainP l k = 0
  · have hd : dictL l k = dictB l := by unfold dictL; rw [if_pos hp]
    have hmay := plainP_may hp
    have h4 := plainP_len hp
    have hwl := words_len l
    have hW : ∀ w ∈ wordsP cmpV l, w ∈ l := fun w hw => words_mem cmpV_tri hw
    have hcf := code_fits (l := l)
    have hcd := fun H => codes09_does (wordsP cmpV l) l false false H (by omega) (by omega) fun k hk => hss k (hW k hk)
    have hwd := fun H => words09_does l false hl hss H
    rw [codesR_words] at hcd
    have hB : dictB l = putP (wordsP cmpV l).length ++ wbytes (wordsP cmpV l) ++ packP (l.map (codeW l)) (widP (wordsP cmpV l).length) := rfl
    have hcl : (l.map (codeW l)).length = l.length := by simp
    rw [hd, hp]
    generalize l.map (codeW l) = C at *
    generalize wordsP cmpV l = W at *
    have hwid := widP_le (n := W.length) (by omega)
    have l1 := putP_len 10 W.length (by omega)
    have hC64 : ∀ n ∈ C, n < 18446744073709551616 := fun n hn => by
      have := hcf n hn
      have : 2 ^ widP W.length ≤ 2 ^ 64 := Nat.pow_le_pow_right (by decide) (by omega)
      omega
    have hWb : ∀ k, k ≤ W.length → (wbytes (W.take k)).length ≤ k * 1035 := by
      intro k
      induction k with
      | zero => intro _; simp [wbytes]
      | succ k ih =>
        intro hk
        have hk' : k < W.length := by omega
        rw [List.take_succ_eq_append_getElem hk', wbytes_snoc, List.length_append]
        have h1 := ih (by omega)
        have hm := hW _ (List.getElem_mem hk')
        have h2 := valB_len (hok _ hm) (hmay _ hm)
        omega
    refine Does.of_awp (hint := (fun _ => false)) Tryz.func7 (by kernel_rfl) rfl [4, 5] (by kernel_rfl) (by decide) (by simp [Tryz.ntmps7]) ?_
    rw [Tryz.ntmps7]
    simp (implicitDefEqProofs := false) only [↓reduceIte, go_sem, Nat.reduceLT, Nat.reduceEqDiff, reduceCtorEq, eq_self]
    refine KCall.ok (rplain_does l k false _ (by omega)) ?_
    rw [hp]
    simp (implicitDefEqProofs := false) only [↓reduceIte, go_sem, Nat.reduceLT, reduceCtorEq, eq_self]
    refine KCall.ok (hwd _) ?_
    simp (implicitDefEqProofs := false) only [↓reduceIte, go_sem, Nat.reduceLT, eq_self, List.length_map, wrapU64N W.length (by omega)]
    refine KCall.ok (rputOwn_does W.length (by omega) _) ?_
    simp (implicitDefEqProofs := false) only [↓reduceIte, go_sem, Nat.reduceLT, eq_self]
    refine awp_for3 (fun j s H' => ∃ ver, H' = H ++ [.arr 5 1 ver (bys (putP W.length ++ wbytes (W.take j)))] ∧ s 0 = .d (.list false (l.map Val.enc)) ∧ s 7 = .d (.list false (W.map Val.enc)) ∧ s 8 = .sl H.length ver 0 (putP W.length ++ wbytes (W.take j)).length ∧ s 9 = iA j) W.length (by omega) (Weak.refl _ _) ?_ ?_ ?_
    · refine ⟨(putP W.length).length, ?_, ?_⟩
      · rw [show wbytes (W.take 0) = [] from rfl, List.append_nil]
      · rw [show wbytes (W.take 0) = [] from rfl, List.append_nil]
        simp (implicitDefEqProofs := false) only [↓reduceIte, go_sem, Nat.reduceLT, Nat.reduceEqDiff, reduceCtorEq, eq_self]
    · rintro j s H' hj hw ⟨ver, rfl, t0, t7, t8, t9⟩
      have hx := List.getElem?_eq_getElem hj
      have hm := hW _ (List.getElem_mem hj)
      have hb := hWb j (by omega)
      have hvl := valB_len (hok _ hm) (hmay _ hm)
      have e1 : putP W.length ++ wbytes (W.take (j + 1)) = (putP W.length ++ wbytes (W.take j)) ++ valB W[j] := by rw [List.take_succ_eq_append_getElem hj, wbytes_snoc, List.append_assoc]
      have hvd := fun H => rvalBytes_does W[j] (hok _ hm) (hmay _ hm) H
      rw [e1]
      have hBl : (putP W.length ++ wbytes (W.take j)).length ≤ 11 + j * 1035 := by rw [List.length_append]; omega
      generalize putP W.length ++ wbytes (W.take j) = B at *
      generalize W[j] = w at *
      simp (implicitDefEqProofs := false) only [↓reduceIte, go_sem, Nat.reduceAdd, Nat.reduceLT, Nat.reduceEqDiff, eq_self, t7, t9, hj, List.length_map, hx, Val.enc]
      refine KCall.ok (hvd _) ?_
      simp (implicitDefEqProofs := false) only [↓reduceIte, go_sem, Nat.reduceLT, Nat.reduceEqDiff, eq_self, t8, bys_one, bys_len, bys_app]
      refine ⟨by omega, by omega, ?_⟩
      simp (implicitDefEqProofs := false) only [↓reduceIte, go_sem, Nat.reduceLT, eq_self, t9]
      refine Rnd.same ⟨ver + 1, rfl, ?_⟩
      simp (implicitDefEqProofs := false) only [↓reduceIte, go_sem, Nat.reduceLT, Nat.reduceEqDiff, reduceCtorEq, eq_self, t0, t7, hw]
    · rintro s H' ⟨ver, rfl, t0, t7, t8, t9⟩
      rw [show W.take W.length = W from List.take_length] at *
      have hb := hWb W.length (Nat.le_refl _)
      rw [List.take_length] at hb
      have l3 : (packP C (widP W.length)).length ≤ 100000 := by
        rw [packP, packB_len, bitsL_len]
        have : C.length * widP W.length ≤ 4096 * 12 := Nat.mul_le_mul (by omega) hwid
        omega
      have l4 : (putP W.length ++ wbytes W).length ≤ 11 + 4096 * 1035 := by rw [List.length_append]; omega
      simp (implicitDefEqProofs := false) only [↓reduceIte, go_sem, Nat.reduceLT, Nat.reduceEqDiff, reduceCtorEq, eq_self, t0, t7, t9, List.length_map]
      refine KCall.ok (hcd _) ?_
      simp (implicitDefEqProofs := false) only [↓reduceIte, go_sem, Nat.reduceLT, Nat.reduceEqDiff, eq_self, t7, List.length_map]
      refine KCall.ok (rwidth09_does W.length (by omega) _) ?_
      simp (implicitDefEqProofs := false) only [↓reduceIte, go_sem, Nat.reduceLT, Nat.reduceEqDiff, eq_self]
      refine KCall.ok (rpack_does C (widP W.length) (by omega) hC64 hcf (by omega) false _) ?_
      rw [hB]
      generalize packP C (widP W.length) = Z at *
      generalize putP W.length ++ wbytes W = B at *
      simp (implicitDefEqProofs := false) only [↓reduceIte, go_sem, Nat.reduceLT, Nat.reduceEqDiff, eq_self, t8, bys_one, bys_len, bys_app]
      refine ⟨by omega, by omega, AEnd.ret ?_⟩
      have ht : (bys (B ++ Z)).take (B.length + Z.length) = bys (B ++ Z) := List.take_of_length_le (by rw [bys_len, List.length_append]; omega)
      simp (implicitDefEqProofs := false) only [↓reduceIte, go_sem, Nat.reduceLT, Nat.reduceEqDiff, eq_self, ht]
  · have hd : dictL l k = [] := by unfold dictL; rw [if_neg hp]
    rw [hd]
    refine Does.subT (cs := [.d (.v (.slice none 0 0)), iA (plainP l k)]) ?_ (.cons .nil (.cons (.refl _) .nil))
    refine Does.of_awp (hint := (fun _ => false)) Tryz.func7 (by kernel_rfl) rfl [4, 5] (by kernel_rfl) (by decide) (by simp [Tryz.ntmps7]) ?_
    rw [Tryz.ntmps7]
    simp (implicitDefEqProofs := false) only [↓reduceIte, go_sem, Nat.reduceLT, Nat.reduceEqDiff, reduceCtorEq, eq_self]
    refine KCall.ok (rplain_does l k false _ (by omega)) ?_
    simp (implicitDefEqProofs := false) only [↓reduceIte, go_sem, Nat.reduceLT, Nat.reduceEqDiff, eq_self, hp]
    refine AEnd.ret0 ?_
    simp (implicitDefEqProofs := false) only [↓reduceIte, go_sem, Nat.reduceLT, Nat.reduceEqDiff, eq_self]
end Go.Proofs.YtkapgooedfompaaGreat

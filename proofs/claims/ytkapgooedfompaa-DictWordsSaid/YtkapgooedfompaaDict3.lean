/- dict.Words, the laws' few and shown: what they do. -/
import Derived.Test.YtkapgooedfompaaDict2
import Derived.Test.YtkapgooedfompaaCloneV
import Derived.Test.YtkapgooedfompaaStabV
import Derived.Test.YtkapgooedfompaaCompV
import Derived.Test.YtkapgooedfompaaSame01
import Derived.Test.YtkapgooedfompaaArg
namespace Go.Proofs.Ytkapgooedfompaa
open Go.Proofs.YtkapgooedfompaaAw Go.RowKit
set_option linter.unusedVariables false
set_option linter.unusedSimpArgs false
def eqV (a b : Val) : Bool := decide (cmpV a b = 0)
set_option maxRecDepth 10000 in
set_option maxHeartbeats 1000000 in
theorem words1_does (a b : Val) (H : AHeap) : Does Try.prog 27 [a.av, b.av] H (.ok (bA (eqV a b))) H := by
  refine Does.of_awp (hint := (fun _ => false)) Try.func27 (by kernel_rfl) rfl [4] (by kernel_rfl) (by decide) (by simp [Try.ntmps27]) ?_
  rw [Try.ntmps27]
  simp (implicitDefEqProofs := false) only [↓reduceIte, go_sem, oread, owrite, Nat.reduceAdd, Nat.reduceSub, Nat.reduceMul, Nat.reduceLT, Nat.reduceLeDiff, Nat.reduceEqDiff, Nat.reduceBEq, Int.reduceLE, Int.reduceLT, Int.reduceEq, Int.reduceNe, Int.reduceAdd, Int.reduceSub, Int.reduceMul, Int.reduceNeg, Int.reduceToNat, Int.reduceNatCast, reduceCtorEq, eq_self]
  refine KCall.ok (vcmp_does a b _) ?_
  simp (implicitDefEqProofs := false) only [↓reduceIte, go_sem, oread, owrite, Nat.reduceAdd, Nat.reduceSub, Nat.reduceMul, Nat.reduceLT, Nat.reduceLeDiff, Nat.reduceEqDiff, Nat.reduceBEq, Int.reduceLE, Int.reduceLT, Int.reduceEq, Int.reduceNe, Int.reduceAdd, Int.reduceSub, Int.reduceMul, Int.reduceNeg, Int.reduceToNat, Int.reduceNatCast, reduceCtorEq, eq_self]
  refine AEnd.ret ?_
  simp (implicitDefEqProofs := false) only [↓reduceIte, go_sem, oread, owrite, Nat.reduceAdd, Nat.reduceSub, Nat.reduceMul, Nat.reduceLT, Nat.reduceLeDiff, Nat.reduceEqDiff, Nat.reduceBEq, Int.reduceLE, Int.reduceLT, Int.reduceEq, Int.reduceNe, Int.reduceAdd, Int.reduceSub, Int.reduceMul, Int.reduceNeg, Int.reduceToNat, Int.reduceNatCast, reduceCtorEq, eq_self, eqV]
theorem wordsP_len {α : Type} (c : α → α → Int) (l : List α) : (wordsP c l).length ≤ l.length := by
  have h := St.compactP_len (eq := fun a b => decide (c a b = 0)) (St.sortS (ltT c) l)
  rwa [St.sortS_len] at h
set_option maxRecDepth 10000 in
set_option maxHeartbeats 1000000 in
theorem words_does (l : List Val) (nn : Bool) (H : AHeap) (hl : l.length ≤ 10000000000) : Does Try.prog 15 [.d (.list nn (l.map Val.enc))] H (.ok (.d (.list false ((wordsP cmpV l).map Val.enc)))) H := by
  have ho : St.Ord (SV.ltC cmpV) := cmpV_tri.ord
  obtain ⟨H1, hH1⟩ : ∃ H1, H1 = H ++ [AObj.arr 24 3 1 (l.map Val.enc)] := ⟨_, rfl⟩
  have hid : H.length < H1.length := by rw [hH1]; simp
  have e0 : H1 = SV.aH H1 H.length 1 l := by
    unfold SV.aH
    rw [hH1]; simp
  have hs := SV.sort_does H1 H.length 1 hid 22 [] cmpV ho (fun o x y => vcmp_does x y _) l.length (by omega) l rfl
  rw [← e0] at hs
  have hc := SV.compact_does H1 H.length 1 hid 27 [] eqV (fun o x y => words1_does x y _) l.length (by omega) (St.sortS (SV.ltC cmpV) l) (St.sortS_len _)
  have hk := SV.clone_does l nn H (by omega)
  rw [← hH1] at hk
  have hn : St.compactP eqV (St.sortS (SV.ltC cmpV) l) = wordsP cmpV l := rfl
  have hfin : SV.compH H1 H.length 1 eqV (St.sortS (SV.ltC cmpV) l) = H ++ [AObj.arr 24 3 1 ((wordsP cmpV l).map Val.enc ++ List.replicate (l.length - (wordsP cmpV l).length) SV.zrow)] := by
    unfold SV.compH
    rw [hH1, St.sortS_len, hn]
    simp
  refine Does.of_awp (hint := (fun _ => false)) Try.func15 (by kernel_rfl) rfl [2] (by kernel_rfl) (by decide) (by simp [Try.ntmps15]) ?_
  rw [Try.ntmps15]
  simp (implicitDefEqProofs := false) only [↓reduceIte, go_sem, oread, owrite, Nat.reduceAdd, Nat.reduceSub, Nat.reduceMul, Nat.reduceLT, Nat.reduceLeDiff, Nat.reduceEqDiff, Nat.reduceBEq, Int.reduceLE, Int.reduceLT, Int.reduceEq, Int.reduceNe, Int.reduceAdd, Int.reduceSub, Int.reduceMul, Int.reduceNeg, Int.reduceToNat, Int.reduceNatCast, reduceCtorEq, eq_self]
  refine KCall.ok hk ?_
  simp (implicitDefEqProofs := false) only [↓reduceIte, go_sem, oread, owrite, Nat.reduceAdd, Nat.reduceSub, Nat.reduceMul, Nat.reduceLT, Nat.reduceLeDiff, Nat.reduceEqDiff, Nat.reduceBEq, Int.reduceLE, Int.reduceLT, Int.reduceEq, Int.reduceNe, Int.reduceAdd, Int.reduceSub, Int.reduceMul, Int.reduceNeg, Int.reduceToNat, Int.reduceNatCast, reduceCtorEq, eq_self]
  refine KCall.ok hs ?_
  simp (implicitDefEqProofs := false) only [↓reduceIte, go_sem, oread, owrite, Nat.reduceAdd, Nat.reduceSub, Nat.reduceMul, Nat.reduceLT, Nat.reduceLeDiff, Nat.reduceEqDiff, Nat.reduceBEq, Int.reduceLE, Int.reduceLT, Int.reduceEq, Int.reduceNe, Int.reduceAdd, Int.reduceSub, Int.reduceMul, Int.reduceNeg, Int.reduceToNat, Int.reduceNatCast, reduceCtorEq, eq_self]
  refine KCall.ok hc ?_
  rw [hfin]
  simp (implicitDefEqProofs := false) only [↓reduceIte, go_sem, oread, owrite, Nat.reduceAdd, Nat.reduceSub, Nat.reduceMul, Nat.reduceLT, Nat.reduceLeDiff, Nat.reduceEqDiff, Nat.reduceBEq, Int.reduceLE, Int.reduceLT, Int.reduceEq, Int.reduceNe, Int.reduceAdd, Int.reduceSub, Int.reduceMul, Int.reduceNeg, Int.reduceToNat, Int.reduceNatCast, reduceCtorEq, eq_self, hn]
  refine AEnd.ret ?_
  have ht : ((wordsP cmpV l).map Val.enc ++ List.replicate (l.length - (wordsP cmpV l).length) SV.zrow).take (wordsP cmpV l).length = (wordsP cmpV l).map Val.enc := by rw [List.take_left' (by simp)]
  simp (implicitDefEqProofs := false) only [↓reduceIte, go_sem, oread, owrite, Nat.reduceAdd, Nat.reduceSub, Nat.reduceMul, Nat.reduceLT, Nat.reduceLeDiff, Nat.reduceEqDiff, Nat.reduceBEq, Int.reduceLE, Int.reduceLT, Int.reduceEq, Int.reduceNe, Int.reduceAdd, Int.reduceSub, Int.reduceMul, Int.reduceNeg, Int.reduceToNat, Int.reduceNatCast, reduceCtorEq, eq_self, ht]
/-! ### few -/
def fsum : List Val → Nat → Nat
  | [], n => n
  | v :: r, n => if n ≤ 100000 then fsum r (n + v.s.size) else n
theorem fsum_cons (v : Val) (r : List Val) (n : Nat) : fsum (v :: r) n = if n ≤ 100000 then fsum r (n + v.s.size) else n := rfl
def fewP (l : List Val) : Bool := decide (l.length ≤ 1000) && decide (fsum l 0 ≤ 100000)
theorem fewP_len {l : List Val} (h : fewP l = true) : l.length ≤ 1000 := by
  unfold fewP at h
  simp at h
  exact h.1
set_option maxRecDepth 10000 in
set_option maxHeartbeats 1000000 in
theorem few09_does (l : List Val) (nn : Bool) (H : AHeap) (hl : l.length ≤ 1000000000000000) (hs : ∀ v ∈ l, v.s.size ≤ 140737488351232) : Does Try.prog 9 [.d (.list nn (l.map Val.enc))] H (.ok (bA (fewP l))) H := by
  refine Does.of_awp (hint := (fun _ => false)) Try.func9 (by kernel_rfl) rfl [2] (by kernel_rfl) (by decide) (by simp [Try.ntmps9]) ?_
  rw [Try.ntmps9]
  simp (implicitDefEqProofs := false) only [↓reduceIte, go_sem, oread, owrite, Nat.reduceAdd, Nat.reduceSub, Nat.reduceMul, Nat.reduceLT, Nat.reduceLeDiff, Nat.reduceEqDiff, Nat.reduceBEq, Int.reduceLE, Int.reduceLT, Int.reduceEq, Int.reduceNe, Int.reduceAdd, Int.reduceSub, Int.reduceMul, Int.reduceNeg, Int.reduceToNat, Int.reduceNatCast, reduceCtorEq, eq_self]
  refine awp_loop _ _ _ _ (fun (k : Nat) s H' => H' = H ∧ k ≤ l.length ∧ (∃ n : Nat, n ≤ 150000000000000 ∧ fsum l 0 = fsum (l.drop k) n ∧ s 3 = iA n) ∧ s 0 = .d (.list nn (l.map Val.enc)) ∧ s 4 = iA k) (fun k => l.length - k) 0 (Weak.refl _ _) ?_ ?_
  · refine ⟨rfl, Nat.zero_le _, ⟨0, by omega, rfl, ?_⟩, ?_⟩
    · simp (implicitDefEqProofs := false) only [↓reduceIte, go_sem, oread, owrite, Nat.reduceAdd, Nat.reduceSub, Nat.reduceMul, Nat.reduceLT, Nat.reduceLeDiff, Nat.reduceEqDiff, Nat.reduceBEq, Int.reduceLE, Int.reduceLT, Int.reduceEq, Int.reduceNe, Int.reduceAdd, Int.reduceSub, Int.reduceMul, Int.reduceNeg, Int.reduceToNat, Int.reduceNatCast, reduceCtorEq, eq_self]
    · simp (implicitDefEqProofs := false) only [↓reduceIte, go_sem, oread, owrite, Nat.reduceAdd, Nat.reduceSub, Nat.reduceMul, Nat.reduceLT, Nat.reduceLeDiff, Nat.reduceEqDiff, Nat.reduceBEq, Int.reduceLE, Int.reduceLT, Int.reduceEq, Int.reduceNe, Int.reduceAdd, Int.reduceSub, Int.reduceMul, Int.reduceNeg, Int.reduceToNat, Int.reduceNatCast, reduceCtorEq, eq_self]
  · rintro k s H' ⟨rfl, hk, ⟨n, hn, hf, t3⟩, t0, t4⟩
    have hw1 : IntKind.i64.wrap ((k : Int) + 1) = (k : Int) + 1 := wrap64_in _ (by omega) (by omega)
    have fin : (k = l.length ∨ 100000 < n) → fsum l 0 = n := by
      rintro (h | h)
      · rw [hf, List.drop_of_length_le (by omega)]; rfl
      · rw [hf]
        cases l.drop k with
        | nil => rfl
        | cons v r => rw [fsum_cons, if_neg (by omega)]
    by_cases hkl : k < l.length
    · by_cases hn2 : n ≤ 100000
      · have hx := List.getElem?_eq_getElem hkl
        have e1 := List.drop_eq_getElem_cons hkl
        have hxs := hs _ (List.getElem_mem hkl)
        generalize l[k] = x at hx e1 hxs
        have hf2 : fsum l 0 = fsum (l.drop (k + 1)) (n + x.s.size) := by rw [hf, e1, fsum_cons, if_pos hn2]
        obtain ⟨n2, hn2'⟩ : ∃ n2, n2 = n + x.s.size := ⟨_, rfl⟩
        have hw2 : IntKind.i64.wrap ((n : Int) + (x.s.size : Int)) = (n2 : Int) := by rw [wrap64_in _ (by omega) (by omega)]; omega
        simp (implicitDefEqProofs := false) only [↓reduceIte, go_sem, oread, owrite, Nat.reduceAdd, Nat.reduceSub, Nat.reduceMul, Nat.reduceLT, Nat.reduceLeDiff, Nat.reduceEqDiff, Nat.reduceBEq, Int.reduceLE, Int.reduceLT, Int.reduceEq, Int.reduceNe, Int.reduceAdd, Int.reduceSub, Int.reduceMul, Int.reduceNeg, Int.reduceToNat, Int.reduceNatCast, reduceCtorEq, eq_self, t0, t3, t4, eq_true hkl, show ((n : Int) ≤ 100000) = True from eq_true (by omega)]
        simp (implicitDefEqProofs := false) only [↓reduceIte, go_sem, oread, owrite, Nat.reduceAdd, Nat.reduceSub, Nat.reduceMul, Nat.reduceLT, Nat.reduceLeDiff, Nat.reduceEqDiff, Nat.reduceBEq, Int.reduceLE, Int.reduceLT, Int.reduceEq, Int.reduceNe, Int.reduceAdd, Int.reduceSub, Int.reduceMul, Int.reduceNeg, Int.reduceToNat, Int.reduceNatCast, reduceCtorEq, eq_self, t0, t3, t4, hkl, hx, Val.enc, hw2, hw1]
        refine ⟨_, _, k + 1, Weak.refl _ _, ⟨rfl, hkl, ⟨n2, by omega, by rw [hn2']; exact hf2, ?_⟩, ?_⟩, by omega⟩
        · simp (implicitDefEqProofs := false) only [↓reduceIte, go_sem, oread, owrite, Nat.reduceAdd, Nat.reduceSub, Nat.reduceMul, Nat.reduceLT, Nat.reduceLeDiff, Nat.reduceEqDiff, Nat.reduceBEq, Int.reduceLE, Int.reduceLT, Int.reduceEq, Int.reduceNe, Int.reduceAdd, Int.reduceSub, Int.reduceMul, Int.reduceNeg, Int.reduceToNat, Int.reduceNatCast, reduceCtorEq, eq_self]
        · simp (implicitDefEqProofs := false) only [↓reduceIte, go_sem, oread, owrite, Nat.reduceAdd, Nat.reduceSub, Nat.reduceMul, Nat.reduceLT, Nat.reduceLeDiff, Nat.reduceEqDiff, Nat.reduceBEq, Int.reduceLE, Int.reduceLT, Int.reduceEq, Int.reduceNe, Int.reduceAdd, Int.reduceSub, Int.reduceMul, Int.reduceNeg, Int.reduceToNat, Int.reduceNatCast, reduceCtorEq, eq_self, t0]
      · simp (implicitDefEqProofs := false) only [↓reduceIte, go_sem, oread, owrite, Nat.reduceAdd, Nat.reduceSub, Nat.reduceMul, Nat.reduceLT, Nat.reduceLeDiff, Nat.reduceEqDiff, Nat.reduceBEq, Int.reduceLE, Int.reduceLT, Int.reduceEq, Int.reduceNe, Int.reduceAdd, Int.reduceSub, Int.reduceMul, Int.reduceNeg, Int.reduceToNat, Int.reduceNatCast, reduceCtorEq, eq_self, t0, t3, t4, eq_true hkl, show ((n : Int) ≤ 100000) = False from eq_false (by omega)]
        have hfe : fewP l = false := by unfold fewP; rw [fin (.inr (by omega))]; simp; omega
        by_cases h1 : l.length ≤ 1000
        · simp (implicitDefEqProofs := false) only [↓reduceIte, go_sem, oread, owrite, Nat.reduceAdd, Nat.reduceSub, Nat.reduceMul, Nat.reduceLT, Nat.reduceLeDiff, Nat.reduceEqDiff, Nat.reduceBEq, Int.reduceLE, Int.reduceLT, Int.reduceEq, Int.reduceNe, Int.reduceAdd, Int.reduceSub, Int.reduceMul, Int.reduceNeg, Int.reduceToNat, Int.reduceNatCast, reduceCtorEq, eq_self, t0, t3, show ((l.length : Int) ≤ 1000) = True from eq_true (by omega), show ((n : Int) ≤ 100000) = False from eq_false (by omega)]
          refine AEnd.ret0 ?_
          simp (implicitDefEqProofs := false) only [↓reduceIte, go_sem, oread, owrite, Nat.reduceAdd, Nat.reduceSub, Nat.reduceMul, Nat.reduceLT, Nat.reduceLeDiff, Nat.reduceEqDiff, Nat.reduceBEq, Int.reduceLE, Int.reduceLT, Int.reduceEq, Int.reduceNe, Int.reduceAdd, Int.reduceSub, Int.reduceMul, Int.reduceNeg, Int.reduceToNat, Int.reduceNatCast, reduceCtorEq, eq_self, hfe]
        · simp (implicitDefEqProofs := false) only [↓reduceIte, go_sem, oread, owrite, Nat.reduceAdd, Nat.reduceSub, Nat.reduceMul, Nat.reduceLT, Nat.reduceLeDiff, Nat.reduceEqDiff, Nat.reduceBEq, Int.reduceLE, Int.reduceLT, Int.reduceEq, Int.reduceNe, Int.reduceAdd, Int.reduceSub, Int.reduceMul, Int.reduceNeg, Int.reduceToNat, Int.reduceNatCast, reduceCtorEq, eq_self, t0, show ((l.length : Int) ≤ 1000) = False from eq_false (by omega)]
          refine AEnd.ret0 ?_
          simp (implicitDefEqProofs := false) only [↓reduceIte, go_sem, oread, owrite, Nat.reduceAdd, Nat.reduceSub, Nat.reduceMul, Nat.reduceLT, Nat.reduceLeDiff, Nat.reduceEqDiff, Nat.reduceBEq, Int.reduceLE, Int.reduceLT, Int.reduceEq, Int.reduceNe, Int.reduceAdd, Int.reduceSub, Int.reduceMul, Int.reduceNeg, Int.reduceToNat, Int.reduceNatCast, reduceCtorEq, eq_self, hfe]
    · simp (implicitDefEqProofs := false) only [↓reduceIte, go_sem, oread, owrite, Nat.reduceAdd, Nat.reduceSub, Nat.reduceMul, Nat.reduceLT, Nat.reduceLeDiff, Nat.reduceEqDiff, Nat.reduceBEq, Int.reduceLE, Int.reduceLT, Int.reduceEq, Int.reduceNe, Int.reduceAdd, Int.reduceSub, Int.reduceMul, Int.reduceNeg, Int.reduceToNat, Int.reduceNatCast, reduceCtorEq, eq_self, t0, t4, eq_false hkl]
      have hfe : fewP l = (decide (l.length ≤ 1000) && decide (n ≤ 100000)) := by unfold fewP; rw [fin (.inl (by omega))]
      by_cases h1 : l.length ≤ 1000
      · by_cases h2 : n ≤ 100000
        · simp (implicitDefEqProofs := false) only [↓reduceIte, go_sem, oread, owrite, Nat.reduceAdd, Nat.reduceSub, Nat.reduceMul, Nat.reduceLT, Nat.reduceLeDiff, Nat.reduceEqDiff, Nat.reduceBEq, Int.reduceLE, Int.reduceLT, Int.reduceEq, Int.reduceNe, Int.reduceAdd, Int.reduceSub, Int.reduceMul, Int.reduceNeg, Int.reduceToNat, Int.reduceNatCast, reduceCtorEq, eq_self, t0, t3, show ((l.length : Int) ≤ 1000) = True from eq_true (by omega), show ((n : Int) ≤ 100000) = True from eq_true (by omega)]
          refine AEnd.ret0 ?_
          simp (implicitDefEqProofs := false) only [↓reduceIte, go_sem, oread, owrite, Nat.reduceAdd, Nat.reduceSub, Nat.reduceMul, Nat.reduceLT, Nat.reduceLeDiff, Nat.reduceEqDiff, Nat.reduceBEq, Int.reduceLE, Int.reduceLT, Int.reduceEq, Int.reduceNe, Int.reduceAdd, Int.reduceSub, Int.reduceMul, Int.reduceNeg, Int.reduceToNat, Int.reduceNatCast, reduceCtorEq, eq_self, hfe, h1, h2, Bool.and_self]
        · simp (implicitDefEqProofs := false) only [↓reduceIte, go_sem, oread, owrite, Nat.reduceAdd, Nat.reduceSub, Nat.reduceMul, Nat.reduceLT, Nat.reduceLeDiff, Nat.reduceEqDiff, Nat.reduceBEq, Int.reduceLE, Int.reduceLT, Int.reduceEq, Int.reduceNe, Int.reduceAdd, Int.reduceSub, Int.reduceMul, Int.reduceNeg, Int.reduceToNat, Int.reduceNatCast, reduceCtorEq, eq_self, t0, t3, show ((l.length : Int) ≤ 1000) = True from eq_true (by omega), show ((n : Int) ≤ 100000) = False from eq_false (by omega)]
          refine AEnd.ret0 ?_
          simp (implicitDefEqProofs := false) only [↓reduceIte, go_sem, oread, owrite, Nat.reduceAdd, Nat.reduceSub, Nat.reduceMul, Nat.reduceLT, Nat.reduceLeDiff, Nat.reduceEqDiff, Nat.reduceBEq, Int.reduceLE, Int.reduceLT, Int.reduceEq, Int.reduceNe, Int.reduceAdd, Int.reduceSub, Int.reduceMul, Int.reduceNeg, Int.reduceToNat, Int.reduceNatCast, reduceCtorEq, eq_self, hfe, h1, h2, Bool.and_false]
      · simp (implicitDefEqProofs := false) only [↓reduceIte, go_sem, oread, owrite, Nat.reduceAdd, Nat.reduceSub, Nat.reduceMul, Nat.reduceLT, Nat.reduceLeDiff, Nat.reduceEqDiff, Nat.reduceBEq, Int.reduceLE, Int.reduceLT, Int.reduceEq, Int.reduceNe, Int.reduceAdd, Int.reduceSub, Int.reduceMul, Int.reduceNeg, Int.reduceToNat, Int.reduceNatCast, reduceCtorEq, eq_self, t0, show ((l.length : Int) ≤ 1000) = False from eq_false (by omega)]
        refine AEnd.ret0 ?_
        simp (implicitDefEqProofs := false) only [↓reduceIte, go_sem, oread, owrite, Nat.reduceAdd, Nat.reduceSub, Nat.reduceMul, Nat.reduceLT, Nat.reduceLeDiff, Nat.reduceEqDiff, Nat.reduceBEq, Int.reduceLE, Int.reduceLT, Int.reduceEq, Int.reduceNe, Int.reduceAdd, Int.reduceSub, Int.reduceMul, Int.reduceNeg, Int.reduceToNat, Int.reduceNatCast, reduceCtorEq, eq_self, hfe, h1, Bool.false_and]
/-! ### shown -/
def txA : Val := ⟨3, 0, ⟨#[97]⟩⟩
def txB : Val := ⟨3, 0, ⟨#[98]⟩⟩
theorem tl97 : (⟨#[97]⟩ : ByteArray).toList = [97] := by rw [ByteArray.toList_eq]
theorem tl98 : (⟨#[98]⟩ : ByteArray).toList = [98] := by rw [ByteArray.toList_eq]
theorem ab : cmpV txA txB = -1 := by simp [cmpV, txA, txB, cmpS, lessS, tl97, tl98, Op.bytesLess, ordI]
theorem ba : cmpV txB txA = 1 := by simp [cmpV, txA, txB, cmpS, lessS, tl97, tl98, Op.bytesLess, ordI]
theorem bb : cmpV txB txB = 0 := cmpV_tri.self _
theorem aa : cmpV txA txA = 0 := cmpV_tri.self _
theorem ex_words : wordsP cmpV [txB, txA, txB] = [txA, txB] := by
  simp [wordsP, St.sortS, St.ins, ltT, ab, ba, bb, aa, St.compactP, St.cgo]
theorem ex_place : placeP [txA, txB] txA = 0 ∧ placeP [txA, txB] txB = 1 := by
  simp [placeP, idxP, ab, ba, bb, aa, List.findIdx_cons]
theorem ex_codes : codesR [txA, txB] [txB, txA, txB] = .tup [.d (.list false (us [1, 0, 1])), iA 0] := by
  simp [codesR, codesP, codesE, codesOk, ex_place]
theorem ex_below : belowP [txA, txB] txB = 1 := by simp [belowP, ab, bb]
set_option maxRecDepth 10000 in
set_option maxHeartbeats 1000000 in
theorem shown09_does (H : AHeap) : Does Try.prog 8 [] H (.ok (bA true)) H := by
  have h1 := fun H => words_does [txB, txA, txB] true H (by simp)
  rw [ex_words] at h1
  have h2 := fun H => codes_does [txA, txB] [txB, txA, txB] false true H (by simp) (by simp)
  rw [ex_codes] at h2
  have h3 := fun H => below_does [txA, txB] txB false H (by simp)
  rw [ex_below] at h3
  refine Does.of_awp (hint := (fun _ => false)) Try.func8 (by kernel_rfl) rfl [0] (by kernel_rfl) (by decide) (by simp [Try.ntmps8]) ?_
  rw [Try.ntmps8]
  simp (implicitDefEqProofs := false) only [↓reduceIte, go_sem, oread, owrite, Nat.reduceAdd, Nat.reduceSub, Nat.reduceMul, Nat.reduceLT, Nat.reduceLeDiff, Nat.reduceEqDiff, Nat.reduceBEq, Int.reduceLE, Int.reduceLT, Int.reduceEq, Int.reduceNe, Int.reduceAdd, Int.reduceSub, Int.reduceMul, Int.reduceNeg, Int.reduceToNat, Int.reduceNatCast, reduceCtorEq, eq_self]
  refine KCall.ok (h1 _) ?_
  simp (implicitDefEqProofs := false) only [↓reduceIte, go_sem, oread, owrite, Nat.reduceAdd, Nat.reduceSub, Nat.reduceMul, Nat.reduceLT, Nat.reduceLeDiff, Nat.reduceEqDiff, Nat.reduceBEq, Int.reduceLE, Int.reduceLT, Int.reduceEq, Int.reduceNe, Int.reduceAdd, Int.reduceSub, Int.reduceMul, Int.reduceNeg, Int.reduceToNat, Int.reduceNatCast, reduceCtorEq, eq_self]
  refine KCall.ok (h2 _) ?_
  simp (implicitDefEqProofs := false) only [↓reduceIte, go_sem, oread, owrite, Nat.reduceAdd, Nat.reduceSub, Nat.reduceMul, Nat.reduceLT, Nat.reduceLeDiff, Nat.reduceEqDiff, Nat.reduceBEq, Int.reduceLE, Int.reduceLT, Int.reduceEq, Int.reduceNe, Int.reduceAdd, Int.reduceSub, Int.reduceMul, Int.reduceNeg, Int.reduceToNat, Int.reduceNatCast, reduceCtorEq, eq_self]
  refine KCall.ok (same05_does [txA, txB] [txA, txB] false true _ (by simp)) ?_
  simp (implicitDefEqProofs := false) only [↓reduceIte, go_sem, oread, owrite, Nat.reduceAdd, Nat.reduceSub, Nat.reduceMul, Nat.reduceLT, Nat.reduceLeDiff, Nat.reduceEqDiff, Nat.reduceBEq, Int.reduceLE, Int.reduceLT, Int.reduceEq, Int.reduceNe, Int.reduceAdd, Int.reduceSub, Int.reduceMul, Int.reduceNeg, Int.reduceToNat, Int.reduceNatCast, reduceCtorEq, eq_self]
  refine KCall.ok (same01_does [1, 0, 1] [1, 0, 1] false true _ (by simp)) ?_
  simp (implicitDefEqProofs := false) only [↓reduceIte, go_sem, oread, owrite, Nat.reduceAdd, Nat.reduceSub, Nat.reduceMul, Nat.reduceLT, Nat.reduceLeDiff, Nat.reduceEqDiff, Nat.reduceBEq, Int.reduceLE, Int.reduceLT, Int.reduceEq, Int.reduceNe, Int.reduceAdd, Int.reduceSub, Int.reduceMul, Int.reduceNeg, Int.reduceToNat, Int.reduceNatCast, reduceCtorEq, eq_self]
  refine KCall.ok (h3 _) ?_
  simp (implicitDefEqProofs := false) only [↓reduceIte, go_sem, oread, owrite, Nat.reduceAdd, Nat.reduceSub, Nat.reduceMul, Nat.reduceLT, Nat.reduceLeDiff, Nat.reduceEqDiff, Nat.reduceBEq, Int.reduceLE, Int.reduceLT, Int.reduceEq, Int.reduceNe, Int.reduceAdd, Int.reduceSub, Int.reduceMul, Int.reduceNeg, Int.reduceToNat, Int.reduceNatCast, reduceCtorEq, eq_self]
  refine AEnd.ret ?_
  simp (implicitDefEqProofs := false) only [↓reduceIte, go_sem, oread, owrite, Nat.reduceAdd, Nat.reduceSub, Nat.reduceMul, Nat.reduceLT, Nat.reduceLeDiff, Nat.reduceEqDiff, Nat.reduceBEq, Int.reduceLE, Int.reduceLT, Int.reduceEq, Int.reduceNe, Int.reduceAdd, Int.reduceSub, Int.reduceMul, Int.reduceNeg, Int.reduceToNat, Int.reduceNatCast, reduceCtorEq, eq_self]
end Go.Proofs.Ytkapgooedfompaa

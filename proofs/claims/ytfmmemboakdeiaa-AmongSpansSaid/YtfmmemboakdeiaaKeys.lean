/- among.Keys: what it does. -/
import Derived.Test.YtfmmemboakdeiaaGrid
import Derived.Test.YtfmmemboakdeiaaHolds
import Derived.Test.YtfmmemboakdeiaaWords
import Derived.Test.YtfmmemboakdeiaaStabV
import Derived.Test.YtfmmemboakdeiaaCompV
namespace Go.Proofs.Ytfmmemboakdeiaa
open Go.Proofs.YtfmmemboakdeiaaAw Go.RowKit
set_option linter.unusedVariables false
set_option linter.unusedSimpArgs false
def eqV (a b : Val) : Bool := decide (cmpV a b = 0)
set_option maxRecDepth 10000 in
theorem keys1_does (a b : Val) (H : AHeap) : Does Try.prog 29 [a.av, b.av] H (.ok (bA (eqV a b))) H := by
  refine Does.of_awp (hint := (fun _ => false)) Try.func29 (by kernel_rfl) rfl [4] (by kernel_rfl) (by decide) (by simp [Try.ntmps29]) ?_
  rw [Try.ntmps29]
  simp (implicitDefEqProofs := false) only [↓reduceIte, go_sem, oread, owrite, Nat.reduceAdd, Nat.reduceSub, Nat.reduceMul, Nat.reduceLT, Nat.reduceLeDiff, Nat.reduceEqDiff, Nat.reduceBEq, Int.reduceLE, Int.reduceLT, Int.reduceEq, Int.reduceNe, Int.reduceAdd, Int.reduceSub, Int.reduceMul, Int.reduceNeg, Int.reduceToNat, Int.reduceNatCast, reduceCtorEq, eq_self]
  refine KCall.ok (vcmp_does a b _) ?_
  simp (implicitDefEqProofs := false) only [↓reduceIte, go_sem, oread, owrite, Nat.reduceAdd, Nat.reduceSub, Nat.reduceMul, Nat.reduceLT, Nat.reduceLeDiff, Nat.reduceEqDiff, Nat.reduceBEq, Int.reduceLE, Int.reduceLT, Int.reduceEq, Int.reduceNe, Int.reduceAdd, Int.reduceSub, Int.reduceMul, Int.reduceNeg, Int.reduceToNat, Int.reduceNatCast, reduceCtorEq, eq_self]
  refine AEnd.ret ?_
  simp (implicitDefEqProofs := false) only [↓reduceIte, go_sem, oread, owrite, Nat.reduceAdd, Nat.reduceSub, Nat.reduceMul, Nat.reduceLT, Nat.reduceLeDiff, Nat.reduceEqDiff, Nat.reduceBEq, Int.reduceLE, Int.reduceLT, Int.reduceEq, Int.reduceNe, Int.reduceAdd, Int.reduceSub, Int.reduceMul, Int.reduceNeg, Int.reduceToNat, Int.reduceNatCast, reduceCtorEq, eq_self, eqV]
def keyF (R : List (List Val)) (c : Int) (l : List Atom) : List Val := (R.filter fun r => !decide ((atP r c).kind = 0) && allP l r).map fun r => atP r c
theorem keyF_snoc (R : List (List Val)) (r : List Val) (c : Int) (l : List Atom) : keyF (R ++ [r]) c l = if !decide ((atP r c).kind = 0) && allP l r then keyF R c l ++ [atP r c] else keyF R c l := by
  unfold keyF
  rw [List.filter_append, List.map_append]
  split <;> rename_i h <;> simp [h]
theorem keyF_le (R : List (List Val)) (c : Int) (l : List Atom) : (keyF R c l).length ≤ R.length := by unfold keyF; rw [List.length_map]; exact List.length_filter_le _ _
def keysP (R : List (List Val)) (c : Int) (l : List Atom) : List Val := wordsP cmpV (keyF R c l)
theorem wordsP_len {α : Type} (c : α → α → Int) (l : List α) : (wordsP c l).length ≤ l.length := by
  have h := St.compactP_len (eq := fun a b => decide (c a b = 0)) (St.sortS (ltT c) l)
  rwa [St.sortS_len] at h
set_option maxRecDepth 10000 in
set_option maxHeartbeats 1000000 in
theorem keys_does (R : List (List Val)) (c : Int) (l : List Atom) (n1 n2 : Bool) (hR : R.length ≤ 1000000000) (hr : ∀ r ∈ R, r.length ≤ 1000000000000) (hl : l.length ≤ 1000000000000) (H : AHeap) :
    Does Try.prog 10 [.d (.list n1 (rowsD R)), iA c, .d (.list n2 (l.map Atom.enc))] H (.ok (.d (.list false ((keysP R c l).map Val.enc)))) H := by
  have ho : St.Ord (SV.ltC cmpV) := cmpV_tri.ord
  refine Does.of_awp (hint := (fun _ => false)) Try.func10 (by kernel_rfl) rfl [6] (by kernel_rfl) (by decide) (by simp [Try.ntmps10]) ?_
  rw [Try.ntmps10]
  simp (implicitDefEqProofs := false) only [↓reduceIte, go_sem, oread, owrite, Nat.reduceAdd, Nat.reduceSub, Nat.reduceMul, Nat.reduceLT, Nat.reduceLeDiff, Nat.reduceEqDiff, Nat.reduceBEq, Int.reduceLE, Int.reduceLT, Int.reduceEq, Int.reduceNe, Int.reduceAdd, Int.reduceSub, Int.reduceMul, Int.reduceNeg, Int.reduceToNat, Int.reduceNatCast, reduceCtorEq, eq_self]
  refine KCall.ok (some_does R c n1 (by omega) hr H) ?_
  have hsl : (someP R c).length = R.length := by simp [someP]
  simp (implicitDefEqProofs := false) only [↓reduceIte, go_sem, oread, owrite, Nat.reduceAdd, Nat.reduceSub, Nat.reduceMul, Nat.reduceLT, Nat.reduceLeDiff, Nat.reduceEqDiff, Nat.reduceBEq, Int.reduceLE, Int.reduceLT, Int.reduceEq, Int.reduceNe, Int.reduceAdd, Int.reduceSub, Int.reduceMul, Int.reduceNeg, Int.reduceToNat, Int.reduceNatCast, reduceCtorEq, eq_self, List.length_map, hsl]
  refine awp_for (fun k s H' => H' = H ++ [.arr 26 3 (keyF (R.take k) c l).length ((keyF (R.take k) c l).map Val.enc)] ∧ s 0 = .d (.list n1 (rowsD R)) ∧ s 2 = .d (.list n2 (l.map Atom.enc)) ∧ s 7 = .sl H.length (keyF (R.take k) c l).length 0 (keyF (R.take k) c l).length ∧ s 12 = .d (.list false ((someP R c).map Val.enc)) ∧ s 13 = iA R.length ∧ s 14 = iA k) R.length (by omega) (Weak.virt1 _ _ 7 26 3 (by decide) (by simp (implicitDefEqProofs := false) only [↓reduceIte, go_sem, oread, owrite, Nat.reduceAdd, Nat.reduceSub, Nat.reduceMul, Nat.reduceLT, Nat.reduceLeDiff, Nat.reduceEqDiff, Nat.reduceBEq, Int.reduceLE, Int.reduceLT, Int.reduceEq, Int.reduceNe, Int.reduceAdd, Int.reduceSub, Int.reduceMul, Int.reduceNeg, Int.reduceToNat, Int.reduceNatCast, reduceCtorEq, eq_self]) _) ?_ ?_ ?_
  · refine ⟨rfl, ?_⟩
    simp (implicitDefEqProofs := false) only [↓reduceIte, go_sem, oread, owrite, Nat.reduceAdd, Nat.reduceSub, Nat.reduceMul, Nat.reduceLT, Nat.reduceLeDiff, Nat.reduceEqDiff, Nat.reduceBEq, Int.reduceLE, Int.reduceLT, Int.reduceEq, Int.reduceNe, Int.reduceAdd, Int.reduceSub, Int.reduceMul, Int.reduceNeg, Int.reduceToNat, Int.reduceNatCast, reduceCtorEq, eq_self]
    rfl
  · rintro k s H' hk hw ⟨rfl, t0, t2, t7, t12, t13, t14⟩
    have hx := rowsD_get R k hk
    have hv : ((someP R c).map Val.enc)[k]? = some (atP R[k] c).enc := by simp [someP, hk]
    have hF := keyF_snoc (R.take k) R[k] c l
    rw [← List.take_succ_eq_append_getElem hk] at hF
    have hFl := keyF_le (R.take k) c l
    rw [List.length_take] at hFl
    rw [hF]
    have hrl := hr _ (List.getElem_mem hk)
    generalize keyF (R.take k) c l = F at *
    have hlt2 : k < (someP R c).length := by omega
    generalize R[k] = r at *
    generalize atP r c = v at *
    simp only [Val.enc] at hv
    by_cases h0 : v.kind = 0
    · have e : (!decide (v.kind = 0) && allP l r) = false := by simp [h0]
      simp only [e, Bool.false_eq_true, if_false]
      simp (implicitDefEqProofs := false) only [↓reduceIte, go_sem, oread, owrite, Nat.reduceAdd, Nat.reduceSub, Nat.reduceMul, Nat.reduceLT, Nat.reduceLeDiff, Nat.reduceEqDiff, Nat.reduceBEq, Int.reduceLE, Int.reduceLT, Int.reduceEq, Int.reduceNe, Int.reduceAdd, Int.reduceSub, Int.reduceMul, Int.reduceNeg, Int.reduceToNat, Int.reduceNatCast, reduceCtorEq, eq_self, t0, t2, t7, t12, t13, t14, hk, hsl, List.length_map, hv, hlt2, h0]
      refine Rnd.cut [.arr 26 3 F.length (F.map Val.enc)] [.box 26 3 0 1 [iA v.kind, iA v.i, sA v.s]] 1 rfl ?_ (by simp (implicitDefEqProofs := false) only [↓reduceIte, go_sem, oread, owrite, Nat.reduceAdd, Nat.reduceSub, Nat.reduceMul, Nat.reduceLT, Nat.reduceLeDiff, Nat.reduceEqDiff, Nat.reduceBEq, Int.reduceLE, Int.reduceLT, Int.reduceEq, Int.reduceNe, Int.reduceAdd, Int.reduceSub, Int.reduceMul, Int.reduceNeg, Int.reduceToNat, Int.reduceNatCast, reduceCtorEq, eq_self]) ?_
      · simp (implicitDefEqProofs := false) only [↓reduceIte, go_sem, oread, owrite, Nat.reduceAdd, Nat.reduceSub, Nat.reduceMul, Nat.reduceLT, Nat.reduceLeDiff, Nat.reduceEqDiff, Nat.reduceBEq, Int.reduceLE, Int.reduceLT, Int.reduceEq, Int.reduceNe, Int.reduceAdd, Int.reduceSub, Int.reduceMul, Int.reduceNeg, Int.reduceToNat, Int.reduceNatCast, reduceCtorEq, eq_self, h0]
      refine ⟨rfl, ?_⟩
      simp (implicitDefEqProofs := false) only [↓reduceIte, go_sem, oread, owrite, Nat.reduceAdd, Nat.reduceSub, Nat.reduceMul, Nat.reduceLT, Nat.reduceLeDiff, Nat.reduceEqDiff, Nat.reduceBEq, Int.reduceLE, Int.reduceLT, Int.reduceEq, Int.reduceNe, Int.reduceAdd, Int.reduceSub, Int.reduceMul, Int.reduceNeg, Int.reduceToNat, Int.reduceNatCast, reduceCtorEq, eq_self, t0, t2, t7, t12, t13, hw]
    · cases hA : allP l r
      · simp only [Bool.and_false, Bool.false_eq_true, if_false]
        simp (implicitDefEqProofs := false) only [↓reduceIte, go_sem, oread, owrite, Nat.reduceAdd, Nat.reduceSub, Nat.reduceMul, Nat.reduceLT, Nat.reduceLeDiff, Nat.reduceEqDiff, Nat.reduceBEq, Int.reduceLE, Int.reduceLT, Int.reduceEq, Int.reduceNe, Int.reduceAdd, Int.reduceSub, Int.reduceMul, Int.reduceNeg, Int.reduceToNat, Int.reduceNatCast, reduceCtorEq, eq_self, t0, t2, t7, t12, t13, t14, hk, hsl, List.length_map, hv, hlt2, h0, rowsD_len, hx]
        refine KCall.ok (all_does l r n2 false _ hl) ?_
        simp (implicitDefEqProofs := false) only [↓reduceIte, go_sem, oread, owrite, Nat.reduceAdd, Nat.reduceSub, Nat.reduceMul, Nat.reduceLT, Nat.reduceLeDiff, Nat.reduceEqDiff, Nat.reduceBEq, Int.reduceLE, Int.reduceLT, Int.reduceEq, Int.reduceNe, Int.reduceAdd, Int.reduceSub, Int.reduceMul, Int.reduceNeg, Int.reduceToNat, Int.reduceNatCast, reduceCtorEq, eq_self, hA, t14]
        refine Rnd.cut [.arr 26 3 F.length (F.map Val.enc)] [.box 26 3 0 1 [iA v.kind, iA v.i, sA v.s]] 1 rfl rfl (by simp (implicitDefEqProofs := false) only [↓reduceIte, go_sem, oread, owrite, Nat.reduceAdd, Nat.reduceSub, Nat.reduceMul, Nat.reduceLT, Nat.reduceLeDiff, Nat.reduceEqDiff, Nat.reduceBEq, Int.reduceLE, Int.reduceLT, Int.reduceEq, Int.reduceNe, Int.reduceAdd, Int.reduceSub, Int.reduceMul, Int.reduceNeg, Int.reduceToNat, Int.reduceNatCast, reduceCtorEq, eq_self]) ?_
        refine ⟨rfl, ?_⟩
        simp (implicitDefEqProofs := false) only [↓reduceIte, go_sem, oread, owrite, Nat.reduceAdd, Nat.reduceSub, Nat.reduceMul, Nat.reduceLT, Nat.reduceLeDiff, Nat.reduceEqDiff, Nat.reduceBEq, Int.reduceLE, Int.reduceLT, Int.reduceEq, Int.reduceNe, Int.reduceAdd, Int.reduceSub, Int.reduceMul, Int.reduceNeg, Int.reduceToNat, Int.reduceNatCast, reduceCtorEq, eq_self, t0, t2, t7, t12, t13, hw]
      · have e : (!decide (v.kind = 0) && true) = true := by simp [h0]
        simp only [e, if_true]
        have q : F.map Val.enc ++ [v.enc] = (F ++ [v]).map Val.enc := by simp
        simp only [Val.enc] at q
        simp (implicitDefEqProofs := false) only [↓reduceIte, go_sem, oread, owrite, Nat.reduceAdd, Nat.reduceSub, Nat.reduceMul, Nat.reduceLT, Nat.reduceLeDiff, Nat.reduceEqDiff, Nat.reduceBEq, Int.reduceLE, Int.reduceLT, Int.reduceEq, Int.reduceNe, Int.reduceAdd, Int.reduceSub, Int.reduceMul, Int.reduceNeg, Int.reduceToNat, Int.reduceNatCast, reduceCtorEq, eq_self, t0, t2, t7, t12, t13, t14, hk, hsl, List.length_map, hv, hlt2, h0, rowsD_len, hx]
        refine KCall.ok (all_does l r n2 false _ hl) ?_
        simp (implicitDefEqProofs := false) only [↓reduceIte, go_sem, oread, owrite, Nat.reduceAdd, Nat.reduceSub, Nat.reduceMul, Nat.reduceLT, Nat.reduceLeDiff, Nat.reduceEqDiff, Nat.reduceBEq, Int.reduceLE, Int.reduceLT, Int.reduceEq, Int.reduceNe, Int.reduceAdd, Int.reduceSub, Int.reduceMul, Int.reduceNeg, Int.reduceToNat, Int.reduceNatCast, reduceCtorEq, eq_self, hA, t7, List.length_map, q]
        refine ⟨by omega, by omega, ?_⟩
        simp (implicitDefEqProofs := false) only [↓reduceIte, go_sem, oread, owrite, Nat.reduceAdd, Nat.reduceSub, Nat.reduceMul, Nat.reduceLT, Nat.reduceLeDiff, Nat.reduceEqDiff, Nat.reduceBEq, Int.reduceLE, Int.reduceLT, Int.reduceEq, Int.reduceNe, Int.reduceAdd, Int.reduceSub, Int.reduceMul, Int.reduceNeg, Int.reduceToNat, Int.reduceNatCast, reduceCtorEq, eq_self, t14]
        refine Rnd.cut [.arr 26 3 (F.length + 1) ((F ++ [v]).map Val.enc)] [.box 26 3 0 1 [iA v.kind, iA v.i, sA v.s]] 1 rfl rfl (by simp (implicitDefEqProofs := false) only [↓reduceIte, go_sem, oread, owrite, Nat.reduceAdd, Nat.reduceSub, Nat.reduceMul, Nat.reduceLT, Nat.reduceLeDiff, Nat.reduceEqDiff, Nat.reduceBEq, Int.reduceLE, Int.reduceLT, Int.reduceEq, Int.reduceNe, Int.reduceAdd, Int.reduceSub, Int.reduceMul, Int.reduceNeg, Int.reduceToNat, Int.reduceNatCast, reduceCtorEq, eq_self]) ?_
        refine ⟨rfl, ?_⟩
        simp (implicitDefEqProofs := false) only [↓reduceIte, go_sem, oread, owrite, Nat.reduceAdd, Nat.reduceSub, Nat.reduceMul, Nat.reduceLT, Nat.reduceLeDiff, Nat.reduceEqDiff, Nat.reduceBEq, Int.reduceLE, Int.reduceLT, Int.reduceEq, Int.reduceNe, Int.reduceAdd, Int.reduceSub, Int.reduceMul, Int.reduceNeg, Int.reduceToNat, Int.reduceNatCast, reduceCtorEq, eq_self, t0, t2, t12, t13, hw, List.length_append, List.length_singleton]
  · rintro s H' ⟨rfl, t0, t2, t7, t12, t13, t14⟩
    rw [show R.take R.length = R from List.take_length] at t7 ⊢
    have hFl := keyF_le R c l
    simp (implicitDefEqProofs := false) only [↓reduceIte, go_sem, oread, owrite, Nat.reduceAdd, Nat.reduceSub, Nat.reduceMul, Nat.reduceLT, Nat.reduceLeDiff, Nat.reduceEqDiff, Nat.reduceBEq, Int.reduceLE, Int.reduceLT, Int.reduceEq, Int.reduceNe, Int.reduceAdd, Int.reduceSub, Int.reduceMul, Int.reduceNeg, Int.reduceToNat, Int.reduceNatCast, reduceCtorEq, eq_self, t7, t13, t14]
    unfold keysP
    generalize keyF R c l = F at *
    obtain ⟨H1, hH1⟩ : ∃ H1, H1 = H ++ [AObj.arr 26 3 F.length (F.map Val.enc)] := ⟨_, rfl⟩
    have hid : H.length < H1.length := by rw [hH1]; simp
    have e0 : H1 = SV.aH H1 H.length F.length F := by
      unfold SV.aH
      rw [hH1]; simp
    have hs := SV.sort_does H1 H.length F.length hid 27 [] cmpV ho (fun o x y => vcmp_does x y _) F.length (by omega) F rfl
    rw [← e0] at hs
    have hc := SV.compact_does H1 H.length F.length hid 29 [] eqV (fun o x y => keys1_does x y _) F.length (by omega) (St.sortS (SV.ltC cmpV) F) (St.sortS_len _)
    have hn : St.compactP eqV (St.sortS (SV.ltC cmpV) F) = wordsP cmpV F := rfl
    have hfin : SV.compH H1 H.length F.length eqV (St.sortS (SV.ltC cmpV) F) = H ++ [AObj.arr 26 3 F.length ((wordsP cmpV F).map Val.enc ++ List.replicate (F.length - (wordsP cmpV F).length) SV.zrow)] := by
      unfold SV.compH
      rw [hH1, St.sortS_len, hn]
      simp
    rw [hH1] at hs
    refine KCall.ok hs ?_
    simp (implicitDefEqProofs := false) only [↓reduceIte, go_sem, oread, owrite, Nat.reduceAdd, Nat.reduceSub, Nat.reduceMul, Nat.reduceLT, Nat.reduceLeDiff, Nat.reduceEqDiff, Nat.reduceBEq, Int.reduceLE, Int.reduceLT, Int.reduceEq, Int.reduceNe, Int.reduceAdd, Int.reduceSub, Int.reduceMul, Int.reduceNeg, Int.reduceToNat, Int.reduceNatCast, reduceCtorEq, eq_self, t7]
    rw [← hH1]
    refine KCall.ok hc ?_
    rw [hfin]
    simp (implicitDefEqProofs := false) only [↓reduceIte, go_sem, oread, owrite, Nat.reduceAdd, Nat.reduceSub, Nat.reduceMul, Nat.reduceLT, Nat.reduceLeDiff, Nat.reduceEqDiff, Nat.reduceBEq, Int.reduceLE, Int.reduceLT, Int.reduceEq, Int.reduceNe, Int.reduceAdd, Int.reduceSub, Int.reduceMul, Int.reduceNeg, Int.reduceToNat, Int.reduceNatCast, reduceCtorEq, eq_self, hn]
    refine AEnd.ret ?_
    have ht : ((wordsP cmpV F).map Val.enc ++ List.replicate (F.length - (wordsP cmpV F).length) SV.zrow).take (wordsP cmpV F).length = (wordsP cmpV F).map Val.enc := by rw [List.take_left' (by simp)]
    simp (implicitDefEqProofs := false) only [↓reduceIte, go_sem, oread, owrite, Nat.reduceAdd, Nat.reduceSub, Nat.reduceMul, Nat.reduceLT, Nat.reduceLeDiff, Nat.reduceEqDiff, Nat.reduceBEq, Int.reduceLE, Int.reduceLT, Int.reduceEq, Int.reduceNe, Int.reduceAdd, Int.reduceSub, Int.reduceMul, Int.reduceNeg, Int.reduceToNat, Int.reduceNatCast, reduceCtorEq, eq_self, ht]
end Go.Proofs.Ytfmmemboakdeiaa

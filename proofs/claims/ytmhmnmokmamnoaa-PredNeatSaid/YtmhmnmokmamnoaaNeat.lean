/- pred.order, pred.Neat: what they do. -/
import Derived.Test.YtmhmnmokmamnoaaCloneA
import Derived.Test.YtmhmnmokmamnoaaStabA
import Derived.Test.YtmhmnmokmamnoaaCompA
import Derived.Test.YtmhmnmokmamnoaaTri
import Derived.Test.YtmhmnmokmamnoaaPred
namespace Go.Proofs.Ytmhmnmokmamnoaa
open Go.Proofs.YtmhmnmokmamnoaaAw Go.RowKit
set_option linter.unusedVariables false
set_option linter.unusedSimpArgs false
def orP (l : List Int) : Int := (l.find? (· ≠ 0)).getD 0
theorem orP_hit {l : List Int} {k : Nat} (hk : k < l.length) (h : ∀ i (hi : i < k) (hl : i < l.length), l[i] = 0) (hx : l[k] ≠ 0) : orP l = l[k] := by
  have : l.find? (· ≠ 0) = some l[k] := by
    rw [List.find?_eq_some_iff_getElem]
    exact ⟨by simpa using hx, k, hk, rfl, fun j hj => by simpa using h j hj (by omega)⟩
  rw [orP, this]; rfl
theorem orP_none {l : List Int} (h : ∀ i (hl : i < l.length), l[i] = 0) : orP l = 0 := by
  have : l.find? (· ≠ 0) = none := by
    rw [List.find?_eq_none]
    intro x hx
    obtain ⟨i, hi, rfl⟩ := List.mem_iff_getElem.1 hx
    simpa using h i hi
  rw [orP, this]; rfl
set_option maxRecDepth 10000 in
set_option maxHeartbeats 1000000 in
theorem or_does (l : List Int) (nn : Bool) (H : AHeap) (hl : l.length ≤ 1000000000000) : Does Try.prog 55 [.d (.list nn (ints l))] H (.ok (iA (orP l))) H := by
  refine Does.of_awp (hint := (fun _ => false)) Try.func55 (by kernel_rfl) rfl [2] (by kernel_rfl) (by decide) (by simp [Try.ntmps55]) ?_
  rw [Try.ntmps55]
  simp (implicitDefEqProofs := false) only [↓reduceIte, go_sem, oread, owrite, Nat.reduceAdd, Nat.reduceSub, Nat.reduceMul, Nat.reduceLT, Nat.reduceLeDiff, Nat.reduceEqDiff, Nat.reduceBEq, Int.reduceLE, Int.reduceLT, Int.reduceEq, Int.reduceNe, Int.reduceAdd, Int.reduceSub, Int.reduceMul, Int.reduceNeg, Int.reduceToNat, Int.reduceNatCast, reduceCtorEq, eq_self, ints_len]
  refine awp_for (fun k s H' => H' = H ∧ (∀ i (hi : i < k) (hl : i < l.length), l[i] = 0) ∧ s 3 = iA 0 ∧ s 6 = .d (.list nn (ints l)) ∧ s 7 = iA l.length ∧ s 8 = iA k) l.length (by omega) (Weak.refl _ _) ?_ ?_ ?_
  · refine ⟨rfl, fun i hi => by omega, ?_⟩
    simp (implicitDefEqProofs := false) only [↓reduceIte, go_sem, oread, owrite, Nat.reduceAdd, Nat.reduceSub, Nat.reduceMul, Nat.reduceLT, Nat.reduceLeDiff, Nat.reduceEqDiff, Nat.reduceBEq, Int.reduceLE, Int.reduceLT, Int.reduceEq, Int.reduceNe, Int.reduceAdd, Int.reduceSub, Int.reduceMul, Int.reduceNeg, Int.reduceToNat, Int.reduceNatCast, reduceCtorEq, eq_self]
  · rintro k s H' hk hw ⟨rfl, hp, t3, t6, t7, t8⟩
    have hx := ints_get l k hk
    have hhit := fun h => orP_hit hk hp h
    have hpp : l[k] = 0 → ∀ i (hi : i < k + 1) (hl : i < l.length), l[i] = 0 := fun h0 i hi hl' => by
      rcases Nat.lt_or_ge i k with h | h
      · exact hp i h hl'
      · obtain rfl : i = k := by omega
        exact h0
    generalize l[k] = x at hx hhit hpp
    simp (implicitDefEqProofs := false) only [↓reduceIte, go_sem, oread, owrite, Nat.reduceAdd, Nat.reduceSub, Nat.reduceMul, Nat.reduceLT, Nat.reduceLeDiff, Nat.reduceEqDiff, Nat.reduceBEq, Int.reduceLE, Int.reduceLT, Int.reduceEq, Int.reduceNe, Int.reduceAdd, Int.reduceSub, Int.reduceMul, Int.reduceNeg, Int.reduceToNat, Int.reduceNatCast, reduceCtorEq, eq_self, t3, t6, t7, t8, hk, hx]
    by_cases hx0 : x = 0
    · refine awp_F (by simp (implicitDefEqProofs := false) only [↓reduceIte, go_sem, oread, owrite, Nat.reduceAdd, Nat.reduceSub, Nat.reduceMul, Nat.reduceLT, Nat.reduceLeDiff, Nat.reduceEqDiff, Nat.reduceBEq, Int.reduceLE, Int.reduceLT, Int.reduceEq, Int.reduceNe, Int.reduceAdd, Int.reduceSub, Int.reduceMul, Int.reduceNeg, Int.reduceToNat, Int.reduceNatCast, reduceCtorEq, eq_self, hx0]) ?_
      simp (implicitDefEqProofs := false) only [↓reduceIte, go_sem, oread, owrite, Nat.reduceAdd, Nat.reduceSub, Nat.reduceMul, Nat.reduceLT, Nat.reduceLeDiff, Nat.reduceEqDiff, Nat.reduceBEq, Int.reduceLE, Int.reduceLT, Int.reduceEq, Int.reduceNe, Int.reduceAdd, Int.reduceSub, Int.reduceMul, Int.reduceNeg, Int.reduceToNat, Int.reduceNatCast, reduceCtorEq, eq_self, t8]
      refine Rnd.same ⟨rfl, hpp hx0, ?_⟩
      simp (implicitDefEqProofs := false) only [↓reduceIte, go_sem, oread, owrite, Nat.reduceAdd, Nat.reduceSub, Nat.reduceMul, Nat.reduceLT, Nat.reduceLeDiff, Nat.reduceEqDiff, Nat.reduceBEq, Int.reduceLE, Int.reduceLT, Int.reduceEq, Int.reduceNe, Int.reduceAdd, Int.reduceSub, Int.reduceMul, Int.reduceNeg, Int.reduceToNat, Int.reduceNatCast, reduceCtorEq, eq_self, t3, t6, t7, hw]
    · refine awp_T (by simp (implicitDefEqProofs := false) only [↓reduceIte, go_sem, oread, owrite, Nat.reduceAdd, Nat.reduceSub, Nat.reduceMul, Nat.reduceLT, Nat.reduceLeDiff, Nat.reduceEqDiff, Nat.reduceBEq, Int.reduceLE, Int.reduceLT, Int.reduceEq, Int.reduceNe, Int.reduceAdd, Int.reduceSub, Int.reduceMul, Int.reduceNeg, Int.reduceToNat, Int.reduceNatCast, reduceCtorEq, eq_self, hx0]) ?_
      simp (implicitDefEqProofs := false) only [↓reduceIte, go_sem, oread, owrite, Nat.reduceAdd, Nat.reduceSub, Nat.reduceMul, Nat.reduceLT, Nat.reduceLeDiff, Nat.reduceEqDiff, Nat.reduceBEq, Int.reduceLE, Int.reduceLT, Int.reduceEq, Int.reduceNe, Int.reduceAdd, Int.reduceSub, Int.reduceMul, Int.reduceNeg, Int.reduceToNat, Int.reduceNatCast, reduceCtorEq, eq_self]
      refine AEnd.ret0 ?_
      simp (implicitDefEqProofs := false) only [↓reduceIte, go_sem, oread, owrite, Nat.reduceAdd, Nat.reduceSub, Nat.reduceMul, Nat.reduceLT, Nat.reduceLeDiff, Nat.reduceEqDiff, Nat.reduceBEq, Int.reduceLE, Int.reduceLT, Int.reduceEq, Int.reduceNe, Int.reduceAdd, Int.reduceSub, Int.reduceMul, Int.reduceNeg, Int.reduceToNat, Int.reduceNatCast, reduceCtorEq, eq_self, hhit hx0]
  · rintro s H' ⟨rfl, hp, t3, t6, t7, t8⟩
    simp (implicitDefEqProofs := false) only [↓reduceIte, go_sem, oread, owrite, Nat.reduceAdd, Nat.reduceSub, Nat.reduceMul, Nat.reduceLT, Nat.reduceLeDiff, Nat.reduceEqDiff, Nat.reduceBEq, Int.reduceLE, Int.reduceLT, Int.reduceEq, Int.reduceNe, Int.reduceAdd, Int.reduceSub, Int.reduceMul, Int.reduceNeg, Int.reduceToNat, Int.reduceNatCast, reduceCtorEq, eq_self, t3, t7, t8]
    refine AEnd.ret0 ?_
    simp (implicitDefEqProofs := false) only [↓reduceIte, go_sem, oread, owrite, Nat.reduceAdd, Nat.reduceSub, Nat.reduceMul, Nat.reduceLT, Nat.reduceLeDiff, Nat.reduceEqDiff, Nat.reduceBEq, Int.reduceLE, Int.reduceLT, Int.reduceEq, Int.reduceNe, Int.reduceAdd, Int.reduceSub, Int.reduceMul, Int.reduceNeg, Int.reduceToNat, Int.reduceNatCast, reduceCtorEq, eq_self, orP_none fun i hi => hp i hi hi]
def cmpA (a b : Atom) : Int := orP [cmpI a.col b.col, cmpI a.op b.op, cmpV a.val b.val]
theorem cmpA_eq (a b : Atom) : cmpA a b = if cmpI a.col b.col ≠ 0 then cmpI a.col b.col else if cmpI a.op b.op ≠ 0 then cmpI a.op b.op else cmpV a.val b.val := by
  unfold cmpA orP
  simp only [List.find?_cons]
  by_cases h1 : cmpI a.col b.col = 0
  · by_cases h2 : cmpI a.op b.op = 0
    · by_cases h3 : cmpV a.val b.val = 0 <;> simp [h1, h2, h3]
    · simp [h1, h2]
  · simp [h1]
theorem cmpA_tri : Tri cmpA := by
  have h2 : Tri (fun a b : Atom => if cmpI a.op b.op ≠ 0 then cmpI a.op b.op else cmpV a.val b.val) :=
    Tri.lex (cmpI_tri.comap Atom.op) (d := fun a b => cmpV a.val b.val) (fun x y h => if_pos h) (fun x y h => if_neg (by simpa using h)) (fun x y _ => (cmpV_tri.comap Atom.val).anti x y) fun x y z _ _ => (cmpV_tri.comap Atom.val).ntrans x y z
  exact Tri.lex (cmpI_tri.comap Atom.col) (fun x y h => by rw [cmpA_eq, if_pos h]) (fun x y h => by rw [cmpA_eq, if_neg (by simpa using h)]) (fun x y _ => h2.anti x y) fun x y z _ _ => h2.ntrans x y z
set_option maxRecDepth 10000 in
set_option maxHeartbeats 1000000 in
theorem orderA_does (a b : Atom) (H : AHeap) : Does Try.prog 41 [a.av, b.av] H (.ok (iA (cmpA a b))) H := by
  refine Does.of_awp (hint := (fun _ => false)) Try.func41 (by kernel_rfl) rfl [4] (by kernel_rfl) (by decide) (by simp [Try.ntmps41]) ?_
  rw [Try.ntmps41]
  simp (implicitDefEqProofs := false) only [↓reduceIte, go_sem, oread, owrite, Nat.reduceAdd, Nat.reduceSub, Nat.reduceMul, Nat.reduceLT, Nat.reduceLeDiff, Nat.reduceEqDiff, Nat.reduceBEq, Int.reduceLE, Int.reduceLT, Int.reduceEq, Int.reduceNe, Int.reduceAdd, Int.reduceSub, Int.reduceMul, Int.reduceNeg, Int.reduceToNat, Int.reduceNatCast, reduceCtorEq, eq_self]
  refine awp_draw K.mixed (by kernel_rfl) ?_
  simp (implicitDefEqProofs := false) only [↓reduceIte, go_sem, oread, owrite, Nat.reduceAdd, Nat.reduceSub, Nat.reduceMul, Nat.reduceLT, Nat.reduceLeDiff, Nat.reduceEqDiff, Nat.reduceBEq, Int.reduceLE, Int.reduceLT, Int.reduceEq, Int.reduceNe, Int.reduceAdd, Int.reduceSub, Int.reduceMul, Int.reduceNeg, Int.reduceToNat, Int.reduceNatCast, reduceCtorEq, eq_self]
  refine KCall.ok (cmp_int_does a.col b.col _) ?_
  simp (implicitDefEqProofs := false) only [↓reduceIte, go_sem, oread, owrite, Nat.reduceAdd, Nat.reduceSub, Nat.reduceMul, Nat.reduceLT, Nat.reduceLeDiff, Nat.reduceEqDiff, Nat.reduceBEq, Int.reduceLE, Int.reduceLT, Int.reduceEq, Int.reduceNe, Int.reduceAdd, Int.reduceSub, Int.reduceMul, Int.reduceNeg, Int.reduceToNat, Int.reduceNatCast, reduceCtorEq, eq_self]
  refine KCall.ok (cmp_int_does a.op b.op _) ?_
  simp (implicitDefEqProofs := false) only [↓reduceIte, go_sem, oread, owrite, Nat.reduceAdd, Nat.reduceSub, Nat.reduceMul, Nat.reduceLT, Nat.reduceLeDiff, Nat.reduceEqDiff, Nat.reduceBEq, Int.reduceLE, Int.reduceLT, Int.reduceEq, Int.reduceNe, Int.reduceAdd, Int.reduceSub, Int.reduceMul, Int.reduceNeg, Int.reduceToNat, Int.reduceNatCast, reduceCtorEq, eq_self]
  refine KCall.ok (vcmp_does a.val b.val _) ?_
  simp (implicitDefEqProofs := false) only [↓reduceIte, go_sem, oread, owrite, Nat.reduceAdd, Nat.reduceSub, Nat.reduceMul, Nat.reduceLT, Nat.reduceLeDiff, Nat.reduceEqDiff, Nat.reduceBEq, Int.reduceLE, Int.reduceLT, Int.reduceEq, Int.reduceNe, Int.reduceAdd, Int.reduceSub, Int.reduceMul, Int.reduceNeg, Int.reduceToNat, Int.reduceNatCast, reduceCtorEq, eq_self]
  refine KCall.ok (or_does [cmpI a.col b.col, cmpI a.op b.op, cmpV a.val b.val] true _ (by simp)) ?_
  simp (implicitDefEqProofs := false) only [↓reduceIte, go_sem, oread, owrite, Nat.reduceAdd, Nat.reduceSub, Nat.reduceMul, Nat.reduceLT, Nat.reduceLeDiff, Nat.reduceEqDiff, Nat.reduceBEq, Int.reduceLE, Int.reduceLT, Int.reduceEq, Int.reduceNe, Int.reduceAdd, Int.reduceSub, Int.reduceMul, Int.reduceNeg, Int.reduceToNat, Int.reduceNatCast, reduceCtorEq, eq_self]
  refine AEnd.ret ?_
  simp (implicitDefEqProofs := false) only [↓reduceIte, go_sem, oread, owrite, Nat.reduceAdd, Nat.reduceSub, Nat.reduceMul, Nat.reduceLT, Nat.reduceLeDiff, Nat.reduceEqDiff, Nat.reduceBEq, Int.reduceLE, Int.reduceLT, Int.reduceEq, Int.reduceNe, Int.reduceAdd, Int.reduceSub, Int.reduceMul, Int.reduceNeg, Int.reduceToNat, Int.reduceNatCast, reduceCtorEq, eq_self, cmpA]
def eqA (a b : Atom) : Bool := decide (cmpA a b = 0)
set_option maxRecDepth 10000 in
set_option maxHeartbeats 1000000 in
theorem neat1_does (a b : Atom) (H : AHeap) : Does Try.prog 43 [a.av, b.av] H (.ok (bA (eqA a b))) H := by
  refine Does.of_awp (hint := (fun _ => false)) Try.func43 (by kernel_rfl) rfl [4] (by kernel_rfl) (by decide) (by simp [Try.ntmps43]) ?_
  rw [Try.ntmps43]
  simp (implicitDefEqProofs := false) only [↓reduceIte, go_sem, oread, owrite, Nat.reduceAdd, Nat.reduceSub, Nat.reduceMul, Nat.reduceLT, Nat.reduceLeDiff, Nat.reduceEqDiff, Nat.reduceBEq, Int.reduceLE, Int.reduceLT, Int.reduceEq, Int.reduceNe, Int.reduceAdd, Int.reduceSub, Int.reduceMul, Int.reduceNeg, Int.reduceToNat, Int.reduceNatCast, reduceCtorEq, eq_self]
  refine KCall.ok (orderA_does a b _) ?_
  simp (implicitDefEqProofs := false) only [↓reduceIte, go_sem, oread, owrite, Nat.reduceAdd, Nat.reduceSub, Nat.reduceMul, Nat.reduceLT, Nat.reduceLeDiff, Nat.reduceEqDiff, Nat.reduceBEq, Int.reduceLE, Int.reduceLT, Int.reduceEq, Int.reduceNe, Int.reduceAdd, Int.reduceSub, Int.reduceMul, Int.reduceNeg, Int.reduceToNat, Int.reduceNatCast, reduceCtorEq, eq_self]
  refine AEnd.ret ?_
  simp (implicitDefEqProofs := false) only [↓reduceIte, go_sem, oread, owrite, Nat.reduceAdd, Nat.reduceSub, Nat.reduceMul, Nat.reduceLT, Nat.reduceLeDiff, Nat.reduceEqDiff, Nat.reduceBEq, Int.reduceLE, Int.reduceLT, Int.reduceEq, Int.reduceNe, Int.reduceAdd, Int.reduceSub, Int.reduceMul, Int.reduceNeg, Int.reduceToNat, Int.reduceNatCast, reduceCtorEq, eq_self, eqA]
def neatP (l : List Atom) : List Atom := St.compactP eqA (St.sortS (SA.ltC cmpA) l)
theorem neatP_len (l : List Atom) : (neatP l).length ≤ l.length := by
  have h := St.compactP_len (eq := eqA) (St.sortS (SA.ltC cmpA) l)
  rwa [St.sortS_len] at h
set_option maxRecDepth 10000 in
set_option maxHeartbeats 1000000 in
theorem neat_does (l : List Atom) (nn : Bool) (H : AHeap) (hl : l.length ≤ 10000000000) : Does Try.prog 20 [.d (.list nn (l.map Atom.enc))] H (.ok (.d (.list false ((neatP l).map Atom.enc)))) H := by
  have ho : St.Ord (SA.ltC cmpA) := cmpA_tri.ord
  obtain ⟨H1, hH1⟩ : ∃ H1, H1 = H ++ [AObj.arr 32 5 1 (l.map Atom.enc)] := ⟨_, rfl⟩
  have hid : H.length < H1.length := by rw [hH1]; simp
  have e0 : H1 = SA.aH H1 H.length 1 l := by
    unfold SA.aH
    rw [hH1]; simp
  have hs := SA.sort_does H1 H.length 1 hid 41 [] cmpA ho (fun o x y => orderA_does x y _) l.length (by omega) l rfl
  rw [← e0] at hs
  have hc := SA.compact_does H1 H.length 1 hid 43 [] eqA (fun o x y => neat1_does x y _) l.length (by omega) (St.sortS (SA.ltC cmpA) l) (St.sortS_len _)
  have hk := SA.clone_does l nn H (by omega)
  rw [← hH1] at hk
  have hfin : SA.compH H1 H.length 1 eqA (St.sortS (SA.ltC cmpA) l) = H ++ [AObj.arr 32 5 1 ((neatP l).map Atom.enc ++ List.replicate (l.length - (neatP l).length) SA.zrow)] := by
    unfold SA.compH
    rw [hH1, St.sortS_len]
    simp [neatP]
  refine Does.of_awp (hint := (fun _ => false)) Try.func20 (by kernel_rfl) rfl [2] (by kernel_rfl) (by decide) (by simp [Try.ntmps20]) ?_
  rw [Try.ntmps20]
  simp (implicitDefEqProofs := false) only [↓reduceIte, go_sem, oread, owrite, Nat.reduceAdd, Nat.reduceSub, Nat.reduceMul, Nat.reduceLT, Nat.reduceLeDiff, Nat.reduceEqDiff, Nat.reduceBEq, Int.reduceLE, Int.reduceLT, Int.reduceEq, Int.reduceNe, Int.reduceAdd, Int.reduceSub, Int.reduceMul, Int.reduceNeg, Int.reduceToNat, Int.reduceNatCast, reduceCtorEq, eq_self]
  refine KCall.ok hk ?_
  simp (implicitDefEqProofs := false) only [↓reduceIte, go_sem, oread, owrite, Nat.reduceAdd, Nat.reduceSub, Nat.reduceMul, Nat.reduceLT, Nat.reduceLeDiff, Nat.reduceEqDiff, Nat.reduceBEq, Int.reduceLE, Int.reduceLT, Int.reduceEq, Int.reduceNe, Int.reduceAdd, Int.reduceSub, Int.reduceMul, Int.reduceNeg, Int.reduceToNat, Int.reduceNatCast, reduceCtorEq, eq_self]
  refine KCall.ok hs ?_
  simp (implicitDefEqProofs := false) only [↓reduceIte, go_sem, oread, owrite, Nat.reduceAdd, Nat.reduceSub, Nat.reduceMul, Nat.reduceLT, Nat.reduceLeDiff, Nat.reduceEqDiff, Nat.reduceBEq, Int.reduceLE, Int.reduceLT, Int.reduceEq, Int.reduceNe, Int.reduceAdd, Int.reduceSub, Int.reduceMul, Int.reduceNeg, Int.reduceToNat, Int.reduceNatCast, reduceCtorEq, eq_self]
  refine KCall.ok hc ?_
  rw [hfin]
  have hn : St.compactP eqA (St.sortS (SA.ltC cmpA) l) = neatP l := rfl
  simp (implicitDefEqProofs := false) only [↓reduceIte, go_sem, oread, owrite, Nat.reduceAdd, Nat.reduceSub, Nat.reduceMul, Nat.reduceLT, Nat.reduceLeDiff, Nat.reduceEqDiff, Nat.reduceBEq, Int.reduceLE, Int.reduceLT, Int.reduceEq, Int.reduceNe, Int.reduceAdd, Int.reduceSub, Int.reduceMul, Int.reduceNeg, Int.reduceToNat, Int.reduceNatCast, reduceCtorEq, eq_self, hn]
  refine AEnd.ret ?_
  have ht : ((neatP l).map Atom.enc ++ List.replicate (l.length - (neatP l).length) SA.zrow).take (neatP l).length = (neatP l).map Atom.enc := by rw [List.take_left' (by simp)]
  simp (implicitDefEqProofs := false) only [↓reduceIte, go_sem, oread, owrite, Nat.reduceAdd, Nat.reduceSub, Nat.reduceMul, Nat.reduceLT, Nat.reduceLeDiff, Nat.reduceEqDiff, Nat.reduceBEq, Int.reduceLE, Int.reduceLT, Int.reduceEq, Int.reduceNe, Int.reduceAdd, Int.reduceSub, Int.reduceMul, Int.reduceNeg, Int.reduceToNat, Int.reduceNatCast, reduceCtorEq, eq_self, ht]
end Go.Proofs.Ytmhmnmokmamnoaa

/- The law PredChecks: what it does. -/
import Derived.Test.YtmhmnmokmamnoaaLaw13
import Derived.Test.YtmhmnmokmamnoaaNeat
namespace Go.Proofs.Ytmhmnmokmamnoaa
open Go.Proofs.YtmhmnmokmamnoaaAw Go.RowKit
set_option linter.unusedVariables false
set_option linter.unusedSimpArgs false
theorem ints_app (l m : List Int) : ints l ++ ints m = ints (l ++ m) := by simp [ints]
theorem ints_one' (l : List Int) : (∀ c ∈ ints l, c.length = 1) = True := eq_true fun c hc => by obtain ⟨x, _, rfl⟩ := List.mem_map.1 hc; rfl
theorem checkP_one (a : Atom) (kinds : List Int) : checkP [a] kinds = checkA a kinds := by
  simp only [checkP]
  split
  · rename_i h; exact h.symm
  · rfl
theorem checkP_zero {l : List Atom} {kinds : List Int} : checkP l kinds = 0 ↔ ∀ a ∈ l, checkA a kinds = 0 := by
  induction l with
  | nil => simp [checkP]
  | cons a l ih =>
    simp only [checkP]
    by_cases h : checkA a kinds = 0
    · rw [if_pos h, ih]; simp [h]
    · rw [if_neg h]; simp [h]
theorem checkA_more {a : Atom} {kinds : List Int} (m : Int) (h : checkA a kinds = 0) : checkA a (kinds ++ [m]) = 0 := by
  unfold checkA at h ⊢
  cases hm : mayA a with
  | false => rw [hm] at h; simp at h
  | true =>
    rw [hm] at h
    simp only [Bool.not_true, Bool.false_eq_true, if_false] at h ⊢
    cases hk : kinds[a.col.toNat]? with
    | none => rw [hk] at h; simp at h
    | some k =>
      rw [hk] at h
      rw [List.getElem?_append_left (List.getElem?_eq_some_iff.1 hk).1, hk]
      exact h
theorem cgo_mem {α : Type} {eq : α → α → Bool} : ∀ {t : List α} {p x : α}, x ∈ St.cgo eq p t → x ∈ t
  | [], _, _, h => by simp [St.cgo] at h
  | y :: t, p, x, h => by
    unfold St.cgo at h
    split at h
    · exact List.mem_cons_of_mem _ (cgo_mem h)
    · rcases List.mem_cons.1 h with rfl | h
      · exact List.mem_cons_self ..
      · exact List.mem_cons_of_mem _ (cgo_mem h)
theorem compactP_mem {α : Type} {eq : α → α → Bool} {l : List α} {x : α} (h : x ∈ St.compactP eq l) : x ∈ l := by
  cases l with
  | nil => simp [St.compactP] at h
  | cons y t =>
    rcases List.mem_cons.1 h with rfl | h
    · exact List.mem_cons_self ..
    · exact List.mem_cons_of_mem _ (cgo_mem h)
theorem neatP_mem {l : List Atom} {a : Atom} (h : a ∈ neatP l) : a ∈ l := (St.sortS_mem cmpA_tri.ord).1 (compactP_mem h)
def okA (kinds : List Int) (a : Atom) : Bool := decide (checkA a kinds = 0)
set_option maxRecDepth 10000 in
set_option maxHeartbeats 2000000 in
theorem predChecks_walk (l : List Atom) (kinds : List Int) (more : Int) (hl : l.length ≤ 1000000000000000) (hk : kinds.length ≤ 17592186043904) (H : AHeap) : Does Try.prog 7 [.d (.list false (l.map Atom.enc)), .d (.list false (ints kinds)), iA more] H (.ok (bA true)) H := by
  refine Does.of_awp (hint := (fun t => t == 1000011)) Try.func7 (by kernel_rfl) rfl [6] (by kernel_rfl) (by decide) (by simp [Try.ntmps7]) ?_
  rw [Try.ntmps7]
  simp (implicitDefEqProofs := false) only [↓reduceIte, go_sem, oread, owrite, Nat.reduceAdd, Nat.reduceSub, Nat.reduceMul, Nat.reduceLT, Nat.reduceLeDiff, Nat.reduceEqDiff, Nat.reduceBEq, Int.reduceLE, Int.reduceLT, Int.reduceEq, Int.reduceNe, Int.reduceAdd, Int.reduceSub, Int.reduceMul, Int.reduceNeg, Int.reduceToNat, Int.reduceNatCast, reduceCtorEq, eq_self]
  refine KCall.ok (shown13_does _) ?_
  simp (implicitDefEqProofs := false) only [↓reduceIte, go_sem, oread, owrite, Nat.reduceAdd, Nat.reduceSub, Nat.reduceMul, Nat.reduceLT, Nat.reduceLeDiff, Nat.reduceEqDiff, Nat.reduceBEq, Int.reduceLE, Int.reduceLT, Int.reduceEq, Int.reduceNe, Int.reduceAdd, Int.reduceSub, Int.reduceMul, Int.reduceNeg, Int.reduceToNat, Int.reduceNatCast, reduceCtorEq, eq_self]
  refine KCall.ok (few13_does l _ hl) ?_
  have hl' : (l.take 100).length ≤ 100 := by simp; omega
  clear hl
  generalize l.take 100 = l at hl' ⊢
  simp (implicitDefEqProofs := false) only [↓reduceIte, go_sem, oread, owrite, Nat.reduceAdd, Nat.reduceSub, Nat.reduceMul, Nat.reduceLT, Nat.reduceLeDiff, Nat.reduceEqDiff, Nat.reduceBEq, Int.reduceLE, Int.reduceLT, Int.reduceEq, Int.reduceNe, Int.reduceAdd, Int.reduceSub, Int.reduceMul, Int.reduceNeg, Int.reduceToNat, Int.reduceNatCast, reduceCtorEq, eq_self]
  refine KCall.ok (check_does l kinds _ _ _ (by omega)) ?_
  simp (implicitDefEqProofs := false) only [↓reduceIte, go_sem, oread, owrite, Nat.reduceAdd, Nat.reduceSub, Nat.reduceMul, Nat.reduceLT, Nat.reduceLeDiff, Nat.reduceEqDiff, Nat.reduceBEq, Int.reduceLE, Int.reduceLT, Int.reduceEq, Int.reduceNe, Int.reduceAdd, Int.reduceSub, Int.reduceMul, Int.reduceNeg, Int.reduceToNat, Int.reduceNatCast, reduceCtorEq, eq_self]
  refine awp_for3 (fun k s H' => H' = H ∧ s 0 = .d (.list false (l.map Atom.enc)) ∧ s 1 = .d (.list false (ints kinds)) ∧ s 2 = iA more ∧ s 7 = bA true ∧ s 8 = iA (checkP l kinds) ∧ s 9 = bA ((l.take k).all (okA kinds)) ∧ s 10 = iA k) l.length (by omega) (Weak.refl _ _) ?_ ?_ ?_
  · refine ⟨rfl, ?_⟩
    simp (implicitDefEqProofs := false) only [↓reduceIte, go_sem, oread, owrite, Nat.reduceAdd, Nat.reduceSub, Nat.reduceMul, Nat.reduceLT, Nat.reduceLeDiff, Nat.reduceEqDiff, Nat.reduceBEq, Int.reduceLE, Int.reduceLT, Int.reduceEq, Int.reduceNe, Int.reduceAdd, Int.reduceSub, Int.reduceMul, Int.reduceNeg, Int.reduceToNat, Int.reduceNatCast, reduceCtorEq, eq_self, List.take_zero, List.all_nil]
  · rintro k s H' hkl hw ⟨rfl, t0, t1, t2, t7, t8, t9, t10⟩
    have e1 : (l.take (k + 1)).drop k = [l[k]] := by rw [List.take_succ_eq_append_getElem hkl, List.drop_left' (by simp; omega)]
    have e2 : (l.take (k + 1)).all (okA kinds) = ((l.take k).all (okA kinds) && okA kinds l[k]) := by rw [List.take_succ_eq_append_getElem hkl, List.all_append, List.all_cons, List.all_nil, Bool.and_true]
    have ht : ((k : Int) + 1).toNat = k + 1 := by omega
    have e3 : ((l.map Atom.enc).take (k + 1)).drop k = [l[k]].map Atom.enc := by rw [← List.map_take, ← List.map_drop, e1]
    generalize l[k] = x at e1 e2 e3
    rw [e2]
    simp (implicitDefEqProofs := false) only [↓reduceIte, go_sem, oread, owrite, Nat.reduceAdd, Nat.reduceSub, Nat.reduceMul, Nat.reduceLT, Nat.reduceLeDiff, Nat.reduceEqDiff, Nat.reduceBEq, Int.reduceLE, Int.reduceLT, Int.reduceEq, Int.reduceNe, Int.reduceAdd, Int.reduceSub, Int.reduceMul, Int.reduceNeg, Int.reduceToNat, Int.reduceNatCast, reduceCtorEq, eq_self, t0, t1, t10, hkl, hw, enc5, ht]
    refine ⟨by omega, by omega, ?_⟩
    rw [e3]
    refine KCall.ok (check_does [x] kinds false false _ (by simp)) ?_
    rw [checkP_one]
    cases ha : (l.take k).all (okA kinds) with
    | true =>
      simp (implicitDefEqProofs := false) only [↓reduceIte, go_sem, oread, owrite, Nat.reduceAdd, Nat.reduceSub, Nat.reduceMul, Nat.reduceLT, Nat.reduceLeDiff, Nat.reduceEqDiff, Nat.reduceBEq, Int.reduceLE, Int.reduceLT, Int.reduceEq, Int.reduceNe, Int.reduceAdd, Int.reduceSub, Int.reduceMul, Int.reduceNeg, Int.reduceToNat, Int.reduceNatCast, reduceCtorEq, eq_self, t9, ha, t10]
      refine Rnd.same ⟨rfl, ?_⟩
      simp (implicitDefEqProofs := false) only [↓reduceIte, go_sem, oread, owrite, Nat.reduceAdd, Nat.reduceSub, Nat.reduceMul, Nat.reduceLT, Nat.reduceLeDiff, Nat.reduceEqDiff, Nat.reduceBEq, Int.reduceLE, Int.reduceLT, Int.reduceEq, Int.reduceNe, Int.reduceAdd, Int.reduceSub, Int.reduceMul, Int.reduceNeg, Int.reduceToNat, Int.reduceNatCast, reduceCtorEq, eq_self, t0, t1, t2, t7, t8, hw, okA]
    | false =>
      simp (implicitDefEqProofs := false) only [↓reduceIte, go_sem, oread, owrite, Nat.reduceAdd, Nat.reduceSub, Nat.reduceMul, Nat.reduceLT, Nat.reduceLeDiff, Nat.reduceEqDiff, Nat.reduceBEq, Int.reduceLE, Int.reduceLT, Int.reduceEq, Int.reduceNe, Int.reduceAdd, Int.reduceSub, Int.reduceMul, Int.reduceNeg, Int.reduceToNat, Int.reduceNatCast, reduceCtorEq, eq_self, t9, ha, t10]
      refine Rnd.same ⟨rfl, ?_⟩
      simp (implicitDefEqProofs := false) only [↓reduceIte, go_sem, oread, owrite, Nat.reduceAdd, Nat.reduceSub, Nat.reduceMul, Nat.reduceLT, Nat.reduceLeDiff, Nat.reduceEqDiff, Nat.reduceBEq, Int.reduceLE, Int.reduceLT, Int.reduceEq, Int.reduceNe, Int.reduceAdd, Int.reduceSub, Int.reduceMul, Int.reduceNeg, Int.reduceToNat, Int.reduceNatCast, reduceCtorEq, eq_self, t0, t1, t2, t7, t8, hw]
  · rintro s H' ⟨rfl, t0, t1, t2, t7, t8, t9, t10⟩
    rw [List.take_length] at t9
    have hall : l.all (okA kinds) = decide (checkP l kinds = 0) := by
      rw [Bool.eq_iff_iff, List.all_eq_true, decide_eq_true_eq, checkP_zero]
      simp [okA]
    have hmore : checkP l kinds = 0 → checkP l (kinds ++ [more]) = 0 := fun h => checkP_zero.2 fun a ha => checkA_more more (checkP_zero.1 h a ha)
    have hneat : checkP l kinds = 0 → checkP (neatP l) kinds = 0 := fun h => checkP_zero.2 fun a ha => checkP_zero.1 h a (neatP_mem ha)
    rw [hall] at t9
    have hnl := neatP_len l
    simp (implicitDefEqProofs := false) only [↓reduceIte, go_sem, oread, owrite, Nat.reduceAdd, Nat.reduceSub, Nat.reduceMul, Nat.reduceLT, Nat.reduceLeDiff, Nat.reduceEqDiff, Nat.reduceBEq, Int.reduceLE, Int.reduceLT, Int.reduceEq, Int.reduceNe, Int.reduceAdd, Int.reduceSub, Int.reduceMul, Int.reduceNeg, Int.reduceToNat, Int.reduceNatCast, reduceCtorEq, eq_self, t0, t1, t2, t10, ints_one', ints_len, ints_snoc]
    refine ⟨by omega, by omega, by omega, by omega, _, _, Weak.drop _ _ _, ?_⟩
    have ht : (ints (kinds ++ [more])).take (kinds.length + 1) = ints (kinds ++ [more]) := List.take_of_length_le (by simp [ints_len])
    by_cases h : checkP l kinds = 0
    · have hd : decide (checkP l kinds = 0) = true := by simp [h]
      rw [hd] at t9
      rw [h] at t8
      simp (implicitDefEqProofs := false) only [↓reduceIte, go_sem, oread, owrite, Nat.reduceAdd, Nat.reduceSub, Nat.reduceMul, Nat.reduceLT, Nat.reduceLeDiff, Nat.reduceEqDiff, Nat.reduceBEq, Int.reduceLE, Int.reduceLT, Int.reduceEq, Int.reduceNe, Int.reduceAdd, Int.reduceSub, Int.reduceMul, Int.reduceNeg, Int.reduceToNat, Int.reduceNatCast, reduceCtorEq, eq_self, t0, t1, t7, t8, t9, ht]
      refine KCall.ok (check_does l (kinds ++ [more]) _ _ _ (by omega)) ?_
      rw [hmore h]
      simp (implicitDefEqProofs := false) only [↓reduceIte, go_sem, oread, owrite, Nat.reduceAdd, Nat.reduceSub, Nat.reduceMul, Nat.reduceLT, Nat.reduceLeDiff, Nat.reduceEqDiff, Nat.reduceBEq, Int.reduceLE, Int.reduceLT, Int.reduceEq, Int.reduceNe, Int.reduceAdd, Int.reduceSub, Int.reduceMul, Int.reduceNeg, Int.reduceToNat, Int.reduceNatCast, reduceCtorEq, eq_self, t0, t1, t8]
      refine KCall.ok (neat_does l _ _ (by omega)) ?_
      simp (implicitDefEqProofs := false) only [↓reduceIte, go_sem, oread, owrite, Nat.reduceAdd, Nat.reduceSub, Nat.reduceMul, Nat.reduceLT, Nat.reduceLeDiff, Nat.reduceEqDiff, Nat.reduceBEq, Int.reduceLE, Int.reduceLT, Int.reduceEq, Int.reduceNe, Int.reduceAdd, Int.reduceSub, Int.reduceMul, Int.reduceNeg, Int.reduceToNat, Int.reduceNatCast, reduceCtorEq, eq_self, t1]
      refine KCall.ok (check_does (neatP l) kinds _ _ _ (by omega)) ?_
      rw [hneat h]
      simp (implicitDefEqProofs := false) only [↓reduceIte, go_sem, oread, owrite, Nat.reduceAdd, Nat.reduceSub, Nat.reduceMul, Nat.reduceLT, Nat.reduceLeDiff, Nat.reduceEqDiff, Nat.reduceBEq, Int.reduceLE, Int.reduceLT, Int.reduceEq, Int.reduceNe, Int.reduceAdd, Int.reduceSub, Int.reduceMul, Int.reduceNeg, Int.reduceToNat, Int.reduceNatCast, reduceCtorEq, eq_self]
      refine AEnd.ret0 ?_
      simp (implicitDefEqProofs := false) only [↓reduceIte, go_sem, oread, owrite, Nat.reduceAdd, Nat.reduceSub, Nat.reduceMul, Nat.reduceLT, Nat.reduceLeDiff, Nat.reduceEqDiff, Nat.reduceBEq, Int.reduceLE, Int.reduceLT, Int.reduceEq, Int.reduceNe, Int.reduceAdd, Int.reduceSub, Int.reduceMul, Int.reduceNeg, Int.reduceToNat, Int.reduceNatCast, reduceCtorEq, eq_self]
    · have hd : decide (checkP l kinds = 0) = false := by simp [h]
      rw [hd] at t9
      simp (implicitDefEqProofs := false) only [↓reduceIte, go_sem, oread, owrite, Nat.reduceAdd, Nat.reduceSub, Nat.reduceMul, Nat.reduceLT, Nat.reduceLeDiff, Nat.reduceEqDiff, Nat.reduceBEq, Int.reduceLE, Int.reduceLT, Int.reduceEq, Int.reduceNe, Int.reduceAdd, Int.reduceSub, Int.reduceMul, Int.reduceNeg, Int.reduceToNat, Int.reduceNatCast, reduceCtorEq, eq_self, t7, t8, t9, h]
      refine AEnd.ret0 ?_
      simp (implicitDefEqProofs := false) only [↓reduceIte, go_sem, oread, owrite, Nat.reduceAdd, Nat.reduceSub, Nat.reduceMul, Nat.reduceLT, Nat.reduceLeDiff, Nat.reduceEqDiff, Nat.reduceBEq, Int.reduceLE, Int.reduceLT, Int.reduceEq, Int.reduceNe, Int.reduceAdd, Int.reduceSub, Int.reduceMul, Int.reduceNeg, Int.reduceToNat, Int.reduceNatCast, reduceCtorEq, eq_self]
theorem argAtoms' {x : AV} (h : ArgOk Try.prog 36 x) : ∃ l : List Atom, x = .d (.list false (l.map Atom.enc)) ∧ l.length ≤ 1000000000000000 ∧ ∀ a ∈ l, a.Ok := by
  obtain ⟨d, rfl, hf⟩ := arg_one h K.agB36 (sh := .slice 48 shAtom) (by kernel_rfl)
  obtain ⟨l, rfl, hl, hn⟩ := atoms_inv hf
  exact ⟨l, rfl, by omega, hn⟩
theorem predChecks_does (x0 : AV) (h0 : ArgOk Try.prog 36 x0) (x1 : AV) (h1 : ArgOk Try.prog 40 x1) (x2 : AV) (h2 : ArgOk Try.prog 3 x2) : Does Try.prog 7 [x0, x1, x2] [] (.ok (.d (.v (.bool true)))) [] := by
  obtain ⟨l, rfl, hl, _⟩ := argAtoms' h0
  obtain ⟨d, rfl, hf⟩ := arg_one h1 K.agB40 (sh := .slice 8 [.int .i64]) (by kernel_rfl)
  obtain ⟨kinds, rfl, hk, _⟩ := ints_inv hf
  obtain ⟨d, rfl, hf⟩ := arg_one h2 K.agB3 (sh := .int .i64) (by kernel_rfl)
  obtain ⟨m, rfl, _⟩ := Fits.i64_inv hf
  exact predChecks_walk l kinds m hl (by omega) []
end Go.Proofs.Ytmhmnmokmamnoaa

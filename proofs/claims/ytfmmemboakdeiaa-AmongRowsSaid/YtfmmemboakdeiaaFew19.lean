/- The laws of layer 19: what they share over rows. -/
import Derived.Test.YtfmmemboakdeiaaKeys
import Derived.Test.YtfmmemboakdeiaaArg
import Derived.Test.YtfmmemboakdeiaaFind
namespace Go.Proofs.Ytfmmemboakdeiaa
open Go.Proofs.YtfmmemboakdeiaaAw Go.RowKit
set_option linter.unusedVariables false
set_option linter.unusedSimpArgs false
def few19P (R : List (List Val)) : List (List Val) := (R.take 200).map fun r => r.take 9
theorem enc3r (l : List Val) : (∀ c ∈ l.map Val.enc, c.length = 3) = True := eq_true fun c hc => by obtain ⟨a, _, rfl⟩ := List.mem_map.1 hc; rfl
set_option maxRecDepth 10000 in
set_option maxHeartbeats 1000000 in
theorem few19_does (R : List (List Val)) (nn : Bool) (hR : R.length ≤ 140737488351232) (hr : ∀ r ∈ R, r.length ≤ 140737488351232) (H : AHeap) :
    Does Try.prog 13 [.d (.list nn (rowsD R))] H (.ok (.d (.list false (rowsD (few19P R))))) H := by
  refine Does.of_awp (hint := (fun _ => false)) Try.func13 (by kernel_rfl) rfl [2] (by kernel_rfl) (by decide) (by simp [Try.ntmps13]) ?_
  rw [Try.ntmps13]
  simp (implicitDefEqProofs := false) only [↓reduceIte, go_sem, oread, owrite, Nat.reduceAdd, Nat.reduceSub, Nat.reduceMul, Nat.reduceLT, Nat.reduceLeDiff, Nat.reduceEqDiff, Nat.reduceBEq, Int.reduceLE, Int.reduceLT, Int.reduceEq, Int.reduceNe, Int.reduceAdd, Int.reduceSub, Int.reduceMul, Int.reduceNeg, Int.reduceToNat, Int.reduceNatCast, reduceCtorEq, eq_self]
  refine awp_for3 (fun k s H' => H' = H ++ [.arr 28 1 k (rowsD ((R.take k).map fun r => r.take 9))] ∧ s 0 = .d (.list nn (rowsD R)) ∧ s 3 = .sl H.length k 0 k ∧ s 4 = iA k) (min R.length 200) (by omega) (Weak.virt1 _ _ 3 28 1 (by decide) (by simp (implicitDefEqProofs := false) only [↓reduceIte, go_sem, oread, owrite, Nat.reduceAdd, Nat.reduceSub, Nat.reduceMul, Nat.reduceLT, Nat.reduceLeDiff, Nat.reduceEqDiff, Nat.reduceBEq, Int.reduceLE, Int.reduceLT, Int.reduceEq, Int.reduceNe, Int.reduceAdd, Int.reduceSub, Int.reduceMul, Int.reduceNeg, Int.reduceToNat, Int.reduceNatCast, reduceCtorEq, eq_self]) _) ?_ ?_ ?_
  · refine ⟨rfl, ?_⟩
    simp (implicitDefEqProofs := false) only [↓reduceIte, go_sem, oread, owrite, Nat.reduceAdd, Nat.reduceSub, Nat.reduceMul, Nat.reduceLT, Nat.reduceLeDiff, Nat.reduceEqDiff, Nat.reduceBEq, Int.reduceLE, Int.reduceLT, Int.reduceEq, Int.reduceNe, Int.reduceAdd, Int.reduceSub, Int.reduceMul, Int.reduceNeg, Int.reduceToNat, Int.reduceNatCast, reduceCtorEq, eq_self]
  · rintro k s H' hk hw ⟨rfl, t0, t3, t4⟩
    have hk1 : k < R.length := by omega
    have hk2 : ((k : Int) < 200) = True := eq_true (by omega)
    have hx := rowsD_get R k hk1
    have e1 : (R.take (k + 1)).map (fun r => r.take 9) = (R.take k).map (fun r => r.take 9) ++ [R[k].take 9] := by rw [List.take_succ_eq_append_getElem hk1, List.map_append]; rfl
    have el : ((R.take k).map (fun r => r.take 9)).length = k := by simp; omega
    have hrl := hr _ (List.getElem_mem hk1)
    rw [e1]
    generalize (R.take k).map (fun r => r.take 9) = O at *
    generalize R[k] = r at *
    by_cases h9 : 9 < r.length
    · have h9' : ((9 : Int) < (r.length : Int)) = True := eq_true (by omega)
      have q := rowsD_snoc O (r.take 9)
      rw [List.map_take] at q
      simp (implicitDefEqProofs := false) only [↓reduceIte, go_sem, oread, owrite, Nat.reduceAdd, Nat.reduceSub, Nat.reduceMul, Nat.reduceLT, Nat.reduceLeDiff, Nat.reduceEqDiff, Nat.reduceBEq, Int.reduceLE, Int.reduceLT, Int.reduceEq, Int.reduceNe, Int.reduceAdd, Int.reduceSub, Int.reduceMul, Int.reduceNeg, Int.reduceToNat, Int.reduceNatCast, reduceCtorEq, eq_self, t0, t3, t4, rowsD_len, hk1, hk2, hx, List.length_map, h9', enc3r, el, q]
      refine ⟨by omega, by omega, by omega, Rnd.same ⟨rfl, ?_⟩⟩
      simp (implicitDefEqProofs := false) only [↓reduceIte, go_sem, oread, owrite, Nat.reduceAdd, Nat.reduceSub, Nat.reduceMul, Nat.reduceLT, Nat.reduceLeDiff, Nat.reduceEqDiff, Nat.reduceBEq, Int.reduceLE, Int.reduceLT, Int.reduceEq, Int.reduceNe, Int.reduceAdd, Int.reduceSub, Int.reduceMul, Int.reduceNeg, Int.reduceToNat, Int.reduceNatCast, reduceCtorEq, eq_self, t0, hw]
    · have h9' : ((9 : Int) < (r.length : Int)) = False := eq_false (by omega)
      have q := rowsD_snoc O r
      rw [show r.take 9 = r from List.take_of_length_le (by omega)]
      simp (implicitDefEqProofs := false) only [↓reduceIte, go_sem, oread, owrite, Nat.reduceAdd, Nat.reduceSub, Nat.reduceMul, Nat.reduceLT, Nat.reduceLeDiff, Nat.reduceEqDiff, Nat.reduceBEq, Int.reduceLE, Int.reduceLT, Int.reduceEq, Int.reduceNe, Int.reduceAdd, Int.reduceSub, Int.reduceMul, Int.reduceNeg, Int.reduceToNat, Int.reduceNatCast, reduceCtorEq, eq_self, t0, t3, t4, rowsD_len, hk1, hk2, hx, List.length_map, h9', el, q]
      refine ⟨by omega, by omega, Rnd.same ⟨rfl, ?_⟩⟩
      simp (implicitDefEqProofs := false) only [↓reduceIte, go_sem, oread, owrite, Nat.reduceAdd, Nat.reduceSub, Nat.reduceMul, Nat.reduceLT, Nat.reduceLeDiff, Nat.reduceEqDiff, Nat.reduceBEq, Int.reduceLE, Int.reduceLT, Int.reduceEq, Int.reduceNe, Int.reduceAdd, Int.reduceSub, Int.reduceMul, Int.reduceNeg, Int.reduceToNat, Int.reduceNatCast, reduceCtorEq, eq_self, t0, hw]
  · rintro s H' ⟨rfl, t0, t3, t4⟩
    have ht : R.take (min R.length 200) = R.take 200 := by
      by_cases h : R.length ≤ 200
      · rw [Nat.min_eq_left h, List.take_length, List.take_of_length_le h]
      · rw [Nat.min_eq_right (by omega)]
    have hl : (few19P R).length = min R.length 200 := by simp [few19P]; omega
    rw [show (R.take (min R.length 200)).map (fun r => r.take 9) = few19P R from by rw [ht]; rfl]
    generalize few19P R = F at *
    generalize hm : min R.length 200 = m at *
    by_cases h : m < R.length
    · have h1 : ((m : Int) < (R.length : Int)) = True := eq_true (by omega)
      have h2 : ((m : Int) < 200) = False := eq_false (by omega)
      simp (implicitDefEqProofs := false) only [↓reduceIte, go_sem, oread, owrite, Nat.reduceAdd, Nat.reduceSub, Nat.reduceMul, Nat.reduceLT, Nat.reduceLeDiff, Nat.reduceEqDiff, Nat.reduceBEq, Int.reduceLE, Int.reduceLT, Int.reduceEq, Int.reduceNe, Int.reduceAdd, Int.reduceSub, Int.reduceMul, Int.reduceNeg, Int.reduceToNat, Int.reduceNatCast, reduceCtorEq, eq_self, t0, t3, t4, rowsD_len, h, h1, h2]
      refine AEnd.ret ?_
      simp (implicitDefEqProofs := false) only [↓reduceIte, go_sem, oread, owrite, Nat.reduceAdd, Nat.reduceSub, Nat.reduceMul, Nat.reduceLT, Nat.reduceLeDiff, Nat.reduceEqDiff, Nat.reduceBEq, Int.reduceLE, Int.reduceLT, Int.reduceEq, Int.reduceNe, Int.reduceAdd, Int.reduceSub, Int.reduceMul, Int.reduceNeg, Int.reduceToNat, Int.reduceNatCast, reduceCtorEq, eq_self, take_len2 (rowsD F) m (by rw [rowsD_len, hl])]
    · have h1 : ((m : Int) < (R.length : Int)) = False := eq_false (by omega)
      simp (implicitDefEqProofs := false) only [↓reduceIte, go_sem, oread, owrite, Nat.reduceAdd, Nat.reduceSub, Nat.reduceMul, Nat.reduceLT, Nat.reduceLeDiff, Nat.reduceEqDiff, Nat.reduceBEq, Int.reduceLE, Int.reduceLT, Int.reduceEq, Int.reduceNe, Int.reduceAdd, Int.reduceSub, Int.reduceMul, Int.reduceNeg, Int.reduceToNat, Int.reduceNatCast, reduceCtorEq, eq_self, t0, t3, t4, rowsD_len, h, h1]
      refine AEnd.ret ?_
      simp (implicitDefEqProofs := false) only [↓reduceIte, go_sem, oread, owrite, Nat.reduceAdd, Nat.reduceSub, Nat.reduceMul, Nat.reduceLT, Nat.reduceLeDiff, Nat.reduceEqDiff, Nat.reduceBEq, Int.reduceLE, Int.reduceLT, Int.reduceEq, Int.reduceNe, Int.reduceAdd, Int.reduceSub, Int.reduceMul, Int.reduceNeg, Int.reduceToNat, Int.reduceNatCast, reduceCtorEq, eq_self, take_len2 (rowsD F) m (by rw [rowsD_len, hl])]
/-! ### Arguments -/
theorem rows_inv {b c : Nat} {d : D} (hc : 0 < c) (h : Fits (.slice b [.slice c shVal]) d) : ∃ R : List (List Val), d = .list false (rowsD R) ∧ R.length * b ≤ 140737488351232 ∧ ∀ r ∈ R, r.length * c ≤ 140737488351232 ∧ ∀ v ∈ r, v.Ok := by
  obtain ⟨l, rfl, h1, h2⟩ := Fits.slice_inv h
  obtain ⟨la, rfl, h3⟩ := map_inv (enc := rowD) (p := fun r => r.length * c ≤ 140737488351232 ∧ ∀ v ∈ r, v.Ok) fun e he => by
    obtain ⟨x, xs, rfl, hx, h⟩ := FitsL.cons_inv (h2 e he)
    cases FitsL.nil_inv h
    obtain ⟨r, rfl, hl, hr⟩ := vals_inv hx
    exact ⟨r, rfl, hl, hr⟩
  exact ⟨la, rfl, by simpa using h1, h3⟩
structure RowsOk (R : List (List Val)) : Prop where
  len : R.length ≤ 100000000000000
  row : ∀ r ∈ R, r.length ≤ 100000000000000
  val : ∀ r ∈ R, ∀ v ∈ r, v.Ok
theorem argRows19 {x : AV} (h : ArgOk Try.prog 24 x) : ∃ R : List (List Val), x = .d (.list false (rowsD R)) ∧ RowsOk R := by
  obtain ⟨d, rfl, hf⟩ := arg_one h K.agB24 (sh := .slice 24 [.slice 32 shVal]) (by kernel_rfl)
  obtain ⟨R, rfl, hl, hn⟩ := rows_inv (by decide) hf
  exact ⟨R, rfl, by omega, fun r hr => by have := (hn r hr).1; omega, fun r hr => (hn r hr).2⟩
theorem argAtoms19 {x : AV} (h : ArgOk Try.prog 36 x) : ∃ l : List Atom, x = .d (.list false (l.map Atom.enc)) ∧ l.length ≤ 1000000000000000 ∧ ∀ a ∈ l, a.Ok := by
  obtain ⟨d, rfl, hf⟩ := arg_one h K.agB36 (sh := .slice 48 shAtom) (by kernel_rfl)
  obtain ⟨l, rfl, hl, hn⟩ := atoms_inv hf
  exact ⟨l, rfl, by omega, hn⟩
theorem argInt19 {x : AV} (h : ArgOk Try.prog 3 x) : ∃ n : Int, x = iA n ∧ I64 n := by
  obtain ⟨d, rfl, hf⟩ := arg_one h K.agB3 (sh := .int .i64) (by kernel_rfl)
  obtain ⟨n, rfl, hn⟩ := Fits.i64_inv hf
  exact ⟨n, rfl, hn⟩
theorem few19_len (R : List (List Val)) : (few19P R).length ≤ 200 := by simp [few19P]; omega
theorem few19_row {R : List (List Val)} {r : List Val} (h : r ∈ few19P R) : r.length ≤ 9 ∧ ∃ r' ∈ R, ∀ v ∈ r, v ∈ r' := by
  obtain ⟨r', hr, rfl⟩ := List.mem_map.1 h
  exact ⟨by simp; omega, r', List.mem_of_mem_take hr, fun v hv => List.mem_of_mem_take hv⟩
theorem few19_ok {R : List (List Val)} (h : RowsOk R) : RowsOk (few19P R) := by
  refine ⟨by have := few19_len R; omega, fun r hr => by have := (few19_row hr).1; omega, fun r hr v hv => ?_⟩
  obtain ⟨_, r', hr', hs⟩ := few19_row hr
  exact h.val r' hr' v (hs v hv)
/-! ### Keys, plainly -/
theorem atP_mem {r : List Val} {c : Int} (h : ¬ (atP r c).kind = 0) : atP r c ∈ r := by
  unfold atP at h ⊢
  split
  · rename_i h1; rw [if_pos h1] at h; exact absurd rfl h
  · rename_i h1
    rw [if_neg h1] at h
    rcases Nat.lt_or_ge c.toNat r.length with h2 | h2
    · rw [List.getD_eq_getElem?_getD, List.getElem?_eq_getElem h2]; exact List.getElem_mem h2
    · rw [List.getD_eq_getElem?_getD, List.getElem?_eq_none h2] at h; exact absurd rfl h
theorem keyF_iff {R : List (List Val)} {c : Int} {l : List Atom} {v : Val} : v ∈ keyF R c l ↔ ∃ r ∈ R, (¬ (atP r c).kind = 0 ∧ allP l r = true) ∧ atP r c = v := by
  unfold keyF
  simp only [List.mem_map, List.mem_filter, Bool.and_eq_true, Bool.not_eq_true', decide_eq_false_iff_not]
  exact ⟨fun ⟨r, ⟨h1, h2⟩, h3⟩ => ⟨r, h1, h2, h3⟩, fun ⟨r, h1, h2, h3⟩ => ⟨r, ⟨h1, h2⟩, h3⟩⟩
theorem keys_kind {R : List (List Val)} {c : Int} {l : List Atom} {v : Val} (h : v ∈ keysP R c l) : ¬ v.kind = 0 := by
  obtain ⟨r, _, ⟨h1, _⟩, rfl⟩ := keyF_iff.1 (words_mem cmpV_tri h)
  exact h1
theorem keys_ok {R : List (List Val)} (hR : RowsOk R) {c : Int} {l : List Atom} {v : Val} (h : v ∈ keysP R c l) : v.Ok := by
  obtain ⟨r, h0, ⟨h1, _⟩, rfl⟩ := keyF_iff.1 (words_mem cmpV_tri h)
  exact hR.val r h0 _ (atP_mem h1)
theorem keys_has {R : List (List Val)} {c : Int} {l : List Atom} {v : Val} (h : v ∈ keyF R c l) : ∃ y ∈ keysP R c l, cmpV v y = 0 := words_has cmpV_tri h
theorem keys_rise (R : List (List Val)) (c : Int) (l : List Atom) : (keysP R c l).Pairwise (fun x y => cmpV x y < 0) := (words_rise cmpV_tri (keyF R c l)).imp fun h => by simpa [ltT] using h
theorem allP_nil (r : List Val) : allP [] r = true := rfl
theorem keyF_app {R R' : List (List Val)} {c : Int} {v : Val} : v ∈ keyF (R ++ R') c [] ↔ v ∈ keyF R c [] ∨ v ∈ keyF R' c [] := by
  simp only [keyF_iff, List.mem_append]
  constructor
  · rintro ⟨r, h | h, g⟩
    · exact .inl ⟨r, h, g⟩
    · exact .inr ⟨r, h, g⟩
  · rintro (⟨r, h, g⟩ | ⟨r, h, g⟩)
    · exact ⟨r, .inl h, g⟩
    · exact ⟨r, .inr h, g⟩
theorem keyF_all {R : List (List Val)} {c : Int} {l : List Atom} {v : Val} (h : v ∈ keyF R c l) : v ∈ keyF R c [] := by
  obtain ⟨r, h0, ⟨h1, _⟩, h2⟩ := keyF_iff.1 h
  exact keyF_iff.2 ⟨r, h0, ⟨h1, rfl⟩, h2⟩
theorem inP_of {K : List Val} {v : Val} (h0 : ¬ v.kind = 0) (h : ∃ y ∈ K, cmpV v y = 0) : inP K v = true := by
  obtain ⟨y, hy, hc⟩ := h
  unfold inP
  simp only [h0, decide_false, Bool.not_false, Bool.true_and, List.any_eq_true, decide_eq_true_eq]
  exact ⟨y, hy, (cmpV_tri.zero v y).1 hc⟩
/-- Distinct ones, each like one of others, are no more than these. -/
theorem distinct_le {X : List Val} : ∀ {Y : List Val}, X.Pairwise (fun x y => cmpV x y < 0) → (∀ x ∈ X, ∃ y ∈ Y, cmpV x y = 0) → X.length ≤ Y.length := by
  induction X with
  | nil => intros; simp
  | cons x X ih =>
    intro Y hp hy
    obtain ⟨y, hyY, hxy⟩ := hy x (by simp)
    obtain ⟨Y1, Y2, rfl⟩ := List.append_of_mem hyY
    rw [List.pairwise_cons] at hp
    have := ih (Y := Y1 ++ Y2) hp.2 fun x' hx' => by
      obtain ⟨y', hy', hc⟩ := hy x' (by simp [hx'])
      refine ⟨y', ?_, hc⟩
      simp only [List.mem_append, List.mem_cons] at hy' ⊢
      rcases hy' with h | h | h
      · exact .inl h
      · exfalso
        subst h
        have h1 := hp.1 x' hx'
        rcases cmpV_tri.ntrans x y' x' h1 with h2 | h2
        · omega
        · have := (cmpV_tri.zero x' y').1 hc
          omega
      · exact .inr h
    simp at this ⊢
    omega
theorem keys_le (R : List (List Val)) (c : Int) (l : List Atom) : (keysP R c l).length ≤ (keysP R c []).length :=
  distinct_le (keys_rise R c l) fun x hx => keys_has (keyF_all (words_mem cmpV_tri hx))
theorem keys_app_le (R R' : List (List Val)) (c : Int) : (keysP (R ++ R') c []).length ≤ (keysP R' c []).length + (keysP R c []).length := by
  rw [← List.length_append]
  refine distinct_le (keys_rise _ c []) fun x hx => ?_
  rcases keyF_app.1 (words_mem cmpV_tri hx) with h | h
  · obtain ⟨y, h1, h2⟩ := keys_has h
    exact ⟨y, by simp [h1], h2⟩
  · obtain ⟨y, h1, h2⟩ := keys_has h
    exact ⟨y, by simp [h1], h2⟩
theorem keys_inL {R R' : List (List Val)} {c : Int} {l : List Atom} {v : Val} (h : v ∈ keysP R c l) : inP (keysP (R ++ R') c []) v = true :=
  inP_of (keys_kind h) (keys_has (keyF_app.2 (.inl (keyF_all (words_mem cmpV_tri h)))))
theorem keys_inR {R R' : List (List Val)} {c : Int} {l : List Atom} {v : Val} (h : v ∈ keysP R' c l) : inP (keysP (R ++ R') c []) v = true :=
  inP_of (keys_kind h) (keys_has (keyF_app.2 (.inr (keyF_all (words_mem cmpV_tri h)))))
theorem keysP_len (R : List (List Val)) (c : Int) (l : List Atom) : (keysP R c l).length ≤ R.length := Nat.le_trans (wordsP_len _ _) (keyF_le R c l)
end Go.Proofs.Ytfmmemboakdeiaa

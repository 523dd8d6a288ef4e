/- sorted.at, sorted.Cols, among.some: what they do. -/
import Derived.Test.YtfmmemboakdeiaaNo
import Derived.Test.YtfmmemboakdeiaaAwJ
import Derived.Test.YtfmmemboakdeiaaAwF
import Derived.Test.YtfmmemboakdeiaaAwG
namespace Go.Proofs.Ytfmmemboakdeiaa
open Go.Proofs.YtfmmemboakdeiaaAw Go.RowKit
set_option linter.unusedVariables false
set_option linter.unusedSimpArgs false
/-! ### Rows -/
def rowD (r : List Val) : List D := [.list false (r.map Val.enc)]
def rowsD (R : List (List Val)) : List (List D) := R.map rowD
theorem rowsD_len (R : List (List Val)) : (rowsD R).length = R.length := by simp [rowsD]
theorem rowsD_get (R : List (List Val)) (k : Nat) (h : k < R.length) : (rowsD R)[k]? = some [.list false (R[k].map Val.enc)] := by simp [rowsD, rowD, h]
theorem rowsD_snoc (R : List (List Val)) (r : List Val) : rowsD R ++ [[.list false (r.map Val.enc)]] = rowsD (R ++ [r]) := by simp [rowsD, rowD]
theorem rowsD_one (R : List (List Val)) : (∀ c ∈ rowsD R, c.length = 1) = True := eq_true fun c hc => by obtain ⟨r, _, rfl⟩ := List.mem_map.1 hc; rfl
def atP (r : List Val) (c : Int) : Val := if c < 0 then ⟨0, 0, noS⟩ else r.getD c.toNat ⟨0, 0, noS⟩
set_option maxRecDepth 10000 in
theorem at_does (r : List Val) (c : Int) (nn : Bool) (hl : r.length ≤ 9223372036854775807) (H : AHeap) : Does Try.prog 56 [.d (.list nn (r.map Val.enc)), iA c] H (.ok (atP r c).av) H := by
  refine Does.of_awpC (hint := fun _ => false) Try.func56 (by kernel_rfl) rfl [.cell 4 26] (by kernel_rfl) (by simp [Try.ntmps56]) ?_
  rw [Try.ntmps56]
  by_cases h1 : c < 0
  · simp (implicitDefEqProofs := false) only [↓reduceIte, go_sem, oread, owrite, Nat.reduceAdd, Nat.reduceSub, Nat.reduceMul, Nat.reduceLT, Nat.reduceLeDiff, Nat.reduceEqDiff, Nat.reduceBEq, Int.reduceLE, Int.reduceLT, Int.reduceEq, Int.reduceNe, Int.reduceAdd, Int.reduceSub, Int.reduceMul, Int.reduceNeg, Int.reduceToNat, Int.reduceNatCast, reduceCtorEq, eq_self, h1]
    refine AEndC.ret ?_
    simp (implicitDefEqProofs := false) only [↓reduceIte, go_sem, oread, owrite, Nat.reduceAdd, Nat.reduceSub, Nat.reduceMul, Nat.reduceLT, Nat.reduceLeDiff, Nat.reduceEqDiff, Nat.reduceBEq, Int.reduceLE, Int.reduceLT, Int.reduceEq, Int.reduceNe, Int.reduceAdd, Int.reduceSub, Int.reduceMul, Int.reduceNeg, Int.reduceToNat, Int.reduceNatCast, reduceCtorEq, eq_self, resAll, resAV]
    simp [atP, h1, noS]
  · obtain ⟨n, rfl⟩ := Int.eq_ofNat_of_zero_le (show 0 ≤ c by omega)
    by_cases h2 : n < r.length
    · have h2' : ((r.length : Int) ≤ (n : Int)) = False := eq_false (by omega)
      have h3 : ((n : Int) < 0) = False := eq_false (by omega)
      have hx := List.getElem?_eq_getElem h2
      have ha : atP r (n : Int) = r[n] := by simp [atP, List.getD, hx]; intro h; omega
      rw [ha]
      generalize r[n] = v at hx
      simp (implicitDefEqProofs := false) only [↓reduceIte, go_sem, oread, owrite, Nat.reduceAdd, Nat.reduceSub, Nat.reduceMul, Nat.reduceLT, Nat.reduceLeDiff, Nat.reduceEqDiff, Nat.reduceBEq, Int.reduceLE, Int.reduceLT, Int.reduceEq, Int.reduceNe, Int.reduceAdd, Int.reduceSub, Int.reduceMul, Int.reduceNeg, Int.reduceToNat, Int.reduceNatCast, reduceCtorEq, eq_self, h3, h2', List.length_map, hx, h2, Val.enc]
      refine AEndC.ret ?_
      simp (implicitDefEqProofs := false) only [↓reduceIte, go_sem, oread, owrite, Nat.reduceAdd, Nat.reduceSub, Nat.reduceMul, Nat.reduceLT, Nat.reduceLeDiff, Nat.reduceEqDiff, Nat.reduceBEq, Int.reduceLE, Int.reduceLT, Int.reduceEq, Int.reduceNe, Int.reduceAdd, Int.reduceSub, Int.reduceMul, Int.reduceNeg, Int.reduceToNat, Int.reduceNatCast, reduceCtorEq, eq_self, resAll, resAV]
    · have h2' : ((r.length : Int) ≤ (n : Int)) = True := eq_true (by omega)
      have h3 : ((n : Int) < 0) = False := eq_false (by omega)
      simp (implicitDefEqProofs := false) only [↓reduceIte, go_sem, oread, owrite, Nat.reduceAdd, Nat.reduceSub, Nat.reduceMul, Nat.reduceLT, Nat.reduceLeDiff, Nat.reduceEqDiff, Nat.reduceBEq, Int.reduceLE, Int.reduceLT, Int.reduceEq, Int.reduceNe, Int.reduceAdd, Int.reduceSub, Int.reduceMul, Int.reduceNeg, Int.reduceToNat, Int.reduceNatCast, reduceCtorEq, eq_self, h3, h2', List.length_map]
      refine AEndC.ret ?_
      simp (implicitDefEqProofs := false) only [↓reduceIte, go_sem, oread, owrite, Nat.reduceAdd, Nat.reduceSub, Nat.reduceMul, Nat.reduceLT, Nat.reduceLeDiff, Nat.reduceEqDiff, Nat.reduceBEq, Int.reduceLE, Int.reduceLT, Int.reduceEq, Int.reduceNe, Int.reduceAdd, Int.reduceSub, Int.reduceMul, Int.reduceNeg, Int.reduceToNat, Int.reduceNatCast, reduceCtorEq, eq_self, resAll, resAV]
      have : r[n]? = none := List.getElem?_eq_none (by omega)
      simp [atP, this, noS]
def colsP (R : List (List Val)) (cs : List Int) : List (List Val) := R.map fun r => cs.map (atP r)
theorem take_len2 {α : Type} (l : List α) (n : Nat) (h : l.length = n) : l.take n = l := List.take_of_length_le (by omega)
set_option maxRecDepth 10000 in
set_option maxHeartbeats 1000000 in
theorem cols_does (R : List (List Val)) (cs : List Int) (n1 n2 : Bool) (hR : R.length ≤ 1000000000000) (hr : ∀ r ∈ R, r.length ≤ 1000000000000) (hc : cs.length ≤ 1000000000) (H : AHeap) :
    Does Try.prog 45 [.d (.list n1 (rowsD R)), .d (.list n2 (ints cs))] H (.ok (.d (.list false (rowsD (colsP R cs))))) H := by
  refine Does.of_awp (hint := (fun t => t == 1000011)) Try.func45 (by kernel_rfl) rfl [4] (by kernel_rfl) (by decide) (by simp [Try.ntmps45]) ?_
  rw [Try.ntmps45]
  simp (implicitDefEqProofs := false) only [↓reduceIte, go_sem, oread, owrite, Nat.reduceAdd, Nat.reduceSub, Nat.reduceMul, Nat.reduceLT, Nat.reduceLeDiff, Nat.reduceEqDiff, Nat.reduceBEq, Int.reduceLE, Int.reduceLT, Int.reduceEq, Int.reduceNe, Int.reduceAdd, Int.reduceSub, Int.reduceMul, Int.reduceNeg, Int.reduceToNat, Int.reduceNatCast, reduceCtorEq, eq_self, rowsD_len]
  refine awp_for (fun k s H' => H' = H ++ [.arr 28 1 k (rowsD (colsP (R.take k) cs))] ∧ s 1 = .d (.list n2 (ints cs)) ∧ s 5 = .sl H.length k 0 k ∧ s 11 = .d (.list n1 (rowsD R)) ∧ s 12 = iA R.length ∧ s 13 = iA k) R.length (by omega) (Weak.virt1 _ _ 5 28 1 (by decide) (by simp (implicitDefEqProofs := false) only [↓reduceIte, go_sem, oread, owrite, Nat.reduceAdd, Nat.reduceSub, Nat.reduceMul, Nat.reduceLT, Nat.reduceLeDiff, Nat.reduceEqDiff, Nat.reduceBEq, Int.reduceLE, Int.reduceLT, Int.reduceEq, Int.reduceNe, Int.reduceAdd, Int.reduceSub, Int.reduceMul, Int.reduceNeg, Int.reduceToNat, Int.reduceNatCast, reduceCtorEq, eq_self]) _) ?_ ?_ ?_
  · refine ⟨rfl, ?_⟩
    simp (implicitDefEqProofs := false) only [↓reduceIte, go_sem, oread, owrite, Nat.reduceAdd, Nat.reduceSub, Nat.reduceMul, Nat.reduceLT, Nat.reduceLeDiff, Nat.reduceEqDiff, Nat.reduceBEq, Int.reduceLE, Int.reduceLT, Int.reduceEq, Int.reduceNe, Int.reduceAdd, Int.reduceSub, Int.reduceMul, Int.reduceNeg, Int.reduceToNat, Int.reduceNatCast, reduceCtorEq, eq_self]
  · rintro k s H' hk hw ⟨rfl, t1, t5, t11, t12, t13⟩
    have hx := rowsD_get R k hk
    have e1 : colsP (R.take (k + 1)) cs = colsP (R.take k) cs ++ [cs.map (atP R[k])] := by unfold colsP; rw [List.take_succ_eq_append_getElem hk, List.map_append]; rfl
    have hrl := hr _ (List.getElem_mem hk)
    have el : (colsP (R.take k) cs).length = k := by simp [colsP]; omega
    rw [e1]
    generalize colsP (R.take k) cs = O at *
    generalize R[k] = r at hx hrl
    simp (implicitDefEqProofs := false) only [↓reduceIte, go_sem, oread, owrite, Nat.reduceAdd, Nat.reduceSub, Nat.reduceMul, Nat.reduceLT, Nat.reduceLeDiff, Nat.reduceEqDiff, Nat.reduceBEq, Int.reduceLE, Int.reduceLT, Int.reduceEq, Int.reduceNe, Int.reduceAdd, Int.reduceSub, Int.reduceMul, Int.reduceNeg, Int.reduceToNat, Int.reduceNatCast, reduceCtorEq, eq_self, t1, t5, t11, t12, t13, hk, rowsD_len, hx, ints_len]
    refine awp_for (fun j s H' => H' = H ++ [.arr 28 1 k (rowsD O), .arr 26 3 j (((cs.take j).map (atP r)).map Val.enc)] ∧ s 1 = .d (.list n2 (ints cs)) ∧ s 5 = .sl H.length k 0 k ∧ s 7 = .d (.list false (r.map Val.enc)) ∧ s 8 = .sl (H.length + 1) j 0 j ∧ s 11 = .d (.list n1 (rowsD R)) ∧ s 12 = iA R.length ∧ s 13 = iA k ∧ s 17 = .d (.list n2 (ints cs)) ∧ s 18 = iA cs.length ∧ s 19 = iA j) cs.length (by omega) (Weak.virt1 _ _ 8 26 3 (by decide) (by simp (implicitDefEqProofs := false) only [↓reduceIte, go_sem, oread, owrite, Nat.reduceAdd, Nat.reduceSub, Nat.reduceMul, Nat.reduceLT, Nat.reduceLeDiff, Nat.reduceEqDiff, Nat.reduceBEq, Int.reduceLE, Int.reduceLT, Int.reduceEq, Int.reduceNe, Int.reduceAdd, Int.reduceSub, Int.reduceMul, Int.reduceNeg, Int.reduceToNat, Int.reduceNatCast, reduceCtorEq, eq_self]) _) ?_ ?_ ?_
    · refine ⟨by simp, ?_⟩
      simp (implicitDefEqProofs := false) only [↓reduceIte, go_sem, oread, owrite, Nat.reduceAdd, Nat.reduceSub, Nat.reduceMul, Nat.reduceLT, Nat.reduceLeDiff, Nat.reduceEqDiff, Nat.reduceBEq, Int.reduceLE, Int.reduceLT, Int.reduceEq, Int.reduceNe, Int.reduceAdd, Int.reduceSub, Int.reduceMul, Int.reduceNeg, Int.reduceToNat, Int.reduceNatCast, reduceCtorEq, eq_self, t1, t5, t11, t12, t13]
    · rintro j s H' hj hw2 ⟨rfl, t1, t5, t7, t8, t11, t12, t13, t17, t18, t19⟩
      have hy := ints_get cs j hj
      have e2 : (cs.take (j + 1)).map (atP r) = (cs.take j).map (atP r) ++ [atP r cs[j]] := by rw [List.take_succ_eq_append_getElem hj, List.map_append]; rfl
      have ej : ((cs.take j).map (atP r)).length = j := by simp; omega
      rw [e2]
      generalize cs[j] = c at hy
      generalize (cs.take j).map (atP r) = X at *
      simp (implicitDefEqProofs := false) only [↓reduceIte, go_sem, oread, owrite, Nat.reduceAdd, Nat.reduceSub, Nat.reduceMul, Nat.reduceLT, Nat.reduceLeDiff, Nat.reduceEqDiff, Nat.reduceBEq, Int.reduceLE, Int.reduceLT, Int.reduceEq, Int.reduceNe, Int.reduceAdd, Int.reduceSub, Int.reduceMul, Int.reduceNeg, Int.reduceToNat, Int.reduceNatCast, reduceCtorEq, eq_self, t7, t8, t17, t18, t19, hj, ints_len, hy]
      refine KCall.ok (at_does r c false (by omega) _) ?_
      generalize atP r c = v
      have q : X.map Val.enc ++ [v.enc] = (X ++ [v]).map Val.enc := by simp
      simp only [Val.enc] at q
      simp (implicitDefEqProofs := false) only [↓reduceIte, go_sem, oread, owrite, Nat.reduceAdd, Nat.reduceSub, Nat.reduceMul, Nat.reduceLT, Nat.reduceLeDiff, Nat.reduceEqDiff, Nat.reduceBEq, Int.reduceLE, Int.reduceLT, Int.reduceEq, Int.reduceNe, Int.reduceAdd, Int.reduceSub, Int.reduceMul, Int.reduceNeg, Int.reduceToNat, Int.reduceNatCast, reduceCtorEq, eq_self, t8, List.length_map, ej, q]
      refine ⟨by omega, by omega, ?_⟩
      simp (implicitDefEqProofs := false) only [↓reduceIte, go_sem, oread, owrite, Nat.reduceAdd, Nat.reduceSub, Nat.reduceMul, Nat.reduceLT, Nat.reduceLeDiff, Nat.reduceEqDiff, Nat.reduceBEq, Int.reduceLE, Int.reduceLT, Int.reduceEq, Int.reduceNe, Int.reduceAdd, Int.reduceSub, Int.reduceMul, Int.reduceNeg, Int.reduceToNat, Int.reduceNatCast, reduceCtorEq, eq_self, t19]
      refine Rnd.same ⟨rfl, ?_⟩
      simp (implicitDefEqProofs := false) only [↓reduceIte, go_sem, oread, owrite, Nat.reduceAdd, Nat.reduceSub, Nat.reduceMul, Nat.reduceLT, Nat.reduceLeDiff, Nat.reduceEqDiff, Nat.reduceBEq, Int.reduceLE, Int.reduceLT, Int.reduceEq, Int.reduceNe, Int.reduceAdd, Int.reduceSub, Int.reduceMul, Int.reduceNeg, Int.reduceToNat, Int.reduceNatCast, reduceCtorEq, eq_self, t1, t5, t7, t11, t12, t13, t17, t18, hw2]
    · rintro s H' ⟨rfl, t1, t5, t7, t8, t11, t12, t13, t17, t18, t19⟩
      rw [show cs.take cs.length = cs from List.take_length]
      simp (implicitDefEqProofs := false) only [↓reduceIte, go_sem, oread, owrite, Nat.reduceAdd, Nat.reduceSub, Nat.reduceMul, Nat.reduceLT, Nat.reduceLeDiff, Nat.reduceEqDiff, Nat.reduceBEq, Int.reduceLE, Int.reduceLT, Int.reduceEq, Int.reduceNe, Int.reduceAdd, Int.reduceSub, Int.reduceMul, Int.reduceNeg, Int.reduceToNat, Int.reduceNatCast, reduceCtorEq, eq_self, t18, t19]
      refine ⟨_, _, Weak.cut [.arr 28 1 k (rowsD O)] [.arr 26 3 cs.length ((cs.map (atP r)).map Val.enc)] 1 rfl _ (by rfl), ?_⟩
      have hlt : H.length < H.length + 1 := Nat.lt_succ_self _
      have hge : ¬ H.length + 1 < H.length + 1 := Nat.lt_irrefl _
      have q3 : ((cs.map (atP r)).map Val.enc).take cs.length = (cs.map (atP r)).map Val.enc := take_len2 _ _ (by simp)
      have q4 := rowsD_snoc O (cs.map (atP r))
      simp (implicitDefEqProofs := false) only [↓reduceIte, go_sem, oread, owrite, Nat.reduceAdd, Nat.reduceSub, Nat.reduceMul, Nat.reduceLT, Nat.reduceLeDiff, Nat.reduceEqDiff, Nat.reduceBEq, Int.reduceLE, Int.reduceLT, Int.reduceEq, Int.reduceNe, Int.reduceAdd, Int.reduceSub, Int.reduceMul, Int.reduceNeg, Int.reduceToNat, Int.reduceNatCast, reduceCtorEq, eq_self, t5, t8, t13, rowsD_len, el, q3, q4]
      refine ⟨by omega, by omega, Rnd.same ⟨rfl, ?_⟩⟩
      simp (implicitDefEqProofs := false) only [↓reduceIte, go_sem, oread, owrite, Nat.reduceAdd, Nat.reduceSub, Nat.reduceMul, Nat.reduceLT, Nat.reduceLeDiff, Nat.reduceEqDiff, Nat.reduceBEq, Int.reduceLE, Int.reduceLT, Int.reduceEq, Int.reduceNe, Int.reduceAdd, Int.reduceSub, Int.reduceMul, Int.reduceNeg, Int.reduceToNat, Int.reduceNatCast, reduceCtorEq, eq_self, t1, t5, t11, t12, t13, hw]
  · rintro s H' ⟨rfl, t1, t5, t11, t12, t13⟩
    rw [show R.take R.length = R from List.take_length]
    simp (implicitDefEqProofs := false) only [↓reduceIte, go_sem, oread, owrite, Nat.reduceAdd, Nat.reduceSub, Nat.reduceMul, Nat.reduceLT, Nat.reduceLeDiff, Nat.reduceEqDiff, Nat.reduceBEq, Int.reduceLE, Int.reduceLT, Int.reduceEq, Int.reduceNe, Int.reduceAdd, Int.reduceSub, Int.reduceMul, Int.reduceNeg, Int.reduceToNat, Int.reduceNatCast, reduceCtorEq, eq_self, t5, t12, t13]
    refine AEnd.ret ?_
    simp (implicitDefEqProofs := false) only [↓reduceIte, go_sem, oread, owrite, Nat.reduceAdd, Nat.reduceSub, Nat.reduceMul, Nat.reduceLT, Nat.reduceLeDiff, Nat.reduceEqDiff, Nat.reduceBEq, Int.reduceLE, Int.reduceLT, Int.reduceEq, Int.reduceNe, Int.reduceAdd, Int.reduceSub, Int.reduceMul, Int.reduceNeg, Int.reduceToNat, Int.reduceNatCast, reduceCtorEq, eq_self, take_len2 (rowsD (colsP R cs)) R.length (by simp [rowsD, colsP])]
def someP (R : List (List Val)) (c : Int) : List Val := R.map fun r => atP r c
set_option maxRecDepth 10000 in
set_option maxHeartbeats 1000000 in
theorem some_does (R : List (List Val)) (c : Int) (n1 : Bool) (hR : R.length ≤ 1000000000000) (hr : ∀ r ∈ R, r.length ≤ 1000000000000) (H : AHeap) :
    Does Try.prog 24 [.d (.list n1 (rowsD R)), iA c] H (.ok (.d (.list false ((someP R c).map Val.enc)))) H := by
  refine Does.of_awp (hint := (fun _ => false)) Try.func24 (by kernel_rfl) rfl [4] (by kernel_rfl) (by decide) (by simp [Try.ntmps24]) ?_
  rw [Try.ntmps24]
  simp (implicitDefEqProofs := false) only [↓reduceIte, go_sem, oread, owrite, Nat.reduceAdd, Nat.reduceSub, Nat.reduceMul, Nat.reduceLT, Nat.reduceLeDiff, Nat.reduceEqDiff, Nat.reduceBEq, Int.reduceLE, Int.reduceLT, Int.reduceEq, Int.reduceNe, Int.reduceAdd, Int.reduceSub, Int.reduceMul, Int.reduceNeg, Int.reduceToNat, Int.reduceNatCast, reduceCtorEq, eq_self]
  refine KCall.ok (cols_does R [c] n1 true hR hr (by simp) H) ?_
  have hl : (colsP R [c]).length = R.length := by simp [colsP]
  simp (implicitDefEqProofs := false) only [↓reduceIte, go_sem, oread, owrite, Nat.reduceAdd, Nat.reduceSub, Nat.reduceMul, Nat.reduceLT, Nat.reduceLeDiff, Nat.reduceEqDiff, Nat.reduceBEq, Int.reduceLE, Int.reduceLT, Int.reduceEq, Int.reduceNe, Int.reduceAdd, Int.reduceSub, Int.reduceMul, Int.reduceNeg, Int.reduceToNat, Int.reduceNatCast, reduceCtorEq, eq_self, rowsD_len, hl]
  refine awp_for (fun k s H' => H' = H ++ [.arr 26 3 k (((someP (R.take k) c)).map Val.enc)] ∧ s 5 = .sl H.length k 0 k ∧ s 11 = .d (.list false (rowsD (colsP R [c]))) ∧ s 12 = iA R.length ∧ s 13 = iA k) R.length (by omega) (Weak.virt1 _ _ 5 26 3 (by decide) (by simp (implicitDefEqProofs := false) only [↓reduceIte, go_sem, oread, owrite, Nat.reduceAdd, Nat.reduceSub, Nat.reduceMul, Nat.reduceLT, Nat.reduceLeDiff, Nat.reduceEqDiff, Nat.reduceBEq, Int.reduceLE, Int.reduceLT, Int.reduceEq, Int.reduceNe, Int.reduceAdd, Int.reduceSub, Int.reduceMul, Int.reduceNeg, Int.reduceToNat, Int.reduceNatCast, reduceCtorEq, eq_self]) _) ?_ ?_ ?_
  · refine ⟨rfl, ?_⟩
    simp (implicitDefEqProofs := false) only [↓reduceIte, go_sem, oread, owrite, Nat.reduceAdd, Nat.reduceSub, Nat.reduceMul, Nat.reduceLT, Nat.reduceLeDiff, Nat.reduceEqDiff, Nat.reduceBEq, Int.reduceLE, Int.reduceLT, Int.reduceEq, Int.reduceNe, Int.reduceAdd, Int.reduceSub, Int.reduceMul, Int.reduceNeg, Int.reduceToNat, Int.reduceNatCast, reduceCtorEq, eq_self]
  · rintro k s H' hk hw ⟨rfl, t5, t11, t12, t13⟩
    have hx : (rowsD (colsP R [c]))[k]? = some [.list false ([(atP R[k] c)].map Val.enc)] := by
      rw [rowsD_get _ _ (by omega)]; simp [colsP]
    have e1 : someP (R.take (k + 1)) c = someP (R.take k) c ++ [atP R[k] c] := by unfold someP; rw [List.take_succ_eq_append_getElem hk, List.map_append]; rfl
    have el : (someP (R.take k) c).length = k := by simp [someP]; omega
    rw [e1]
    generalize someP (R.take k) c = O at *
    generalize atP R[k] c = v at hx
    have q : O.map Val.enc ++ [v.enc] = (O ++ [v]).map Val.enc := by simp
    simp only [Val.enc, List.map_cons, List.map_nil] at q hx
    have hlt : k < (rowsD (colsP R [c])).length := by rw [rowsD_len]; omega
    simp (implicitDefEqProofs := false) only [↓reduceIte, go_sem, oread, owrite, Nat.reduceAdd, Nat.reduceSub, Nat.reduceMul, Nat.reduceLT, Nat.reduceLeDiff, Nat.reduceEqDiff, Nat.reduceBEq, Int.reduceLE, Int.reduceLT, Int.reduceEq, Int.reduceNe, Int.reduceAdd, Int.reduceSub, Int.reduceMul, Int.reduceNeg, Int.reduceToNat, Int.reduceNatCast, reduceCtorEq, eq_self, t5, t11, t12, t13, hk, hlt, rowsD_len, hl, hx, List.length_map, el, q]
    refine ⟨by omega, by omega, Rnd.same ⟨rfl, ?_⟩⟩
    simp (implicitDefEqProofs := false) only [↓reduceIte, go_sem, oread, owrite, Nat.reduceAdd, Nat.reduceSub, Nat.reduceMul, Nat.reduceLT, Nat.reduceLeDiff, Nat.reduceEqDiff, Nat.reduceBEq, Int.reduceLE, Int.reduceLT, Int.reduceEq, Int.reduceNe, Int.reduceAdd, Int.reduceSub, Int.reduceMul, Int.reduceNeg, Int.reduceToNat, Int.reduceNatCast, reduceCtorEq, eq_self, t11, t12, hw]
  · rintro s H' ⟨rfl, t5, t11, t12, t13⟩
    rw [show R.take R.length = R from List.take_length]
    simp (implicitDefEqProofs := false) only [↓reduceIte, go_sem, oread, owrite, Nat.reduceAdd, Nat.reduceSub, Nat.reduceMul, Nat.reduceLT, Nat.reduceLeDiff, Nat.reduceEqDiff, Nat.reduceBEq, Int.reduceLE, Int.reduceLT, Int.reduceEq, Int.reduceNe, Int.reduceAdd, Int.reduceSub, Int.reduceMul, Int.reduceNeg, Int.reduceToNat, Int.reduceNatCast, reduceCtorEq, eq_self, t5, t12, t13]
    refine AEnd.ret ?_
    simp (implicitDefEqProofs := false) only [↓reduceIte, go_sem, oread, owrite, Nat.reduceAdd, Nat.reduceSub, Nat.reduceMul, Nat.reduceLT, Nat.reduceLeDiff, Nat.reduceEqDiff, Nat.reduceBEq, Int.reduceLE, Int.reduceLT, Int.reduceEq, Int.reduceNe, Int.reduceAdd, Int.reduceSub, Int.reduceMul, Int.reduceNeg, Int.reduceToNat, Int.reduceNatCast, reduceCtorEq, eq_self, take_len2 ((someP R c).map Val.enc) R.length (by simp [someP])]
end Go.Proofs.Ytfmmemboakdeiaa

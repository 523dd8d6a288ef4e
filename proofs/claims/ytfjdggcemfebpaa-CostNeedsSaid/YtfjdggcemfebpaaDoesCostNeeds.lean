/- The law CostNeeds: what it does. -/
import Derived.Test.YtfjdggcemfebpaaShow21
import Derived.Test.YtfjdggcemfebpaaOrd
import Derived.Test.YtfjdggcemfebpaaSame
import Derived.Test.YtfjdggcemfebpaaArg
namespace Go.Proofs.Ytfjdggcemfebpaa
open Go.Proofs.YtfjdggcemfebpaaAw Go.RowKit
set_option linter.unusedVariables false
set_option linter.unusedSimpArgs false
/-! ### What is needed -/
theorem tell_mem (o : List Int) (c x : Int) : x ∈ tell o c ↔ x ∈ o ∨ x = c := by
  unfold tell
  split
  · exact ⟨.inl, fun h => by rcases h with h | rfl; exact h; assumption⟩
  · simp
theorem tell_nodup (o : List Int) (c : Int) (h : o.Nodup) : (tell o c).Nodup := by
  unfold tell
  split
  · exact h
  · rename_i hc
    rw [List.nodup_append]
    refine ⟨h, by simp, fun a ha b hb => ?_⟩
    simp at hb
    subst hb
    exact fun e => hc (e ▸ ha)
theorem tellA_nodup (o : List Int) (a : Int × Int) (h : o.Nodup) : (tellA o a).Nodup := by unfold tellA; split; exact h; exact tell_nodup _ _ h
theorem tellA_sub (o : List Int) (a : Int × Int) (x : Int) (h : x ∈ o) : x ∈ tellA o a := by unfold tellA; split; exact h; exact (tell_mem _ _ _).2 (.inl h)
theorem foldl_keep {α : Type} (f : List Int → α → List Int) (p : List Int → Prop) (hf : ∀ o x, p o → p (f o x)) : ∀ (l : List α) (o : List Int), p o → p (l.foldl f o)
  | [], o, h => h
  | x :: l, o, h => foldl_keep f p hf l (f o x) (hf o x h)
theorem needS_nodup (cols : List Int) (aggs : List (Int × Int)) (joins : List (Int × D × D × D)) : (needS cols aggs joins).Nodup :=
  foldl_keep tellJ _ (fun o x => tell_nodup o _) joins _ (foldl_keep tellA _ tellA_nodup aggs _ (foldl_keep tell _ tell_nodup cols _ List.nodup_nil))
theorem foldl_tell_mem : ∀ (l : List Int) (o : List Int) (x : Int), x ∈ l.foldl tell o ↔ x ∈ o ∨ x ∈ l
  | [], o, x => by simp
  | c :: l, o, x => by rw [List.foldl_cons, foldl_tell_mem l, tell_mem]; simp [or_assoc]
theorem foldl_tellJ_mem : ∀ (l : List (Int × D × D × D)) (o : List Int) (x : Int), x ∈ l.foldl tellJ o ↔ x ∈ o ∨ x ∈ l.map (·.1)
  | [], o, x => by simp
  | c :: l, o, x => by rw [List.foldl_cons, foldl_tellJ_mem l, tellJ, tell_mem]; simp [or_assoc]
theorem needS_mem (cols : List Int) (aggs : List (Int × Int)) (joins : List (Int × D × D × D)) (x : Int) (h : x ∈ cols ++ joins.map (·.1)) : x ∈ needS cols aggs joins := by
  unfold needS
  rw [foldl_tellJ_mem]
  rcases List.mem_append.1 h with h | h
  · exact .inl (foldl_keep tellA (x ∈ ·) (fun o a => tellA_sub o a x) aggs _ ((foldl_tell_mem cols [] x).2 (.inr h)))
  · exact .inr h
theorem needS_le (cols : List Int) (aggs : List (Int × Int)) (joins : List (Int × D × D × D)) : (needS cols aggs joins).length ≤ cols.length + aggs.length + joins.length := by
  have h1 := foldl_le tell tell_le cols []
  have h2 := foldl_le tellA tellA_le aggs (cols.foldl tell [])
  have h3 := foldl_le tellJ (fun o j => tell_le o _) joins (aggs.foldl tellA (cols.foldl tell []))
  unfold needS
  simp at h1
  omega
def iota (n : Nat) : List Int := (List.range n).map fun (i : Nat) => (i : Int)
theorem iota_len (n : Nat) : (iota n).length = n := by simp [iota]
theorem iota_snoc (n : Nat) : iota (n + 1) = iota n ++ [(n : Int)] := by simp [iota, List.range_succ]
theorem orderS_iota (l : List Atom) : orderS l (iota l.length) = l := by
  have : ∀ k, k ≤ l.length → orderS l (iota k) = l.take k := by
    intro k
    induction k with
    | zero => intro _; simp [orderS, iota]
    | succ k ih =>
      intro hk
      rw [iota_snoc]
      unfold orderS at ih ⊢
      rw [List.filterMap_append, ih (by omega), List.take_succ_eq_append_getElem (show k < l.length by omega)]
      simp [show k < l.length by omega]
  rw [this _ (Nat.le_refl _), List.take_length]
theorem ints_all (l : List Int) : (∀ c ∈ ints l, c.length = 1) = True := eq_true fun c hc => by obtain ⟨x, _, rfl⟩ := List.mem_map.1 hc; rfl
set_option maxRecDepth 10000 in
set_option maxHeartbeats 1000000 in
theorem small21_does (l1 l2 l3 l5 : List (List D)) (x0 x4 x6 x7 : D) (n1 n2 n3 n5 : Bool) (H : AHeap) : Does Try.prog 16 [.agg [.d x0, .d (.list n1 l1), .d (.list n2 l2), .d (.list n3 l3), .d x4, .d (.list n5 l5), .d x6, .d x7]] H
    (.ok (bA (decide (l1.length ≤ 10 ∧ l2.length ≤ 10 ∧ l3.length ≤ 10 ∧ l5.length ≤ 10)))) H := by
  have c1 : ∀ n : Nat, ((n : Int) ≤ 10) = (n ≤ 10) := fun n => by simp; omega
  refine Does.of_awp (hint := (fun _ => false)) Try.func16 (by kernel_rfl) rfl [2] (by kernel_rfl) (by decide) (by simp [Try.ntmps16]) ?_
  rw [Try.ntmps16]
  by_cases h1 : l1.length ≤ 10
  · by_cases h2 : l2.length ≤ 10
    · by_cases h3 : l3.length ≤ 10
      · by_cases h5 : l5.length ≤ 10 <;> (simp (implicitDefEqProofs := false) only [↓reduceIte, go_sem, oread, owrite, Nat.reduceAdd, Nat.reduceSub, Nat.reduceMul, Nat.reduceLT, Nat.reduceLeDiff, Nat.reduceEqDiff, Nat.reduceBEq, Int.reduceLE, Int.reduceLT, Int.reduceEq, Int.reduceNe, Int.reduceAdd, Int.reduceSub, Int.reduceMul, Int.reduceNeg, Int.reduceToNat, Int.reduceNatCast, reduceCtorEq, eq_self, c1, h1, h2, h3, h5]; refine AEnd.ret ?_; simp (implicitDefEqProofs := false) only [↓reduceIte, go_sem, oread, owrite, Nat.reduceAdd, Nat.reduceSub, Nat.reduceMul, Nat.reduceLT, Nat.reduceLeDiff, Nat.reduceEqDiff, Nat.reduceBEq, Int.reduceLE, Int.reduceLT, Int.reduceEq, Int.reduceNe, Int.reduceAdd, Int.reduceSub, Int.reduceMul, Int.reduceNeg, Int.reduceToNat, Int.reduceNatCast, reduceCtorEq, eq_self, h1, h2, h3, h5, and_self, and_false])
      · simp (implicitDefEqProofs := false) only [↓reduceIte, go_sem, oread, owrite, Nat.reduceAdd, Nat.reduceSub, Nat.reduceMul, Nat.reduceLT, Nat.reduceLeDiff, Nat.reduceEqDiff, Nat.reduceBEq, Int.reduceLE, Int.reduceLT, Int.reduceEq, Int.reduceNe, Int.reduceAdd, Int.reduceSub, Int.reduceMul, Int.reduceNeg, Int.reduceToNat, Int.reduceNatCast, reduceCtorEq, eq_self, c1, h1, h2, h3]; refine AEnd.ret ?_; simp (implicitDefEqProofs := false) only [↓reduceIte, go_sem, oread, owrite, Nat.reduceAdd, Nat.reduceSub, Nat.reduceMul, Nat.reduceLT, Nat.reduceLeDiff, Nat.reduceEqDiff, Nat.reduceBEq, Int.reduceLE, Int.reduceLT, Int.reduceEq, Int.reduceNe, Int.reduceAdd, Int.reduceSub, Int.reduceMul, Int.reduceNeg, Int.reduceToNat, Int.reduceNatCast, reduceCtorEq, eq_self, h1, h2, h3, and_self, and_false, false_and]
    · simp (implicitDefEqProofs := false) only [↓reduceIte, go_sem, oread, owrite, Nat.reduceAdd, Nat.reduceSub, Nat.reduceMul, Nat.reduceLT, Nat.reduceLeDiff, Nat.reduceEqDiff, Nat.reduceBEq, Int.reduceLE, Int.reduceLT, Int.reduceEq, Int.reduceNe, Int.reduceAdd, Int.reduceSub, Int.reduceMul, Int.reduceNeg, Int.reduceToNat, Int.reduceNatCast, reduceCtorEq, eq_self, c1, h1, h2]; refine AEnd.ret ?_; simp (implicitDefEqProofs := false) only [↓reduceIte, go_sem, oread, owrite, Nat.reduceAdd, Nat.reduceSub, Nat.reduceMul, Nat.reduceLT, Nat.reduceLeDiff, Nat.reduceEqDiff, Nat.reduceBEq, Int.reduceLE, Int.reduceLT, Int.reduceEq, Int.reduceNe, Int.reduceAdd, Int.reduceSub, Int.reduceMul, Int.reduceNeg, Int.reduceToNat, Int.reduceNatCast, reduceCtorEq, eq_self, h1, h2, and_self, and_false, false_and]
  · simp (implicitDefEqProofs := false) only [↓reduceIte, go_sem, oread, owrite, Nat.reduceAdd, Nat.reduceSub, Nat.reduceMul, Nat.reduceLT, Nat.reduceLeDiff, Nat.reduceEqDiff, Nat.reduceBEq, Int.reduceLE, Int.reduceLT, Int.reduceEq, Int.reduceNe, Int.reduceAdd, Int.reduceSub, Int.reduceMul, Int.reduceNeg, Int.reduceToNat, Int.reduceNatCast, reduceCtorEq, eq_self, c1, h1]; refine AEnd.ret ?_; simp (implicitDefEqProofs := false) only [↓reduceIte, go_sem, oread, owrite, Nat.reduceAdd, Nat.reduceSub, Nat.reduceMul, Nat.reduceLT, Nat.reduceLeDiff, Nat.reduceEqDiff, Nat.reduceBEq, Int.reduceLE, Int.reduceLT, Int.reduceEq, Int.reduceNe, Int.reduceAdd, Int.reduceSub, Int.reduceMul, Int.reduceNeg, Int.reduceToNat, Int.reduceNatCast, reduceCtorEq, eq_self, h1, and_self, and_false, false_and]
set_option maxRecDepth 10000 in
set_option maxHeartbeats 2000000 in
theorem costNeeds_walk (pred : List Atom) (joins : List (Int × D × D × D)) (cols : List Int) (aggs : List (Int × Int)) (x0 x4 x6 x7 : D) (H : AHeap) :
    Does Try.prog 6 [.agg [.d x0, .d (.list false (pred.map Atom.enc)), .d (.list false (joins.map encJ)), .d (.list false (ints cols)), .d x4, .d (.list false (aggs.map encA)), .d x6, .d x7]] H (.ok (bA true)) H := by
  refine Does.of_awp (hint := (fun _ => false)) Try.func6 (by kernel_rfl) rfl [2] (by kernel_rfl) (by decide) (by simp [Try.ntmps6]) ?_
  rw [Try.ntmps6]
  simp (implicitDefEqProofs := false) only [↓reduceIte, go_sem, oread, owrite, Nat.reduceAdd, Nat.reduceSub, Nat.reduceMul, Nat.reduceLT, Nat.reduceLeDiff, Nat.reduceEqDiff, Nat.reduceBEq, Int.reduceLE, Int.reduceLT, Int.reduceEq, Int.reduceNe, Int.reduceAdd, Int.reduceSub, Int.reduceMul, Int.reduceNeg, Int.reduceToNat, Int.reduceNatCast, reduceCtorEq, eq_self]
  obtain ⟨q, hq⟩ : ∃ q, q = AObj.box 37 8 0 1 [.d x0, .d (.list false (pred.map Atom.enc)), .d (.list false (joins.map encJ)), .d (.list false (ints cols)), .d x4, .d (.list false (aggs.map encA)), .d x6, .d x7] := ⟨_, rfl⟩
  have hb : ∀ m, q.below m = true := by intro m; subst hq; simp (implicitDefEqProofs := false) only [↓reduceIte, go_sem, oread, owrite, Nat.reduceAdd, Nat.reduceSub, Nat.reduceMul, Nat.reduceLT, Nat.reduceLeDiff, Nat.reduceEqDiff, Nat.reduceBEq, Int.reduceLE, Int.reduceLT, Int.reduceEq, Int.reduceNe, Int.reduceAdd, Int.reduceSub, Int.reduceMul, Int.reduceNeg, Int.reduceToNat, Int.reduceNatCast, reduceCtorEq, eq_self]
  refine KCall.ok (shown21_does _) ?_
  simp (implicitDefEqProofs := false) only [↓reduceIte, go_sem, oread, owrite, Nat.reduceAdd, Nat.reduceSub, Nat.reduceMul, Nat.reduceLT, Nat.reduceLeDiff, Nat.reduceEqDiff, Nat.reduceBEq, Int.reduceLE, Int.reduceLT, Int.reduceEq, Int.reduceNe, Int.reduceAdd, Int.reduceSub, Int.reduceMul, Int.reduceNeg, Int.reduceToNat, Int.reduceNatCast, reduceCtorEq, eq_self]
  refine KCall.ok (small21_does _ _ _ _ _ _ _ _ _ _ _ _ _) ?_
  simp (implicitDefEqProofs := false) only [↓reduceIte, go_sem, oread, owrite, Nat.reduceAdd, Nat.reduceSub, Nat.reduceMul, Nat.reduceLT, Nat.reduceLeDiff, Nat.reduceEqDiff, Nat.reduceBEq, Int.reduceLE, Int.reduceLT, Int.reduceEq, Int.reduceNe, Int.reduceAdd, Int.reduceSub, Int.reduceMul, Int.reduceNeg, Int.reduceToNat, Int.reduceNatCast, reduceCtorEq, eq_self, ints_len]
  by_cases hs : ¬ (pred.length ≤ 10 ∧ joins.length ≤ 10 ∧ cols.length ≤ 10 ∧ aggs.length ≤ 10)
  · refine awp_T (by simp (implicitDefEqProofs := false) only [↓reduceIte, go_sem, oread, owrite, Nat.reduceAdd, Nat.reduceSub, Nat.reduceMul, Nat.reduceLT, Nat.reduceLeDiff, Nat.reduceEqDiff, Nat.reduceBEq, Int.reduceLE, Int.reduceLT, Int.reduceEq, Int.reduceNe, Int.reduceAdd, Int.reduceSub, Int.reduceMul, Int.reduceNeg, Int.reduceToNat, Int.reduceNatCast, reduceCtorEq, eq_self, hs]) ?_
    simp (implicitDefEqProofs := false) only [↓reduceIte, go_sem, oread, owrite, Nat.reduceAdd, Nat.reduceSub, Nat.reduceMul, Nat.reduceLT, Nat.reduceLeDiff, Nat.reduceEqDiff, Nat.reduceBEq, Int.reduceLE, Int.reduceLT, Int.reduceEq, Int.reduceNe, Int.reduceAdd, Int.reduceSub, Int.reduceMul, Int.reduceNeg, Int.reduceToNat, Int.reduceNatCast, reduceCtorEq, eq_self]
    refine AEnd.ret ?_
    simp (implicitDefEqProofs := false) only [↓reduceIte, go_sem, oread, owrite, Nat.reduceAdd, Nat.reduceSub, Nat.reduceMul, Nat.reduceLT, Nat.reduceLeDiff, Nat.reduceEqDiff, Nat.reduceBEq, Int.reduceLE, Int.reduceLT, Int.reduceEq, Int.reduceNe, Int.reduceAdd, Int.reduceSub, Int.reduceMul, Int.reduceNeg, Int.reduceToNat, Int.reduceNatCast, reduceCtorEq, eq_self]
  rw [Classical.not_not] at hs
  refine awp_F (by simp (implicitDefEqProofs := false) only [↓reduceIte, go_sem, oread, owrite, Nat.reduceAdd, Nat.reduceSub, Nat.reduceMul, Nat.reduceLT, Nat.reduceLeDiff, Nat.reduceEqDiff, Nat.reduceBEq, Int.reduceLE, Int.reduceLT, Int.reduceEq, Int.reduceNe, Int.reduceAdd, Int.reduceSub, Int.reduceMul, Int.reduceNeg, Int.reduceToNat, Int.reduceNatCast, reduceCtorEq, eq_self, hs]) ?_
  obtain ⟨hp, hj, hc, ha⟩ := hs
  simp (implicitDefEqProofs := false) only [↓reduceIte, go_sem, oread, owrite, Nat.reduceAdd, Nat.reduceSub, Nat.reduceMul, Nat.reduceLT, Nat.reduceLeDiff, Nat.reduceEqDiff, Nat.reduceBEq, Int.reduceLE, Int.reduceLT, Int.reduceEq, Int.reduceNe, Int.reduceAdd, Int.reduceSub, Int.reduceMul, Int.reduceNeg, Int.reduceToNat, Int.reduceNatCast, reduceCtorEq, eq_self]
  refine KCall.ok (need_does cols aggs joins _ _ _ _ _ _ _ _ (by omega) (by omega) (by omega) _) ?_
  have hnd := needS_nodup cols aggs joins
  have hmem := needS_mem cols aggs joins
  have hle := needS_le cols aggs joins
  generalize needS cols aggs joins = L at hnd hmem hle ⊢
  simp (implicitDefEqProofs := false) only [↓reduceIte, go_sem, oread, owrite, Nat.reduceAdd, Nat.reduceSub, Nat.reduceMul, Nat.reduceLT, Nat.reduceLeDiff, Nat.reduceEqDiff, Nat.reduceBEq, Int.reduceLE, Int.reduceLT, Int.reduceEq, Int.reduceNe, Int.reduceAdd, Int.reduceSub, Int.reduceMul, Int.reduceNeg, Int.reduceToNat, Int.reduceNatCast, reduceCtorEq, eq_self]
  rw [← hq]
  refine awp_for3 (fun k s H' => H' = H ++ [q] ∧ s 1 = .ptr H.length 0 0 0 ∧ s 3 = bA true ∧ s 4 = .d (.list false (ints L)) ∧ s 5 = iA k) L.length (by omega) (Weak.refl _ _) ?_ ?_ ?_
  · simp (implicitDefEqProofs := false) only [↓reduceIte, go_sem, oread, owrite, Nat.reduceAdd, Nat.reduceSub, Nat.reduceMul, Nat.reduceLT, Nat.reduceLeDiff, Nat.reduceEqDiff, Nat.reduceBEq, Int.reduceLE, Int.reduceLT, Int.reduceEq, Int.reduceNe, Int.reduceAdd, Int.reduceSub, Int.reduceMul, Int.reduceNeg, Int.reduceToNat, Int.reduceNatCast, reduceCtorEq, eq_self]
  · rintro k s H' hk hw ⟨rfl, h1, h3, h4, h5⟩
    simp (implicitDefEqProofs := false) only [↓reduceIte, go_sem, oread, owrite, Nat.reduceAdd, Nat.reduceSub, Nat.reduceMul, Nat.reduceLT, Nat.reduceLeDiff, Nat.reduceEqDiff, Nat.reduceBEq, Int.reduceLE, Int.reduceLT, Int.reduceEq, Int.reduceNe, Int.reduceAdd, Int.reduceSub, Int.reduceMul, Int.reduceNeg, Int.reduceToNat, Int.reduceNatCast, reduceCtorEq, eq_self, h1, h3, h4, h5, ints_len, hk]
    refine awp_for3 (fun j s H' => H' = H ++ [q] ∧ s 1 = .ptr H.length 0 0 0 ∧ s 3 = bA true ∧ s 4 = .d (.list false (ints L)) ∧ s 5 = iA k ∧ s 6 = iA j) k (by omega) (Weak.refl _ _) ?_ ?_ ?_
    · simp (implicitDefEqProofs := false) only [↓reduceIte, go_sem, oread, owrite, Nat.reduceAdd, Nat.reduceSub, Nat.reduceMul, Nat.reduceLT, Nat.reduceLeDiff, Nat.reduceEqDiff, Nat.reduceBEq, Int.reduceLE, Int.reduceLT, Int.reduceEq, Int.reduceNe, Int.reduceAdd, Int.reduceSub, Int.reduceMul, Int.reduceNeg, Int.reduceToNat, Int.reduceNatCast, reduceCtorEq, eq_self, h1, h3, h4, h5]
    · rintro j s H' hj2 hw2 ⟨rfl, h1, h3, h4, h5, h6⟩
      simp (implicitDefEqProofs := false) only [↓reduceIte, go_sem, oread, owrite, Nat.reduceAdd, Nat.reduceSub, Nat.reduceMul, Nat.reduceLT, Nat.reduceLeDiff, Nat.reduceEqDiff, Nat.reduceBEq, Int.reduceLE, Int.reduceLT, Int.reduceEq, Int.reduceNe, Int.reduceAdd, Int.reduceSub, Int.reduceMul, Int.reduceNeg, Int.reduceToNat, Int.reduceNatCast, reduceCtorEq, eq_self, h5, h6, hj2]
      refine awp_draw K.mixed (by kernel_rfl) ?_
      simp (implicitDefEqProofs := false) only [↓reduceIte, go_sem, oread, owrite, Nat.reduceAdd, Nat.reduceSub, Nat.reduceMul, Nat.reduceLT, Nat.reduceLeDiff, Nat.reduceEqDiff, Nat.reduceBEq, Int.reduceLE, Int.reduceLT, Int.reduceEq, Int.reduceNe, Int.reduceAdd, Int.reduceSub, Int.reduceMul, Int.reduceNeg, Int.reduceToNat, Int.reduceNatCast, reduceCtorEq, eq_self, h4, h5, h6, ints_get L k hk, ints_get L j (by omega)]
      have hne : ¬ L[k] = L[j] := fun e => by
        have := (List.getElem_inj hnd).1 e
        omega
      refine awp_F (by simp (implicitDefEqProofs := false) only [↓reduceIte, go_sem, oread, owrite, Nat.reduceAdd, Nat.reduceSub, Nat.reduceMul, Nat.reduceLT, Nat.reduceLeDiff, Nat.reduceEqDiff, Nat.reduceBEq, Int.reduceLE, Int.reduceLT, Int.reduceEq, Int.reduceNe, Int.reduceAdd, Int.reduceSub, Int.reduceMul, Int.reduceNeg, Int.reduceToNat, Int.reduceNatCast, reduceCtorEq, eq_self, hne]) ?_
      simp (implicitDefEqProofs := false) only [↓reduceIte, go_sem, oread, owrite, Nat.reduceAdd, Nat.reduceSub, Nat.reduceMul, Nat.reduceLT, Nat.reduceLeDiff, Nat.reduceEqDiff, Nat.reduceBEq, Int.reduceLE, Int.reduceLT, Int.reduceEq, Int.reduceNe, Int.reduceAdd, Int.reduceSub, Int.reduceMul, Int.reduceNeg, Int.reduceToNat, Int.reduceNatCast, reduceCtorEq, eq_self, h6]
      refine Rnd.same ⟨rfl, ?_⟩
      simp (implicitDefEqProofs := false) only [↓reduceIte, go_sem, oread, owrite, Nat.reduceAdd, Nat.reduceSub, Nat.reduceMul, Nat.reduceLT, Nat.reduceLeDiff, Nat.reduceEqDiff, Nat.reduceBEq, Int.reduceLE, Int.reduceLT, Int.reduceEq, Int.reduceNe, Int.reduceAdd, Int.reduceSub, Int.reduceMul, Int.reduceNeg, Int.reduceToNat, Int.reduceNatCast, reduceCtorEq, eq_self, h1, h3, h4, h5, hw2]
    · rintro s H' ⟨rfl, h1, h3, h4, h5, h6⟩
      simp (implicitDefEqProofs := false) only [↓reduceIte, go_sem, oread, owrite, Nat.reduceAdd, Nat.reduceSub, Nat.reduceMul, Nat.reduceLT, Nat.reduceLeDiff, Nat.reduceEqDiff, Nat.reduceBEq, Int.reduceLE, Int.reduceLT, Int.reduceEq, Int.reduceNe, Int.reduceAdd, Int.reduceSub, Int.reduceMul, Int.reduceNeg, Int.reduceToNat, Int.reduceNatCast, reduceCtorEq, eq_self, h5, h6]
      refine Rnd.same ⟨rfl, ?_⟩
      simp (implicitDefEqProofs := false) only [↓reduceIte, go_sem, oread, owrite, Nat.reduceAdd, Nat.reduceSub, Nat.reduceMul, Nat.reduceLT, Nat.reduceLeDiff, Nat.reduceEqDiff, Nat.reduceBEq, Int.reduceLE, Int.reduceLT, Int.reduceEq, Int.reduceNe, Int.reduceAdd, Int.reduceSub, Int.reduceMul, Int.reduceNeg, Int.reduceToNat, Int.reduceNatCast, reduceCtorEq, eq_self, h1, h3, h4, hw]
  rintro s H' ⟨rfl, h1, h3, h4, h5⟩
  simp (implicitDefEqProofs := false) only [↓reduceIte, go_sem, oread, owrite, Nat.reduceAdd, Nat.reduceSub, Nat.reduceMul, Nat.reduceLT, Nat.reduceLeDiff, Nat.reduceEqDiff, Nat.reduceBEq, Int.reduceLE, Int.reduceLT, Int.reduceEq, Int.reduceNe, Int.reduceAdd, Int.reduceSub, Int.reduceMul, Int.reduceNeg, Int.reduceToNat, Int.reduceNatCast, reduceCtorEq, eq_self, h4, h5, ints_len]
  clear h5
  refine awp_for3 (fun k s H' => ∃ ver, H' = H ++ [q, .arr 3 1 ver (ints (iota k))] ∧ s 1 = .ptr H.length 0 0 0 ∧ s 3 = bA true ∧ s 4 = .d (.list false (ints L)) ∧ s 7 = .sl (H.length + 1) ver 0 k ∧ s 8 = iA k) pred.length (by omega) (Weak.virt1 _ _ 7 3 1 (by decide) (by simp (implicitDefEqProofs := false) only [↓reduceIte, go_sem, oread, owrite, Nat.reduceAdd, Nat.reduceSub, Nat.reduceMul, Nat.reduceLT, Nat.reduceLeDiff, Nat.reduceEqDiff, Nat.reduceBEq, Int.reduceLE, Int.reduceLT, Int.reduceEq, Int.reduceNe, Int.reduceAdd, Int.reduceSub, Int.reduceMul, Int.reduceNeg, Int.reduceToNat, Int.reduceNatCast, reduceCtorEq, eq_self]) _) ?_ ?_ ?_
  · refine ⟨0, ?_⟩
    simp (implicitDefEqProofs := false) only [↓reduceIte, go_sem, oread, owrite, Nat.reduceAdd, Nat.reduceSub, Nat.reduceMul, Nat.reduceLT, Nat.reduceLeDiff, Nat.reduceEqDiff, Nat.reduceBEq, Int.reduceLE, Int.reduceLT, Int.reduceEq, Int.reduceNe, Int.reduceAdd, Int.reduceSub, Int.reduceMul, Int.reduceNeg, Int.reduceToNat, Int.reduceNatCast, reduceCtorEq, eq_self, h1, h3, h4, show iota 0 = [] from rfl, ints_nil]
  · rintro k s H' hk hw ⟨ver, rfl, h1, h3, h4, h7, h8⟩
    simp (implicitDefEqProofs := false) only [↓reduceIte, go_sem, oread, owrite, Nat.reduceAdd, Nat.reduceSub, Nat.reduceMul, Nat.reduceLT, Nat.reduceLeDiff, Nat.reduceEqDiff, Nat.reduceBEq, Int.reduceLE, Int.reduceLT, Int.reduceEq, Int.reduceNe, Int.reduceAdd, Int.reduceSub, Int.reduceMul, Int.reduceNeg, Int.reduceToNat, Int.reduceNatCast, reduceCtorEq, eq_self, h1, h8, hq, hk]
    rw [← hq]
    simp (implicitDefEqProofs := false) only [↓reduceIte, go_sem, oread, owrite, Nat.reduceAdd, Nat.reduceSub, Nat.reduceMul, Nat.reduceLT, Nat.reduceLeDiff, Nat.reduceEqDiff, Nat.reduceBEq, Int.reduceLE, Int.reduceLT, Int.reduceEq, Int.reduceNe, Int.reduceAdd, Int.reduceSub, Int.reduceMul, Int.reduceNeg, Int.reduceToNat, Int.reduceNatCast, reduceCtorEq, eq_self, h7, h8, ints_len, iota_len, ints_snoc]
    refine ⟨by omega, by omega, Rnd.same ⟨ver + 1, ?_⟩⟩
    simp (implicitDefEqProofs := false) only [↓reduceIte, go_sem, oread, owrite, Nat.reduceAdd, Nat.reduceSub, Nat.reduceMul, Nat.reduceLT, Nat.reduceLeDiff, Nat.reduceEqDiff, Nat.reduceBEq, Int.reduceLE, Int.reduceLT, Int.reduceEq, Int.reduceNe, Int.reduceAdd, Int.reduceSub, Int.reduceMul, Int.reduceNeg, Int.reduceToNat, Int.reduceNatCast, reduceCtorEq, eq_self, h1, h3, h4, hw, iota_snoc]
  rintro s H' ⟨ver, rfl, h1, h3, h4, h7, h8⟩
  simp (implicitDefEqProofs := false) only [↓reduceIte, go_sem, oread, owrite, Nat.reduceAdd, Nat.reduceSub, Nat.reduceMul, Nat.reduceLT, Nat.reduceLeDiff, Nat.reduceEqDiff, Nat.reduceBEq, Int.reduceLE, Int.reduceLT, Int.reduceEq, Int.reduceNe, Int.reduceAdd, Int.reduceSub, Int.reduceMul, Int.reduceNeg, Int.reduceToNat, Int.reduceNatCast, reduceCtorEq, eq_self, h1, h8, hq]
  rw [← hq]
  simp (implicitDefEqProofs := false) only [↓reduceIte, go_sem, oread, owrite, Nat.reduceAdd, Nat.reduceSub, Nat.reduceMul, Nat.reduceLT, Nat.reduceLeDiff, Nat.reduceEqDiff, Nat.reduceBEq, Int.reduceLE, Int.reduceLT, Int.reduceEq, Int.reduceNe, Int.reduceAdd, Int.reduceSub, Int.reduceMul, Int.reduceNeg, Int.reduceToNat, Int.reduceNatCast, reduceCtorEq, eq_self, ints_all, ints_len]
  refine ⟨by omega, by omega, ?_⟩
  refine awp_for3 (fun k s H' => ∃ v2, H' = H ++ [q, .arr 3 1 ver (ints (iota pred.length)), .arr 3 1 v2 (ints (cols ++ (joins.map (·.1)).take k))] ∧ s 1 = .ptr H.length 0 0 0 ∧ s 3 = bA true ∧ s 4 = .d (.list false (ints L)) ∧ s 7 = .sl (H.length + 1) ver 0 pred.length ∧
      s 9 = .sl (H.length + 2) v2 0 (cols.length + k) ∧ s 10 = iA k) joins.length (by omega) (Weak.refl _ _) ?_ ?_ ?_
  · refine ⟨1, ?_⟩
    simp (implicitDefEqProofs := false) only [↓reduceIte, go_sem, oread, owrite, Nat.reduceAdd, Nat.reduceSub, Nat.reduceMul, Nat.reduceLT, Nat.reduceLeDiff, Nat.reduceEqDiff, Nat.reduceBEq, Int.reduceLE, Int.reduceLT, Int.reduceEq, Int.reduceNe, Int.reduceAdd, Int.reduceSub, Int.reduceMul, Int.reduceNeg, Int.reduceToNat, Int.reduceNatCast, reduceCtorEq, eq_self, h1, h3, h4, h7, List.append_nil, ints_len]
  · rintro k s H' hk hw ⟨v2, rfl, h1, h3, h4, h7, h9, h10⟩
    simp (implicitDefEqProofs := false) only [↓reduceIte, go_sem, oread, owrite, Nat.reduceAdd, Nat.reduceSub, Nat.reduceMul, Nat.reduceLT, Nat.reduceLeDiff, Nat.reduceEqDiff, Nat.reduceBEq, Int.reduceLE, Int.reduceLT, Int.reduceEq, Int.reduceNe, Int.reduceAdd, Int.reduceSub, Int.reduceMul, Int.reduceNeg, Int.reduceToNat, Int.reduceNatCast, reduceCtorEq, eq_self, h1, h10, hq, hk]
    have hx := List.getElem?_eq_getElem hk
    have hsn : (joins.map (·.1)).take (k + 1) = (joins.map (·.1)).take k ++ [(joins[k]).1] := by
      rw [List.take_succ_eq_append_getElem (by simpa using hk)]; simp
    have hln : (cols ++ (joins.map (·.1)).take k).length = cols.length + k := by simp; omega
    generalize joins[k] = x at hx hsn
    simp (implicitDefEqProofs := false) only [↓reduceIte, go_sem, oread, owrite, Nat.reduceAdd, Nat.reduceSub, Nat.reduceMul, Nat.reduceLT, Nat.reduceLeDiff, Nat.reduceEqDiff, Nat.reduceBEq, Int.reduceLE, Int.reduceLT, Int.reduceEq, Int.reduceNe, Int.reduceAdd, Int.reduceSub, Int.reduceMul, Int.reduceNeg, Int.reduceToNat, Int.reduceNatCast, reduceCtorEq, eq_self, h1, h9, h10, hx, encJ]
    rw [← hq]
    simp (implicitDefEqProofs := false) only [↓reduceIte, go_sem, oread, owrite, Nat.reduceAdd, Nat.reduceSub, Nat.reduceMul, Nat.reduceLT, Nat.reduceLeDiff, Nat.reduceEqDiff, Nat.reduceBEq, Int.reduceLE, Int.reduceLT, Int.reduceEq, Int.reduceNe, Int.reduceAdd, Int.reduceSub, Int.reduceMul, Int.reduceNeg, Int.reduceToNat, Int.reduceNatCast, reduceCtorEq, eq_self, ints_len, hln, ints_snoc]
    refine ⟨by omega, by omega, Rnd.same ⟨v2 + 1, ?_⟩⟩
    simp (implicitDefEqProofs := false) only [↓reduceIte, go_sem, oread, owrite, Nat.reduceAdd, Nat.reduceSub, Nat.reduceMul, Nat.reduceLT, Nat.reduceLeDiff, Nat.reduceEqDiff, Nat.reduceBEq, Int.reduceLE, Int.reduceLT, Int.reduceEq, Int.reduceNe, Int.reduceAdd, Int.reduceSub, Int.reduceMul, Int.reduceNeg, Int.reduceToNat, Int.reduceNatCast, reduceCtorEq, eq_self, h1, h3, h4, h7, hw, hsn, Nat.add_assoc]
  rintro s H' ⟨v2, rfl, h1, h3, h4, h7, h9, h10⟩
  simp (implicitDefEqProofs := false) only [↓reduceIte, go_sem, oread, owrite, Nat.reduceAdd, Nat.reduceSub, Nat.reduceMul, Nat.reduceLT, Nat.reduceLeDiff, Nat.reduceEqDiff, Nat.reduceBEq, Int.reduceLE, Int.reduceLT, Int.reduceEq, Int.reduceNe, Int.reduceAdd, Int.reduceSub, Int.reduceMul, Int.reduceNeg, Int.reduceToNat, Int.reduceNatCast, reduceCtorEq, eq_self, h1, h10, hq]
  rw [← hq]
  have hW : cols ++ (joins.map (·.1)).take joins.length = cols ++ joins.map (·.1) := by rw [List.take_of_length_le (by simp)]
  rw [hW]
  have hlW : cols.length + joins.length = (cols ++ joins.map (·.1)).length := by simp
  rw [hlW] at h9
  generalize cols ++ joins.map (·.1) = W at hmem h9 hlW ⊢
  refine awp_for3 (fun k s H' => H' = H ++ [q] ∧ s 1 = .ptr H.length 0 0 0 ∧ s 3 = bA true ∧ s 4 = .d (.list false (ints L)) ∧ s 7 = .d (.list false (ints (iota pred.length))) ∧ s 9 = .d (.list false (ints W)) ∧ s 11 = iA k) W.length (by omega)
    (Weak.cut [q] [.arr 3 1 ver (ints (iota pred.length)), .arr 3 1 v2 (ints W)] 1 rfl _ (by simp (implicitDefEqProofs := false) only [↓reduceIte, go_sem, oread, owrite, Nat.reduceAdd, Nat.reduceSub, Nat.reduceMul, Nat.reduceLT, Nat.reduceLeDiff, Nat.reduceEqDiff, Nat.reduceBEq, Int.reduceLE, Int.reduceLT, Int.reduceEq, Int.reduceNe, Int.reduceAdd, Int.reduceSub, Int.reduceMul, Int.reduceNeg, Int.reduceToNat, Int.reduceNatCast, reduceCtorEq, eq_self, hb])) ?_ ?_ ?_
  · simp (implicitDefEqProofs := false) only [↓reduceIte, go_sem, oread, owrite, Nat.reduceAdd, Nat.reduceSub, Nat.reduceMul, Nat.reduceLT, Nat.reduceLeDiff, Nat.reduceEqDiff, Nat.reduceBEq, Int.reduceLE, Int.reduceLT, Int.reduceEq, Int.reduceNe, Int.reduceAdd, Int.reduceSub, Int.reduceMul, Int.reduceNeg, Int.reduceToNat, Int.reduceNatCast, reduceCtorEq, eq_self, h1, h3, h4, h7, h9, take_len, ints_len, iota_len]
  · rintro k s H' hk hw ⟨rfl, h1, h3, h4, h7, h9, h11⟩
    simp (implicitDefEqProofs := false) only [↓reduceIte, go_sem, oread, owrite, Nat.reduceAdd, Nat.reduceSub, Nat.reduceMul, Nat.reduceLT, Nat.reduceLeDiff, Nat.reduceEqDiff, Nat.reduceBEq, Int.reduceLE, Int.reduceLT, Int.reduceEq, Int.reduceNe, Int.reduceAdd, Int.reduceSub, Int.reduceMul, Int.reduceNeg, Int.reduceToNat, Int.reduceNatCast, reduceCtorEq, eq_self, h9, h11, ints_len, hk]
    have hin := hmem W[k] (List.getElem_mem hk)
    have hgk := ints_get W k hk
    generalize W[k] = x at hin hgk
    refine awp_for3 (fun j s H' => H' = H ++ [q] ∧ s 1 = .ptr H.length 0 0 0 ∧ s 3 = bA true ∧ s 4 = .d (.list false (ints L)) ∧ s 7 = .d (.list false (ints (iota pred.length))) ∧ s 9 = .d (.list false (ints W)) ∧ s 11 = iA k ∧
        s 12 = bA (decide (x ∈ L.take j)) ∧ s 13 = iA j) L.length (by omega) (Weak.refl _ _) ?_ ?_ ?_
    · simp (implicitDefEqProofs := false) only [↓reduceIte, go_sem, oread, owrite, Nat.reduceAdd, Nat.reduceSub, Nat.reduceMul, Nat.reduceLT, Nat.reduceLeDiff, Nat.reduceEqDiff, Nat.reduceBEq, Int.reduceLE, Int.reduceLT, Int.reduceEq, Int.reduceNe, Int.reduceAdd, Int.reduceSub, Int.reduceMul, Int.reduceNeg, Int.reduceToNat, Int.reduceNatCast, reduceCtorEq, eq_self, h1, h3, h4, h7, h9, h11, show (x ∈ ([] : List Int)) = False from by simp]
    · rintro j s H' hj2 hw2 ⟨rfl, h1, h3, h4, h7, h9, h11, h12, h13⟩
      have hsn : x ∈ L.take (j + 1) ↔ x ∈ L.take j ∨ L[j] = x := by
        rw [List.take_succ_eq_append_getElem hj2, List.mem_append, List.mem_singleton, eq_comm (a := x)]
      have hgj := ints_get L j hj2
      generalize L[j] = y at hsn hgj
      simp (implicitDefEqProofs := false) only [↓reduceIte, go_sem, oread, owrite, Nat.reduceAdd, Nat.reduceSub, Nat.reduceMul, Nat.reduceLT, Nat.reduceLeDiff, Nat.reduceEqDiff, Nat.reduceBEq, Int.reduceLE, Int.reduceLT, Int.reduceEq, Int.reduceNe, Int.reduceAdd, Int.reduceSub, Int.reduceMul, Int.reduceNeg, Int.reduceToNat, Int.reduceNatCast, reduceCtorEq, eq_self, h4, h13, ints_len, hj2]
      refine awp_draw K.mixed (by kernel_rfl) ?_
      by_cases hx : x ∈ L.take j
      · simp (implicitDefEqProofs := false) only [↓reduceIte, go_sem, oread, owrite, Nat.reduceAdd, Nat.reduceSub, Nat.reduceMul, Nat.reduceLT, Nat.reduceLeDiff, Nat.reduceEqDiff, Nat.reduceBEq, Int.reduceLE, Int.reduceLT, Int.reduceEq, Int.reduceNe, Int.reduceAdd, Int.reduceSub, Int.reduceMul, Int.reduceNeg, Int.reduceToNat, Int.reduceNatCast, reduceCtorEq, eq_self, h4, h9, h11, h12, h13, hx]
        refine Rnd.same ⟨rfl, ?_⟩
        simp (implicitDefEqProofs := false) only [↓reduceIte, go_sem, oread, owrite, Nat.reduceAdd, Nat.reduceSub, Nat.reduceMul, Nat.reduceLT, Nat.reduceLeDiff, Nat.reduceEqDiff, Nat.reduceBEq, Int.reduceLE, Int.reduceLT, Int.reduceEq, Int.reduceNe, Int.reduceAdd, Int.reduceSub, Int.reduceMul, Int.reduceNeg, Int.reduceToNat, Int.reduceNatCast, reduceCtorEq, eq_self, h1, h3, h4, h7, h9, h11, hw2, hsn, hx, true_or]
      · simp (implicitDefEqProofs := false) only [↓reduceIte, go_sem, oread, owrite, Nat.reduceAdd, Nat.reduceSub, Nat.reduceMul, Nat.reduceLT, Nat.reduceLeDiff, Nat.reduceEqDiff, Nat.reduceBEq, Int.reduceLE, Int.reduceLT, Int.reduceEq, Int.reduceNe, Int.reduceAdd, Int.reduceSub, Int.reduceMul, Int.reduceNeg, Int.reduceToNat, Int.reduceNatCast, reduceCtorEq, eq_self, h4, h9, h11, h12, h13, hx, hgj, hgk]
        refine Rnd.same ⟨rfl, ?_⟩
        simp (implicitDefEqProofs := false) only [↓reduceIte, go_sem, oread, owrite, Nat.reduceAdd, Nat.reduceSub, Nat.reduceMul, Nat.reduceLT, Nat.reduceLeDiff, Nat.reduceEqDiff, Nat.reduceBEq, Int.reduceLE, Int.reduceLT, Int.reduceEq, Int.reduceNe, Int.reduceAdd, Int.reduceSub, Int.reduceMul, Int.reduceNeg, Int.reduceToNat, Int.reduceNatCast, reduceCtorEq, eq_self, h1, h3, h4, h7, h9, h11, hw2, hsn, hx, false_or]
    · rintro s H' ⟨rfl, h1, h3, h4, h7, h9, h11, h12, h13⟩
      rw [List.take_length] at h12
      simp (implicitDefEqProofs := false) only [↓reduceIte, go_sem, oread, owrite, Nat.reduceAdd, Nat.reduceSub, Nat.reduceMul, Nat.reduceLT, Nat.reduceLeDiff, Nat.reduceEqDiff, Nat.reduceBEq, Int.reduceLE, Int.reduceLT, Int.reduceEq, Int.reduceNe, Int.reduceAdd, Int.reduceSub, Int.reduceMul, Int.reduceNeg, Int.reduceToNat, Int.reduceNatCast, reduceCtorEq, eq_self, h4, h13, ints_len, h12]
      refine awp_F (by simp (implicitDefEqProofs := false) only [↓reduceIte, go_sem, oread, owrite, Nat.reduceAdd, Nat.reduceSub, Nat.reduceMul, Nat.reduceLT, Nat.reduceLeDiff, Nat.reduceEqDiff, Nat.reduceBEq, Int.reduceLE, Int.reduceLT, Int.reduceEq, Int.reduceNe, Int.reduceAdd, Int.reduceSub, Int.reduceMul, Int.reduceNeg, Int.reduceToNat, Int.reduceNatCast, reduceCtorEq, eq_self, hin]) ?_
      simp (implicitDefEqProofs := false) only [↓reduceIte, go_sem, oread, owrite, Nat.reduceAdd, Nat.reduceSub, Nat.reduceMul, Nat.reduceLT, Nat.reduceLeDiff, Nat.reduceEqDiff, Nat.reduceBEq, Int.reduceLE, Int.reduceLT, Int.reduceEq, Int.reduceNe, Int.reduceAdd, Int.reduceSub, Int.reduceMul, Int.reduceNeg, Int.reduceToNat, Int.reduceNatCast, reduceCtorEq, eq_self, h11]
      refine Rnd.same ⟨rfl, ?_⟩
      simp (implicitDefEqProofs := false) only [↓reduceIte, go_sem, oread, owrite, Nat.reduceAdd, Nat.reduceSub, Nat.reduceMul, Nat.reduceLT, Nat.reduceLeDiff, Nat.reduceEqDiff, Nat.reduceBEq, Int.reduceLE, Int.reduceLT, Int.reduceEq, Int.reduceNe, Int.reduceAdd, Int.reduceSub, Int.reduceMul, Int.reduceNeg, Int.reduceToNat, Int.reduceNatCast, reduceCtorEq, eq_self, h1, h3, h4, h7, h9, hw]
  rintro s H' ⟨rfl, h1, h3, h4, h7, h9, h11⟩
  simp (implicitDefEqProofs := false) only [↓reduceIte, go_sem, oread, owrite, Nat.reduceAdd, Nat.reduceSub, Nat.reduceMul, Nat.reduceLT, Nat.reduceLeDiff, Nat.reduceEqDiff, Nat.reduceBEq, Int.reduceLE, Int.reduceLT, Int.reduceEq, Int.reduceNe, Int.reduceAdd, Int.reduceSub, Int.reduceMul, Int.reduceNeg, Int.reduceToNat, Int.reduceNatCast, reduceCtorEq, eq_self, h9, h11, ints_len]
  refine awp_draw K.mixed (by kernel_rfl) ?_
  simp (implicitDefEqProofs := false) only [↓reduceIte, go_sem, oread, owrite, Nat.reduceAdd, Nat.reduceSub, Nat.reduceMul, Nat.reduceLT, Nat.reduceLeDiff, Nat.reduceEqDiff, Nat.reduceBEq, Int.reduceLE, Int.reduceLT, Int.reduceEq, Int.reduceNe, Int.reduceAdd, Int.reduceSub, Int.reduceMul, Int.reduceNeg, Int.reduceToNat, Int.reduceNatCast, reduceCtorEq, eq_self, h1, h3, h7, hq]
  refine KCall.ok (order_does pred (iota pred.length) _ _ _ (by omega) (by rw [iota_len]; omega)) ?_
  simp (implicitDefEqProofs := false) only [↓reduceIte, go_sem, oread, owrite, Nat.reduceAdd, Nat.reduceSub, Nat.reduceMul, Nat.reduceLT, Nat.reduceLeDiff, Nat.reduceEqDiff, Nat.reduceBEq, Int.reduceLE, Int.reduceLT, Int.reduceEq, Int.reduceNe, Int.reduceAdd, Int.reduceSub, Int.reduceMul, Int.reduceNeg, Int.reduceToNat, Int.reduceNatCast, reduceCtorEq, eq_self, orderS_iota, h1]
  refine KCall.ok (sameAtoms_does pred pred _ _ _ (by omega)) ?_
  simp (implicitDefEqProofs := false) only [↓reduceIte, go_sem, oread, owrite, Nat.reduceAdd, Nat.reduceSub, Nat.reduceMul, Nat.reduceLT, Nat.reduceLeDiff, Nat.reduceEqDiff, Nat.reduceBEq, Int.reduceLE, Int.reduceLT, Int.reduceEq, Int.reduceNe, Int.reduceAdd, Int.reduceSub, Int.reduceMul, Int.reduceNeg, Int.reduceToNat, Int.reduceNatCast, reduceCtorEq, eq_self, h1, h4, ints_len, wrap64_in ((cols.length : Int) + aggs.length) (by omega) (by omega), wrap64_in ((cols.length : Int) + aggs.length + joins.length) (by omega) (by omega)]
  refine AEnd.ret ?_
  have hle' : ((L.length : Int) ≤ (cols.length : Int) + aggs.length + joins.length) := by omega
  simp (implicitDefEqProofs := false) only [↓reduceIte, go_sem, oread, owrite, Nat.reduceAdd, Nat.reduceSub, Nat.reduceMul, Nat.reduceLT, Nat.reduceLeDiff, Nat.reduceEqDiff, Nat.reduceBEq, Int.reduceLE, Int.reduceLT, Int.reduceEq, Int.reduceNe, Int.reduceAdd, Int.reduceSub, Int.reduceMul, Int.reduceNeg, Int.reduceToNat, Int.reduceNatCast, reduceCtorEq, eq_self, hle']
/-! ### The argument -/
theorem argQuery {x : AV} (h : ArgOk Try.prog 37 x) : ∃ (pred : List Atom) (joins : List (Int × D × D × D)) (cols : List Int) (aggs : List (Int × Int)) (x0 x4 x6 x7 : D),
    x = .agg [.d x0, .d (.list false (pred.map Atom.enc)), .d (.list false (joins.map encJ)), .d (.list false (ints cols)), .d x4, .d (.list false (aggs.map encA)), .d x6, .d x7] := by
  obtain ⟨ds, rfl, hf⟩ := arg_agg h K.agB37 (shs := [.int .i64, .slice 48 shAtom, .slice 48 [.int .i64, .int .i64, .int .i64, .slice 48 shAtom], .slice 8 [.int .i64], .bool, .slice 16 [.int .i64, .int .i64], .slice 8 [.int .i64], .int .i64]) (by kernel_rfl)
  obtain ⟨x0, _, rfl, h0, h⟩ := FitsL.cons_inv hf
  obtain ⟨x1, _, rfl, h1, h⟩ := FitsL.cons_inv h
  obtain ⟨x2, _, rfl, h2, h⟩ := FitsL.cons_inv h
  obtain ⟨x3, _, rfl, h3, h⟩ := FitsL.cons_inv h
  obtain ⟨x4, _, rfl, h4, h⟩ := FitsL.cons_inv h
  obtain ⟨x5, _, rfl, h5, h⟩ := FitsL.cons_inv h
  obtain ⟨x6, _, rfl, h6, h⟩ := FitsL.cons_inv h
  obtain ⟨x7, _, rfl, h7, h⟩ := FitsL.cons_inv h
  cases FitsL.nil_inv h
  obtain ⟨pred, rfl, _, _⟩ := atoms_inv h1
  obtain ⟨cols, rfl, _, _⟩ := ints_inv h3
  obtain ⟨l2, rfl, _, g2⟩ := Fits.slice_inv h2
  obtain ⟨l5, rfl, _, g5⟩ := Fits.slice_inv h5
  obtain ⟨joins, rfl, _⟩ := map_inv (enc := encJ) (p := fun _ => True) fun e he => by
    obtain ⟨a, _, rfl, ha, h⟩ := FitsL.cons_inv (g2 e he)
    obtain ⟨b, _, rfl, _, h⟩ := FitsL.cons_inv h
    obtain ⟨c, _, rfl, _, h⟩ := FitsL.cons_inv h
    obtain ⟨d, _, rfl, _, h⟩ := FitsL.cons_inv h
    cases FitsL.nil_inv h
    obtain ⟨n, rfl, _⟩ := Fits.i64_inv ha
    exact ⟨(n, b, c, d), rfl, trivial⟩
  obtain ⟨aggs, rfl, _⟩ := map_inv (enc := encA) (p := fun _ => True) fun e he => by
    obtain ⟨a, _, rfl, ha, h⟩ := FitsL.cons_inv (g5 e he)
    obtain ⟨b, _, rfl, hb, h⟩ := FitsL.cons_inv h
    cases FitsL.nil_inv h
    obtain ⟨n, rfl, _⟩ := Fits.i64_inv ha
    obtain ⟨m, rfl, _⟩ := Fits.i64_inv hb
    exact ⟨(n, m), rfl, trivial⟩
  exact ⟨pred, joins, cols, aggs, x0, x4, x6, x7, rfl⟩
theorem costNeeds_does (x : AV) (h : ArgOk Try.prog 37 x) : Does Try.prog 6 [x] [] (.ok (.d (.v (.bool true)))) [] := by
  obtain ⟨pred, joins, cols, aggs, x0, x4, x6, x7, rfl⟩ := argQuery h
  exact costNeeds_walk pred joins cols aggs x0 x4 x6 x7 []
end Go.Proofs.Ytfjdggcemfebpaa

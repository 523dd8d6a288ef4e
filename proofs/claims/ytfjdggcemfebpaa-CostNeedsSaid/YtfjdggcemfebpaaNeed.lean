/- cost.Need: what it does. -/
import Derived.Test.YtfjdggcemfebpaaBase
namespace Go.Proofs.Ytfjdggcemfebpaa
open Go.Proofs.YtfjdggcemfebpaaAw Go.RowKit
set_option linter.unusedVariables false
set_option linter.unusedSimpArgs false
def toldM (l : List Int) : List (Int × AV) := l.map fun k => (k, .d (.v (.bool true)))
theorem mpIdx_told (n : Int) : ∀ (l : List Int) (i : Nat), n ∈ l → ∃ j, mpIdx n (toldM l) i = some (j, .d (.v (.bool true)))
  | [], _, h => by simp at h
  | m :: l, i, h => by
    simp only [toldM, List.map_cons, mpIdx]
    by_cases e : n = m
    · exact ⟨i, by simp [e]⟩
    · simp only [if_neg e]
      exact mpIdx_told n l (i + 1) (by simpa [e] using h)
theorem mpIdx_untold (n : Int) : ∀ (l : List Int) (i : Nat), n ∉ l → mpIdx n (toldM l) i = none
  | [], _, _ => rfl
  | m :: l, i, h => by
    simp only [List.mem_cons, not_or] at h
    simp only [toldM, List.map_cons, mpIdx, if_neg h.1]
    exact mpIdx_untold n l (i + 1) h.2
theorem mpGet_told {n : Int} {l : List Int} (h : n ∈ l) : mpGet n (toldM l) = some (.d (.v (.bool true))) := by
  obtain ⟨j, hj⟩ := mpIdx_told n l 0 h
  simp [mpGet, hj]
theorem mpGet_untold {n : Int} {l : List Int} (h : n ∉ l) : mpGet n (toldM l) = none := by simp [mpGet, mpIdx_untold n l 0 h]
theorem mpPut_untold {n : Int} {l : List Int} (h : n ∉ l) : mpPut n (.d (.v (.bool true))) (toldM l) = toldM (l ++ [n]) := by
  unfold mpPut
  rw [mpIdx_untold n l 0 h]
  simp [toldM]
def tell (out : List Int) (c : Int) : List Int := if c ∈ out then out else out ++ [c]
def needH (H : AHeap) (q : AObj) (l : List Int) (ver : Nat) (T : AHeap) : AHeap := H ++ q :: .mp .i64 (toldM l) :: .box 51 1 0 1 [.mp (H.length + 1)] :: .box 27 1 0 1 [.sl (H.length + 4) ver 0 l.length] :: .arr 3 1 ver (ints l) :: T

set_option maxRecDepth 10000 in
set_option maxHeartbeats 1000000 in
theorem put_does (n : Int) (l : List Int) (hl : l.length ≤ 1000000) (H : AHeap) (q : AObj) (ver : Nat) (T : AHeap) :
    ∃ ver', Does Try.prog 27 [iA n, .ptr (H.length + 2) 0 0 0, .ptr (H.length + 3) 0 0 0] (needH H q l ver T) (.ok (.tup [])) (needH H q (tell l n) ver' T) := by
  by_cases hn : n ∈ l
  · refine ⟨ver, ?_⟩
    refine Does.of_awp (hint := (fun _ => false)) Try.func27 (by kernel_rfl) rfl [] (by kernel_rfl) (by decide) (by simp [Try.ntmps27]) ?_
    rw [Try.ntmps27]
    simp (implicitDefEqProofs := false) only [↓reduceIte, go_sem, oread, owrite, Nat.reduceAdd, Nat.reduceSub, Nat.reduceMul, Nat.reduceLT, Nat.reduceLeDiff, Nat.reduceEqDiff, Nat.reduceBEq, Int.reduceLE, Int.reduceLT, Int.reduceEq, Int.reduceNe, Int.reduceAdd, Int.reduceSub, Int.reduceMul, Int.reduceNeg, Int.reduceToNat, Int.reduceNatCast, reduceCtorEq, eq_self, needH, mpGet_told hn, tell, hn]
    refine awp_F (by simp (implicitDefEqProofs := false) only [↓reduceIte, go_sem, oread, owrite, Nat.reduceAdd, Nat.reduceSub, Nat.reduceMul, Nat.reduceLT, Nat.reduceLeDiff, Nat.reduceEqDiff, Nat.reduceBEq, Int.reduceLE, Int.reduceLT, Int.reduceEq, Int.reduceNe, Int.reduceAdd, Int.reduceSub, Int.reduceMul, Int.reduceNeg, Int.reduceToNat, Int.reduceNatCast, reduceCtorEq, eq_self]) ?_
    simp (implicitDefEqProofs := false) only [↓reduceIte, go_sem, oread, owrite, Nat.reduceAdd, Nat.reduceSub, Nat.reduceMul, Nat.reduceLT, Nat.reduceLeDiff, Nat.reduceEqDiff, Nat.reduceBEq, Int.reduceLE, Int.reduceLT, Int.reduceEq, Int.reduceNe, Int.reduceAdd, Int.reduceSub, Int.reduceMul, Int.reduceNeg, Int.reduceToNat, Int.reduceNatCast, reduceCtorEq, eq_self]
    exact ⟨_, Weak.refl _ _, rfl⟩
  · refine ⟨ver + 1, ?_⟩
    refine Does.of_awp (hint := (fun _ => false)) Try.func27 (by kernel_rfl) rfl [] (by kernel_rfl) (by decide) (by simp [Try.ntmps27]) ?_
    rw [Try.ntmps27]
    simp (implicitDefEqProofs := false) only [↓reduceIte, go_sem, oread, owrite, Nat.reduceAdd, Nat.reduceSub, Nat.reduceMul, Nat.reduceLT, Nat.reduceLeDiff, Nat.reduceEqDiff, Nat.reduceBEq, Int.reduceLE, Int.reduceLT, Int.reduceEq, Int.reduceNe, Int.reduceAdd, Int.reduceSub, Int.reduceMul, Int.reduceNeg, Int.reduceToNat, Int.reduceNatCast, reduceCtorEq, eq_self, needH, mpGet_untold hn, tell, hn]
    refine awp_T (by simp (implicitDefEqProofs := false) only [↓reduceIte, go_sem, oread, owrite, Nat.reduceAdd, Nat.reduceSub, Nat.reduceMul, Nat.reduceLT, Nat.reduceLeDiff, Nat.reduceEqDiff, Nat.reduceBEq, Int.reduceLE, Int.reduceLT, Int.reduceEq, Int.reduceNe, Int.reduceAdd, Int.reduceSub, Int.reduceMul, Int.reduceNeg, Int.reduceToNat, Int.reduceNatCast, reduceCtorEq, eq_self]) ?_
    simp (implicitDefEqProofs := false) only [↓reduceIte, go_sem, oread, owrite, Nat.reduceAdd, Nat.reduceSub, Nat.reduceMul, Nat.reduceLT, Nat.reduceLeDiff, Nat.reduceEqDiff, Nat.reduceBEq, Int.reduceLE, Int.reduceLT, Int.reduceEq, Int.reduceNe, Int.reduceAdd, Int.reduceSub, Int.reduceMul, Int.reduceNeg, Int.reduceToNat, Int.reduceNatCast, reduceCtorEq, eq_self, mpPut_untold hn, ints_len, ints_snoc]
    exact ⟨by omega, by omega, _, Weak.refl _ _, rfl⟩
def encA (a : Int × Int) : List D := [.v (.int .i64 a.1), .v (.int .i64 a.2)]
def encJ (j : Int × D × D × D) : List D := [.v (.int .i64 j.1), j.2.1, j.2.2.1, j.2.2.2]
def need1 (cols : List Int) : List Int := cols.foldl tell []
def tellA (o : List Int) (a : Int × Int) : List Int := if a.1 = 1 then o else tell o a.2
def tellJ (o : List Int) (j : Int × D × D × D) : List Int := tell o j.1
def needS (cols : List Int) (aggs : List (Int × Int)) (joins : List (Int × D × D × D)) : List Int := joins.foldl tellJ (aggs.foldl tellA (cols.foldl tell []))
theorem foldl_le {α : Type} (f : List Int → α → List Int) (hf : ∀ o x, (f o x).length ≤ o.length + 1) : ∀ (l : List α) (o : List Int), (l.foldl f o).length ≤ o.length + l.length
  | [], o => by simp
  | x :: l, o => by
    have := foldl_le f hf l (f o x)
    have := hf o x
    simp only [List.foldl_cons, List.length_cons]; omega
theorem tell_le (o : List Int) (n : Int) : (tell o n).length ≤ o.length + 1 := by unfold tell; split <;> simp
theorem tellA_le (o : List Int) (a : Int × Int) : (tellA o a).length ≤ o.length + 1 := by unfold tellA; split; omega; exact tell_le _ _
theorem foldl_take {α β : Type} (f : β → α → β) (o : β) (l : List α) (k : Nat) (h : k < l.length) : (l.take (k + 1)).foldl f o = f ((l.take k).foldl f o) l[k] := by
  rw [List.take_succ_eq_append_getElem h, List.foldl_append]; rfl
set_option maxRecDepth 10000 in
set_option maxHeartbeats 1000000 in
theorem need_does (cols : List Int) (aggs : List (Int × Int)) (joins : List (Int × D × D × D)) (x0 x1 x4 x6 x7 : D) (n2 n3 n5 : Bool) (hc : cols.length ≤ 100000) (ha : aggs.length ≤ 100000) (hj : joins.length ≤ 100000) (H : AHeap) :
    Does Try.prog 17 [.agg [.d x0, .d x1, .d (.list n2 (joins.map encJ)), .d (.list n3 (ints cols)), .d x4, .d (.list n5 (aggs.map encA)), .d x6, .d x7]] H (.ok (.d (.list false (ints (needS cols aggs joins))))) H := by
  refine Does.of_awp (hint := (fun _ => false)) Try.func17 (by kernel_rfl) rfl [2] (by kernel_rfl) (by decide) (by simp [Try.ntmps17]) ?_
  rw [Try.ntmps17]
  simp (implicitDefEqProofs := false) only [↓reduceIte, go_sem, oread, owrite, Nat.reduceAdd, Nat.reduceSub, Nat.reduceMul, Nat.reduceLT, Nat.reduceLeDiff, Nat.reduceEqDiff, Nat.reduceBEq, Int.reduceLE, Int.reduceLT, Int.reduceEq, Int.reduceNe, Int.reduceAdd, Int.reduceSub, Int.reduceMul, Int.reduceNeg, Int.reduceToNat, Int.reduceNatCast, reduceCtorEq, eq_self]
  have hq : ∃ q, q = AObj.box 37 8 0 1 [.d x0, .d x1, .d (.list n2 (joins.map encJ)), .d (.list n3 (ints cols)), .d x4, .d (.list n5 (aggs.map encA)), .d x6, .d x7] := ⟨_, rfl⟩
  obtain ⟨q, hq⟩ := hq
  have hb : ∀ m, q.below m = true := by intro m; subst hq; simp (implicitDefEqProofs := false) only [↓reduceIte, go_sem, oread, owrite, Nat.reduceAdd, Nat.reduceSub, Nat.reduceMul, Nat.reduceLT, Nat.reduceLeDiff, Nat.reduceEqDiff, Nat.reduceBEq, Int.reduceLE, Int.reduceLT, Int.reduceEq, Int.reduceNe, Int.reduceAdd, Int.reduceSub, Int.reduceMul, Int.reduceNeg, Int.reduceToNat, Int.reduceNatCast, reduceCtorEq, eq_self]
  rw [← hq]
  have hW := fun s => Weak.virtBox (H0 := H) s (H ++ [q, .mp .i64 [], .box 51 1 0 1 [.mp (H.length + 1)], .box 27 1 0 1 [.d (.v (.slice none 0 0))]]) (H.length + 3) 27 1 0 1 [.d (.v (.slice none 0 0))] 0 (.d (.v (.slice none 0 0))) 3 1 (by decide) (by simp [app_get]) rfl rfl
  refine awp_for (fun k s H' => ∃ ver, H' = needH H q ((cols.take k).foldl tell []) ver [] ∧ s 1 = .ptr H.length 0 0 0 ∧ s 5 = .fn 27 [.ptr (H.length + 2) 0 0 0, .ptr (H.length + 3) 0 0 0] ∧ s 15 = .d (.list n3 (ints cols)) ∧ s 16 = iA cols.length ∧ s 17 = iA k ∧ s 4 = .ptr (H.length + 3) 0 0 0) cols.length (by omega) (hW _) ?_ ?_ ?_
  · refine ⟨0, ?_⟩
    simp (implicitDefEqProofs := false) only [↓reduceIte, go_sem, oread, owrite, Nat.reduceAdd, Nat.reduceSub, Nat.reduceMul, Nat.reduceLT, Nat.reduceLeDiff, Nat.reduceEqDiff, Nat.reduceBEq, Int.reduceLE, Int.reduceLT, Int.reduceEq, Int.reduceNe, Int.reduceAdd, Int.reduceSub, Int.reduceMul, Int.reduceNeg, Int.reduceToNat, Int.reduceNatCast, reduceCtorEq, eq_self, needH, toldM, ints_nil, ints_len]
    simp [ints]
  · rintro k s H' hk hw ⟨ver, rfl, h1, h5, h15, h16, h17, h4⟩
    simp (implicitDefEqProofs := false) only [↓reduceIte, go_sem, oread, owrite, Nat.reduceAdd, Nat.reduceSub, Nat.reduceMul, Nat.reduceLT, Nat.reduceLeDiff, Nat.reduceEqDiff, Nat.reduceBEq, Int.reduceLE, Int.reduceLT, Int.reduceEq, Int.reduceNe, Int.reduceAdd, Int.reduceSub, Int.reduceMul, Int.reduceNeg, Int.reduceToNat, Int.reduceNatCast, reduceCtorEq, eq_self, h1, h5, h15, h16, h17, h4, hk, ints_get cols k hk]
    have hl := foldl_le tell tell_le (cols.take k) []
    have hl2 := List.length_take_le k cols
    obtain ⟨ver', hd⟩ := put_does cols[k] ((cols.take k).foldl tell []) (by simp at hl; omega) H q ver []
    refine KCall.ok hd ?_
    simp (implicitDefEqProofs := false) only [↓reduceIte, go_sem, oread, owrite, Nat.reduceAdd, Nat.reduceSub, Nat.reduceMul, Nat.reduceLT, Nat.reduceLeDiff, Nat.reduceEqDiff, Nat.reduceBEq, Int.reduceLE, Int.reduceLT, Int.reduceEq, Int.reduceNe, Int.reduceAdd, Int.reduceSub, Int.reduceMul, Int.reduceNeg, Int.reduceToNat, Int.reduceNatCast, reduceCtorEq, eq_self, h1, h5, h15, h16, h17, h4]
    refine Rnd.same ⟨ver', ?_⟩
    simp (implicitDefEqProofs := false) only [↓reduceIte, go_sem, oread, owrite, Nat.reduceAdd, Nat.reduceSub, Nat.reduceMul, Nat.reduceLT, Nat.reduceLeDiff, Nat.reduceEqDiff, Nat.reduceBEq, Int.reduceLE, Int.reduceLT, Int.reduceEq, Int.reduceNe, Int.reduceAdd, Int.reduceSub, Int.reduceMul, Int.reduceNeg, Int.reduceToNat, Int.reduceNatCast, reduceCtorEq, eq_self, needH, h1, h5, h15, h16, h17, h4, foldl_take tell [] cols k hk, hw]
  · rintro s H' ⟨ver, rfl, h1, h5, h15, h16, h17, h4⟩
    generalize hl1 : (cols.take cols.length).foldl tell [] = l1
    have hn1 := foldl_le tell tell_le (cols.take cols.length) []
    rw [hl1] at hn1
    simp (implicitDefEqProofs := false) only [↓reduceIte, go_sem, oread, owrite, Nat.reduceAdd, Nat.reduceSub, Nat.reduceMul, Nat.reduceLT, Nat.reduceLeDiff, Nat.reduceEqDiff, Nat.reduceBEq, Int.reduceLE, Int.reduceLT, Int.reduceEq, Int.reduceNe, Int.reduceAdd, Int.reduceSub, Int.reduceMul, Int.reduceNeg, Int.reduceToNat, Int.reduceNatCast, reduceCtorEq, eq_self, h1, h5, h15, h16, h17, h4, needH, hq]
    rw [← hq]
    clear h15 h16 h17
    refine awp_for (fun k s H' => ∃ ver, H' = needH H q ((aggs.take k).foldl tellA l1) ver [] ∧ s 1 = .ptr H.length 0 0 0 ∧ s 5 = .fn 27 [.ptr (H.length + 2) 0 0 0, .ptr (H.length + 3) 0 0 0] ∧ s 26 = .d (.list n5 (aggs.map encA)) ∧ s 27 = iA aggs.length ∧ s 28 = iA k ∧ s 4 = .ptr (H.length + 3) 0 0 0) aggs.length (by omega) (Weak.refl _ _) ?_ ?_ ?_
    · refine ⟨ver, ?_⟩
      simp (implicitDefEqProofs := false) only [↓reduceIte, go_sem, oread, owrite, Nat.reduceAdd, Nat.reduceSub, Nat.reduceMul, Nat.reduceLT, Nat.reduceLeDiff, Nat.reduceEqDiff, Nat.reduceBEq, Int.reduceLE, Int.reduceLT, Int.reduceEq, Int.reduceNe, Int.reduceAdd, Int.reduceSub, Int.reduceMul, Int.reduceNeg, Int.reduceToNat, Int.reduceNatCast, reduceCtorEq, eq_self, needH, h1, h5, h4, List.foldl_nil]
    · rintro k s H' hk hw ⟨ver, rfl, h1, h5, h15, h16, h17, h4⟩
      have hx := List.getElem?_eq_getElem hk
      have hl := foldl_le tellA tellA_le (aggs.take k) l1
      have hl2 := List.length_take_le k aggs
      have hsn := foldl_take tellA l1 aggs k hk
      generalize aggs[k] = x at hx hsn
      simp (implicitDefEqProofs := false) only [↓reduceIte, go_sem, oread, owrite, Nat.reduceAdd, Nat.reduceSub, Nat.reduceMul, Nat.reduceLT, Nat.reduceLeDiff, Nat.reduceEqDiff, Nat.reduceBEq, Int.reduceLE, Int.reduceLT, Int.reduceEq, Int.reduceNe, Int.reduceAdd, Int.reduceSub, Int.reduceMul, Int.reduceNeg, Int.reduceToNat, Int.reduceNatCast, reduceCtorEq, eq_self, h1, h5, h15, h16, h17, h4, hk, hx, encA, needH]
      by_cases hop : x.1 = 1
      · refine awp_F (by simp (implicitDefEqProofs := false) only [↓reduceIte, go_sem, oread, owrite, Nat.reduceAdd, Nat.reduceSub, Nat.reduceMul, Nat.reduceLT, Nat.reduceLeDiff, Nat.reduceEqDiff, Nat.reduceBEq, Int.reduceLE, Int.reduceLT, Int.reduceEq, Int.reduceNe, Int.reduceAdd, Int.reduceSub, Int.reduceMul, Int.reduceNeg, Int.reduceToNat, Int.reduceNatCast, reduceCtorEq, eq_self, hop]) ?_
        simp (implicitDefEqProofs := false) only [↓reduceIte, go_sem, oread, owrite, Nat.reduceAdd, Nat.reduceSub, Nat.reduceMul, Nat.reduceLT, Nat.reduceLeDiff, Nat.reduceEqDiff, Nat.reduceBEq, Int.reduceLE, Int.reduceLT, Int.reduceEq, Int.reduceNe, Int.reduceAdd, Int.reduceSub, Int.reduceMul, Int.reduceNeg, Int.reduceToNat, Int.reduceNatCast, reduceCtorEq, eq_self, h1, h5, h15, h16, h17, h4, hx, encA]
        refine Rnd.cut [_, _, _, _, _] _ 5 rfl rfl (by simp (implicitDefEqProofs := false) only [↓reduceIte, go_sem, oread, owrite, Nat.reduceAdd, Nat.reduceSub, Nat.reduceMul, Nat.reduceLT, Nat.reduceLeDiff, Nat.reduceEqDiff, Nat.reduceBEq, Int.reduceLE, Int.reduceLT, Int.reduceEq, Int.reduceNe, Int.reduceAdd, Int.reduceSub, Int.reduceMul, Int.reduceNeg, Int.reduceToNat, Int.reduceNatCast, reduceCtorEq, eq_self, hb, toldM]; simp [below1_d]) ⟨ver, ?_⟩
        simp (implicitDefEqProofs := false) only [↓reduceIte, go_sem, oread, owrite, Nat.reduceAdd, Nat.reduceSub, Nat.reduceMul, Nat.reduceLT, Nat.reduceLeDiff, Nat.reduceEqDiff, Nat.reduceBEq, Int.reduceLE, Int.reduceLT, Int.reduceEq, Int.reduceNe, Int.reduceAdd, Int.reduceSub, Int.reduceMul, Int.reduceNeg, Int.reduceToNat, Int.reduceNatCast, reduceCtorEq, eq_self, needH, h1, h5, h15, h16, h17, h4, hsn, tellA, hop, hw]
      · refine awp_T (by simp (implicitDefEqProofs := false) only [↓reduceIte, go_sem, oread, owrite, Nat.reduceAdd, Nat.reduceSub, Nat.reduceMul, Nat.reduceLT, Nat.reduceLeDiff, Nat.reduceEqDiff, Nat.reduceBEq, Int.reduceLE, Int.reduceLT, Int.reduceEq, Int.reduceNe, Int.reduceAdd, Int.reduceSub, Int.reduceMul, Int.reduceNeg, Int.reduceToNat, Int.reduceNatCast, reduceCtorEq, eq_self, hop]) ?_
        simp (implicitDefEqProofs := false) only [↓reduceIte, go_sem, oread, owrite, Nat.reduceAdd, Nat.reduceSub, Nat.reduceMul, Nat.reduceLT, Nat.reduceLeDiff, Nat.reduceEqDiff, Nat.reduceBEq, Int.reduceLE, Int.reduceLT, Int.reduceEq, Int.reduceNe, Int.reduceAdd, Int.reduceSub, Int.reduceMul, Int.reduceNeg, Int.reduceToNat, Int.reduceNatCast, reduceCtorEq, eq_self, h1, h5, h15, h16, h17, h4, hx, encA]
        obtain ⟨ver', hd⟩ := put_does x.2 ((aggs.take k).foldl tellA l1) (by simp at hl hn1; omega) H q ver [.box 54 2 0 1 [iA x.1, iA x.2]]
        refine KCall.ok hd ?_
        simp (implicitDefEqProofs := false) only [↓reduceIte, go_sem, oread, owrite, Nat.reduceAdd, Nat.reduceSub, Nat.reduceMul, Nat.reduceLT, Nat.reduceLeDiff, Nat.reduceEqDiff, Nat.reduceBEq, Int.reduceLE, Int.reduceLT, Int.reduceEq, Int.reduceNe, Int.reduceAdd, Int.reduceSub, Int.reduceMul, Int.reduceNeg, Int.reduceToNat, Int.reduceNatCast, reduceCtorEq, eq_self, h1, h5, h15, h16, h17, h4, needH]
        refine Rnd.cut [_, _, _, _, _] _ 5 rfl rfl (by simp (implicitDefEqProofs := false) only [↓reduceIte, go_sem, oread, owrite, Nat.reduceAdd, Nat.reduceSub, Nat.reduceMul, Nat.reduceLT, Nat.reduceLeDiff, Nat.reduceEqDiff, Nat.reduceBEq, Int.reduceLE, Int.reduceLT, Int.reduceEq, Int.reduceNe, Int.reduceAdd, Int.reduceSub, Int.reduceMul, Int.reduceNeg, Int.reduceToNat, Int.reduceNatCast, reduceCtorEq, eq_self, hb, toldM]; simp [below1_d]) ⟨ver', ?_⟩
        simp (implicitDefEqProofs := false) only [↓reduceIte, go_sem, oread, owrite, Nat.reduceAdd, Nat.reduceSub, Nat.reduceMul, Nat.reduceLT, Nat.reduceLeDiff, Nat.reduceEqDiff, Nat.reduceBEq, Int.reduceLE, Int.reduceLT, Int.reduceEq, Int.reduceNe, Int.reduceAdd, Int.reduceSub, Int.reduceMul, Int.reduceNeg, Int.reduceToNat, Int.reduceNatCast, reduceCtorEq, eq_self, needH, h1, h5, h15, h16, h17, h4, hsn, tellA, hop, hw]
    · rintro s H' ⟨ver, rfl, h1, h5, h15, h16, h17, h4⟩
      generalize hl2 : (aggs.take aggs.length).foldl tellA l1 = l2
      have hn2 := foldl_le tellA tellA_le (aggs.take aggs.length) l1
      rw [hl2] at hn2
      simp (implicitDefEqProofs := false) only [↓reduceIte, go_sem, oread, owrite, Nat.reduceAdd, Nat.reduceSub, Nat.reduceMul, Nat.reduceLT, Nat.reduceLeDiff, Nat.reduceEqDiff, Nat.reduceBEq, Int.reduceLE, Int.reduceLT, Int.reduceEq, Int.reduceNe, Int.reduceAdd, Int.reduceSub, Int.reduceMul, Int.reduceNeg, Int.reduceToNat, Int.reduceNatCast, reduceCtorEq, eq_self, h1, h5, h15, h16, h17, h4, needH, hq]
      rw [← hq]
      clear h15 h16 h17
      refine awp_for (fun k s H' => ∃ ver, H' = needH H q ((joins.take k).foldl tellJ l2) ver [] ∧ s 1 = .ptr H.length 0 0 0 ∧ s 5 = .fn 27 [.ptr (H.length + 2) 0 0 0, .ptr (H.length + 3) 0 0 0] ∧ s 41 = .d (.list n2 (joins.map encJ)) ∧ s 42 = iA joins.length ∧ s 43 = iA k ∧ s 4 = .ptr (H.length + 3) 0 0 0) joins.length (by omega) (Weak.refl _ _) ?_ ?_ ?_
      · refine ⟨ver, ?_⟩
        simp (implicitDefEqProofs := false) only [↓reduceIte, go_sem, oread, owrite, Nat.reduceAdd, Nat.reduceSub, Nat.reduceMul, Nat.reduceLT, Nat.reduceLeDiff, Nat.reduceEqDiff, Nat.reduceBEq, Int.reduceLE, Int.reduceLT, Int.reduceEq, Int.reduceNe, Int.reduceAdd, Int.reduceSub, Int.reduceMul, Int.reduceNeg, Int.reduceToNat, Int.reduceNatCast, reduceCtorEq, eq_self, needH, h1, h5, h4, List.foldl_nil]
      · rintro k s H' hk hw ⟨ver, rfl, h1, h5, h15, h16, h17, h4⟩
        have hx := List.getElem?_eq_getElem hk
        have hl := foldl_le tellJ (fun o j => tell_le o _) (joins.take k) l2
        have hl2 := List.length_take_le k joins
        have hsn := foldl_take tellJ l2 joins k hk
        generalize joins[k] = x at hx hsn
        simp (implicitDefEqProofs := false) only [↓reduceIte, go_sem, oread, owrite, Nat.reduceAdd, Nat.reduceSub, Nat.reduceMul, Nat.reduceLT, Nat.reduceLeDiff, Nat.reduceEqDiff, Nat.reduceBEq, Int.reduceLE, Int.reduceLT, Int.reduceEq, Int.reduceNe, Int.reduceAdd, Int.reduceSub, Int.reduceMul, Int.reduceNeg, Int.reduceToNat, Int.reduceNatCast, reduceCtorEq, eq_self, h1, h5, h15, h16, h17, h4, hk, hx, encJ, needH]
        obtain ⟨ver', hd⟩ := put_does x.1 ((joins.take k).foldl tellJ l2) (by simp at hl hn1 hn2; omega) H q ver [.box 41 4 0 1 [iA x.1, .d x.2.1, .d x.2.2.1, .d x.2.2.2]]
        refine KCall.ok hd ?_
        simp (implicitDefEqProofs := false) only [↓reduceIte, go_sem, oread, owrite, Nat.reduceAdd, Nat.reduceSub, Nat.reduceMul, Nat.reduceLT, Nat.reduceLeDiff, Nat.reduceEqDiff, Nat.reduceBEq, Int.reduceLE, Int.reduceLT, Int.reduceEq, Int.reduceNe, Int.reduceAdd, Int.reduceSub, Int.reduceMul, Int.reduceNeg, Int.reduceToNat, Int.reduceNatCast, reduceCtorEq, eq_self, h1, h5, h15, h16, h17, h4, needH]
        refine Rnd.cut [_, _, _, _, _] _ 5 rfl rfl (by simp (implicitDefEqProofs := false) only [↓reduceIte, go_sem, oread, owrite, Nat.reduceAdd, Nat.reduceSub, Nat.reduceMul, Nat.reduceLT, Nat.reduceLeDiff, Nat.reduceEqDiff, Nat.reduceBEq, Int.reduceLE, Int.reduceLT, Int.reduceEq, Int.reduceNe, Int.reduceAdd, Int.reduceSub, Int.reduceMul, Int.reduceNeg, Int.reduceToNat, Int.reduceNatCast, reduceCtorEq, eq_self, hb, toldM]; simp [below1_d]) ⟨ver', ?_⟩
        simp (implicitDefEqProofs := false) only [↓reduceIte, go_sem, oread, owrite, Nat.reduceAdd, Nat.reduceSub, Nat.reduceMul, Nat.reduceLT, Nat.reduceLeDiff, Nat.reduceEqDiff, Nat.reduceBEq, Int.reduceLE, Int.reduceLT, Int.reduceEq, Int.reduceNe, Int.reduceAdd, Int.reduceSub, Int.reduceMul, Int.reduceNeg, Int.reduceToNat, Int.reduceNatCast, reduceCtorEq, eq_self, needH, h1, h5, h15, h16, h17, h4, hsn, tellJ, hw]
      · rintro s H' ⟨ver, rfl, h1, h5, h15, h16, h17, h4⟩
        simp (implicitDefEqProofs := false) only [↓reduceIte, go_sem, oread, owrite, Nat.reduceAdd, Nat.reduceSub, Nat.reduceMul, Nat.reduceLT, Nat.reduceLeDiff, Nat.reduceEqDiff, Nat.reduceBEq, Int.reduceLE, Int.reduceLT, Int.reduceEq, Int.reduceNe, Int.reduceAdd, Int.reduceSub, Int.reduceMul, Int.reduceNeg, Int.reduceToNat, Int.reduceNatCast, reduceCtorEq, eq_self, h1, h5, h15, h16, h17, h4, needH]
        refine AEnd.ret ?_
        simp (implicitDefEqProofs := false) only [↓reduceIte, go_sem, oread, owrite, Nat.reduceAdd, Nat.reduceSub, Nat.reduceMul, Nat.reduceLT, Nat.reduceLeDiff, Nat.reduceEqDiff, Nat.reduceBEq, Int.reduceLE, Int.reduceLT, Int.reduceEq, Int.reduceNe, Int.reduceAdd, Int.reduceSub, Int.reduceMul, Int.reduceNeg, Int.reduceToNat, Int.reduceNatCast, reduceCtorEq, eq_self]
        rw [← hl2, ← hl1] 
        simp [needS, take_len, ints_len]
end Go.Proofs.Ytfjdggcemfebpaa

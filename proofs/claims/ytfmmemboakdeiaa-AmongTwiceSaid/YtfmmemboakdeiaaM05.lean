/- slices' symMerge over Val: what it does. slices' symMerge over Val, the general case: what it does. Blocks that are sorted one by one. slices.SortStableFunc over Val: what it does. slices.CompactFunc over Val: what it does. among.Keys: what it does. slices.IndexFunc, ContainsFunc with a closure; among.In, Within; the document's: what they do. The document's In, Within, Same (layer 19): what they do. Arguments of the laws, as Lean's data. among.Spans: what it does. The document's Keys, Spans, Filter (layer 19), among.Filter: what they do. slices.Clone over Val: what it does. -/
import Derived.Test.YtfmmemboakdeiaaM04
namespace Go.Proofs.Ytfmmemboakdeiaa
open Go.Proofs.YtfmmemboakdeiaaAw Go.RowKit
set_option linter.unusedVariables false
set_option linter.unusedSimpArgs false
namespace SV
theorem half_eq (n : Nat) (h : n ≤ 2000000000000) : IntKind.i64.wrap (shrI .u64 (IntKind.u64.wrap (n : Int)) 1) = ((n / 2 : Nat) : Int) := by
  rw [wrapU64N n (by omega)]
  have := shrU n 1 (by decide)
  rw [show ((1 : Nat) : Int) = 1 from rfl] at this
  rw [this]
  exact wrapI _ (by omega)
theorem swap_next {L P R : List Val} {x y : Val} (h : L = P ++ x :: y :: R) {i : Nat} (hi : P.length = i) : L[i]? = some x ∧ L[i + 1]? = some y ∧ (L.set i y)[i + 1]? = some y ∧ (L.set (i + 1) x)[i]? = some x ∧ (L.set i y).set (i + 1) x = P ++ y :: x :: R ∧ (L.set (i + 1) x).set i y = P ++ y :: x :: R := by
  subst h hi
  have e : P ++ x :: y :: R = (P ++ [x]) ++ y :: R := by simp
  have e2 : ∀ z : Val, P ++ z :: y :: R = (P ++ [z]) ++ y :: R := by simp
  have h1 : ∀ z : Val, (P ++ [z]).length = P.length + 1 := by simp
  refine ⟨get_at rfl, by rw [e]; exact get_at (h1 x), ?_, ?_, ?_, ?_⟩
  · rw [set_at rfl, e2]; exact get_at (h1 y)
  · rw [e, set_at (h1 x)]
    have : P ++ [x] ++ x :: R = P ++ x :: (x :: R) := by simp
    rw [this]; exact get_at rfl
  · rw [set_at rfl, e2, set_at (h1 y)]; simp
  · rw [e, set_at (h1 x)]
    have : P ++ [x] ++ x :: R = P ++ x :: (x :: R) := by simp
    rw [this, set_at rfl]
theorem memX {P X Y Q L : List Val} {a : Nat} (hL : L = P ++ X ++ Y ++ Q) (ha : P.length = a) : ∀ i x, X[i]? = some x → L[a + i]? = some x := fun i x hx => by
  have := (List.getElem?_eq_some_iff.1 hx).1
  rw [hL, List.append_assoc, List.append_assoc, ← ha, List.getElem?_append_right (by omega), List.getElem?_append_left (by omega), Nat.add_sub_cancel_left]
  exact hx
theorem memY {P X Y Q L : List Val} {m : Nat} (hL : L = P ++ X ++ Y ++ Q) (hm : P.length + X.length = m) : ∀ i y, Y[i]? = some y → L[m + i]? = some y := fun i y hy => by
  have := (List.getElem?_eq_some_iff.1 hy).1
  rw [hL, List.append_assoc (P ++ X), ← hm, List.getElem?_append_right (by simp), List.getElem?_append_left (by simp; omega)]
  simpa [Nat.add_sub_cancel_left] using hy
set_option maxRecDepth 10000 in
set_option maxHeartbeats 4000000 in
theorem sym1_does (H : AHeap) (id ver : Nat) (hid : id < H.length) (g : FuncId) (caps : List AV) (c : Val → Val → Int) (ho : St.Ord (ltC c)) (hc : CmpOk g caps c H id) (n : Nat) (hbig : n ≤ 1000000000000) (P X Y Q L L' : List Val) (a m b : Nat)
    (hL : L = P ++ X ++ Y ++ Q) (hL' : L' = P ++ St.sortS (ltC c) (X ++ Y) ++ Q) (ha : P.length = a) (hm : P.length + X.length = m) (hb : P.length + X.length + Y.length = b) (hX0 : 0 < X.length) (hY0 : 0 < Y.length) (hX : St.Sorted (ltC c) X) (hY : St.Sorted (ltC c) Y) (hn : L.length = n) (h1 : X.length = 1) :
    Does Try.prog 65 [.sl id ver 0 n, iA a, iA m, iA b, .fn g caps] (aH H id ver L) (.ok (.tup [])) (aH H id ver L') := by
  have hnl : P.length + X.length + Y.length + Q.length = n := by rw [← hn, hL]; simp; omega
  have w1 : IntKind.i64.wrap ((m : Int) - (a : Int)) = ((X.length : Nat) : Int) := by rw [wrap64_in _ (by omega) (by omega)]; omega
  have w2 : IntKind.i64.wrap ((b : Int) - (m : Int)) = ((Y.length : Nat) : Int) := by rw [wrap64_in _ (by omega) (by omega)]; omega
  have hLX := memX hL ha
  have hLY := memY hL hm
  generalize hE0 : aH H id ver L = E0
  have gh := aH_get hid ver L
  rw [hE0] at gh
  have hcE : ∀ x y : Val, Does Try.prog g ([.agg (x.enc.map .d), .agg (y.enc.map .d)] ++ caps) E0 (.ok (iA (c x y))) E0 := fun x y => by rw [← hE0]; exact hc.at ver L x y
  refine Does.of_awp (hint := (fun _ => false)) Try.func65 (by kernel_rfl) rfl [] (by kernel_rfl) (by decide) (by simp [Try.ntmps65]) ?_
  rw [Try.ntmps65]
  obtain ⟨x, rfl⟩ : ∃ x, X = [x] := List.length_eq_one_iff.1 h1
  simp (implicitDefEqProofs := false) only [↓reduceIte, go_sem, oread, owrite, Nat.reduceAdd, Nat.reduceSub, Nat.reduceMul, Nat.reduceLT, Nat.reduceLeDiff, Nat.reduceEqDiff, Nat.reduceBEq, Int.reduceLE, Int.reduceLT, Int.reduceEq, Int.reduceNe, Int.reduceAdd, Int.reduceSub, Int.reduceMul, Int.reduceNeg, Int.reduceToNat, Int.reduceNatCast, reduceCtorEq, eq_self, w1, h1, List.length_singleton]
  refine awp_loop _ _ _ _ (fun (z : Nat × Nat) s H' => H' = E0 ∧ z.1 ≤ z.2 ∧ z.2 ≤ Y.length ∧ (z.1 = 0 ∨ ∃ y, Y[z.1 - 1]? = some y ∧ ltC c y x = true) ∧ (z.2 = Y.length ∨ ∃ y, Y[z.2]? = some y ∧ ltC c y x = false) ∧
    s 0 = .sl id ver 0 n ∧ s 1 = iA a ∧ s 4 = .fn g caps ∧ s 10 = iA ((m + z.1 : Nat) : Int) ∧ s 11 = iA ((m + z.2 : Nat) : Int)) (fun z => z.2 - z.1) (0, Y.length) (Weak.refl _ _) ?_ ?_
  · refine ⟨rfl, Nat.zero_le _, Nat.le_refl _, .inl rfl, .inl rfl, ?_⟩
    simp (implicitDefEqProofs := false) only [↓reduceIte, go_sem, oread, owrite, Nat.reduceAdd, Nat.reduceSub, Nat.reduceMul, Nat.reduceLT, Nat.reduceLeDiff, Nat.reduceEqDiff, Nat.reduceBEq, Int.reduceLE, Int.reduceLT, Int.reduceEq, Int.reduceNe, Int.reduceAdd, Int.reduceSub, Int.reduceMul, Int.reduceNeg, Int.reduceToNat, Int.reduceNatCast, reduceCtorEq, eq_self, show m + Y.length = b by omega, Nat.add_zero]
  · rintro ⟨i, j⟩ s H' ⟨rfl, hij, hj, hlo, hhi, t0, t1, t4, t10, t11⟩
    simp only at hij hj hlo hhi t10 t11
    obtain ⟨i', hi'⟩ : ∃ i', i' = m + i := ⟨_, rfl⟩
    obtain ⟨j', hj'⟩ : ∃ j', j' = m + j := ⟨_, rfl⟩
    rw [← hi'] at t10
    rw [← hj'] at t11
    have f1 : ((m : Int) + (i : Int)) = (i' : Int) := by omega
    have f2 : ((m : Int) + (j : Int)) = (j' : Int) := by omega
    by_cases hlt : i < j
    · obtain ⟨q, hq⟩ : ∃ q, q = i' + j' := ⟨_, rfl⟩
      have w3 : IntKind.i64.wrap ((i' : Int) + (j' : Int)) = (q : Int) := by rw [wrap64_in _ (by omega) (by omega)]; omega
      have w4 := half_eq q (by omega)
      obtain ⟨h, hh⟩ : ∃ h, h = q / 2 := ⟨_, rfl⟩
      rw [← hh] at w4
      obtain ⟨y, hy⟩ : ∃ y, Y[h - m]? = some y := ⟨_, List.getElem?_eq_getElem (show h - m < Y.length by omega)⟩
      have gy := get_enc (hLY _ _ hy)
      rw [show m + (h - m) = h by omega] at gy
      have gx := get_enc (hLX 0 x rfl)
      rw [Nat.add_zero] at gx
      have hd := hcE y x
      simp only [Val.enc] at gx gy
      simp only [Val.enc, List.map_cons, List.map_nil] at hd
      have hln : h < n := by omega
      have han : a < n := by omega
      simp (implicitDefEqProofs := false) only [↓reduceIte, go_sem, oread, owrite, Nat.reduceAdd, Nat.reduceSub, Nat.reduceMul, Nat.reduceLT, Nat.reduceLeDiff, Nat.reduceEqDiff, Nat.reduceBEq, Int.reduceLE, Int.reduceLT, Int.reduceEq, Int.reduceNe, Int.reduceAdd, Int.reduceSub, Int.reduceMul, Int.reduceNeg, Int.reduceToNat, Int.reduceNatCast, reduceCtorEq, eq_self, t10, t11, show ((i' : Int) < (j' : Int)) = True from eq_true (by omega), w3, w4]
      refine awp_draw K.mixed (by kernel_rfl) ?_
      simp (implicitDefEqProofs := false) only [↓reduceIte, go_sem, oread, owrite, Nat.reduceAdd, Nat.reduceSub, Nat.reduceMul, Nat.reduceLT, Nat.reduceLeDiff, Nat.reduceEqDiff, Nat.reduceBEq, Int.reduceLE, Int.reduceLT, Int.reduceEq, Int.reduceNe, Int.reduceAdd, Int.reduceSub, Int.reduceMul, Int.reduceNeg, Int.reduceToNat, Int.reduceNatCast, reduceCtorEq, eq_self, t0, t1, t4, gh, gx, gy, hln, han]
      refine KCall.ok hd ?_
      by_cases hcc : c y x < 0
      · have hw5 : IntKind.i64.wrap ((h : Int) + 1) = ((m + (h - m + 1) : Nat) : Int) := by rw [wrap64_in _ (by omega) (by omega)]; omega
        obtain ⟨h2, hh2⟩ : ∃ h2, h2 = m + (h - m + 1) := ⟨_, rfl⟩
        rw [← hh2] at hw5
        simp (implicitDefEqProofs := false) only [↓reduceIte, go_sem, oread, owrite, Nat.reduceAdd, Nat.reduceSub, Nat.reduceMul, Nat.reduceLT, Nat.reduceLeDiff, Nat.reduceEqDiff, Nat.reduceBEq, Int.reduceLE, Int.reduceLT, Int.reduceEq, Int.reduceNe, Int.reduceAdd, Int.reduceSub, Int.reduceMul, Int.reduceNeg, Int.reduceToNat, Int.reduceNatCast, reduceCtorEq, eq_self, hcc, hw5]
        refine ⟨_, _, (h - m + 1, j), Weak.refl _ _, ⟨rfl, by simp only; omega, hj, .inr ⟨y, by simpa using hy, by simp [ltC, hcc]⟩, hhi, ?_⟩, by simp only; omega⟩
        simp (implicitDefEqProofs := false) only [↓reduceIte, go_sem, oread, owrite, Nat.reduceAdd, Nat.reduceSub, Nat.reduceMul, Nat.reduceLT, Nat.reduceLeDiff, Nat.reduceEqDiff, Nat.reduceBEq, Int.reduceLE, Int.reduceLT, Int.reduceEq, Int.reduceNe, Int.reduceAdd, Int.reduceSub, Int.reduceMul, Int.reduceNeg, Int.reduceToNat, Int.reduceNatCast, reduceCtorEq, eq_self, t0, t1, t4, t11, show ((m : Int) + (((h - m : Nat) : Int) + 1)) = (h2 : Int) by omega, f2]
      · simp (implicitDefEqProofs := false) only [↓reduceIte, go_sem, oread, owrite, Nat.reduceAdd, Nat.reduceSub, Nat.reduceMul, Nat.reduceLT, Nat.reduceLeDiff, Nat.reduceEqDiff, Nat.reduceBEq, Int.reduceLE, Int.reduceLT, Int.reduceEq, Int.reduceNe, Int.reduceAdd, Int.reduceSub, Int.reduceMul, Int.reduceNeg, Int.reduceToNat, Int.reduceNatCast, reduceCtorEq, eq_self, hcc]
        refine ⟨_, _, (i, h - m), Weak.refl _ _, ⟨rfl, by simp only; omega, by simp only; omega, hlo, .inr ⟨y, hy, by simp [ltC, hcc]⟩, ?_⟩, by simp only; omega⟩
        simp (implicitDefEqProofs := false) only [↓reduceIte, go_sem, oread, owrite, Nat.reduceAdd, Nat.reduceSub, Nat.reduceMul, Nat.reduceLT, Nat.reduceLeDiff, Nat.reduceEqDiff, Nat.reduceBEq, Int.reduceLE, Int.reduceLT, Int.reduceEq, Int.reduceNe, Int.reduceAdd, Int.reduceSub, Int.reduceMul, Int.reduceNeg, Int.reduceToNat, Int.reduceNatCast, reduceCtorEq, eq_self, t0, t1, t4, t10, show ((m : Int) + ((h - m : Nat) : Int)) = (h : Int) by omega, f1]
    · obtain rfl : j = i := by omega
      have hmg := St.merge_one ho hY hj hlo hhi
      have hw6 : IntKind.i64.wrap ((i' : Int) - 1) = (i' : Int) - 1 := wrap64_in _ (by omega) (by omega)
      simp (implicitDefEqProofs := false) only [↓reduceIte, go_sem, oread, owrite, Nat.reduceAdd, Nat.reduceSub, Nat.reduceMul, Nat.reduceLT, Nat.reduceLeDiff, Nat.reduceEqDiff, Nat.reduceBEq, Int.reduceLE, Int.reduceLT, Int.reduceEq, Int.reduceNe, Int.reduceAdd, Int.reduceSub, Int.reduceMul, Int.reduceNeg, Int.reduceToNat, Int.reduceNatCast, reduceCtorEq, eq_self, t10, t11, show ((i' : Int) < (j' : Int)) = False from eq_false (by omega), t1]
      refine awp_for3 (fun k s H' => (∃ Lk, H' = aH H id ver Lk ∧ Lk = P ++ Y.take k ++ x :: (Y.drop k ++ Q)) ∧ s 0 = .sl id ver 0 n ∧ s 10 = iA i' ∧ s 13 = iA ((a : Int) + (k : Int))) j (by omega) (Weak.refl _ _) ?_ ?_ ?_
      · refine ⟨⟨L, hE0.symm, by rw [hL]; simp⟩, ?_⟩
        simp (implicitDefEqProofs := false) only [↓reduceIte, go_sem, oread, owrite, Nat.reduceAdd, Nat.reduceSub, Nat.reduceMul, Nat.reduceLT, Nat.reduceLeDiff, Nat.reduceEqDiff, Nat.reduceBEq, Int.reduceLE, Int.reduceLT, Int.reduceEq, Int.reduceNe, Int.reduceAdd, Int.reduceSub, Int.reduceMul, Int.reduceNeg, Int.reduceToNat, Int.reduceNatCast, reduceCtorEq, eq_self, t0, t10, Int.add_zero]
      · rintro k s H' hk hw ⟨⟨Lk, rfl, hLk⟩, t0, t10, t13⟩
        have hkY : k < Y.length := by omega
        have e1 : Y.drop k = Y[k] :: Y.drop (k + 1) := List.drop_eq_getElem_cons hkY
        have e2 : Y.take (k + 1) = Y.take k ++ [Y[k]] := List.take_succ_eq_append_getElem hkY
        rw [e1] at hLk
        rw [e2]
        have l1 : (P ++ Y.take k).length = a + k := by simp; omega
        generalize Y[k] = y at *
        generalize Y.drop (k + 1) = Y1 at *
        generalize Y.take k = Y0 at *
        obtain ⟨u, hu⟩ : ∃ u, u = a + k := ⟨_, rfl⟩
        obtain ⟨v, hv⟩ : ∃ v, v = u + 1 := ⟨_, rfl⟩
        rw [← hu] at l1
        obtain ⟨g1, g2, g3, _, g5, _⟩ := swap_next (L := Lk) (P := P ++ Y0) (x := x) (y := y) (R := Y1 ++ Q) (by rw [hLk]; simp) l1
        rw [← hv] at g2 g3 g5
        have f3 : ((a : Int) + (k : Int)) = (u : Int) := by omega
        have hw7 : IntKind.i64.wrap ((u : Int) + 1) = (v : Int) := by rw [wrap64_in _ (by omega) (by omega)]; omega
        rw [f3] at t13
        have gg := aH_get hid ver Lk
        have q1 := get_enc g1
        have q2 := get_enc g2
        have q3 := get_enc g3
        have s1 := set_enc Lk u y
        have s2 := set_enc (Lk.set u y) v x
        rw [g5] at s2
        have hun : u < n := by omega
        have hvn : v < n := by omega
        simp only [Val.enc] at q1 q2 q3 s1 s2
        simp (implicitDefEqProofs := false) only [↓reduceIte, go_sem, oread, owrite, Nat.reduceAdd, Nat.reduceSub, Nat.reduceMul, Nat.reduceLT, Nat.reduceLeDiff, Nat.reduceEqDiff, Nat.reduceBEq, Int.reduceLE, Int.reduceLT, Int.reduceEq, Int.reduceNe, Int.reduceAdd, Int.reduceSub, Int.reduceMul, Int.reduceNeg, Int.reduceToNat, Int.reduceNatCast, reduceCtorEq, eq_self, t10, t13, hw6, show ((u : Int) < (i' : Int) - 1) = True from eq_true (by omega)]
        refine awp_drawN [false, false, false, false, false, false, false, false, false, false, false, false, false, false, true, true, true, true] 14 K.mixed (by kernel_rfl) (by kernel_rfl) (by kernel_rfl) ?_
        simp (implicitDefEqProofs := false) only [↓reduceIte, go_sem, oread, owrite, Nat.reduceAdd, Nat.reduceSub, Nat.reduceMul, Nat.reduceLT, Nat.reduceLeDiff, Nat.reduceEqDiff, Nat.reduceBEq, Int.reduceLE, Int.reduceLT, Int.reduceEq, Int.reduceNe, Int.reduceAdd, Int.reduceSub, Int.reduceMul, Int.reduceNeg, Int.reduceToNat, Int.reduceNatCast, reduceCtorEq, eq_self, t0, t13, hw7, hun, hvn, gg, q1, q2, q3, s1, s2, aH_set, aH_get hid, hid, List.getElem?_set_self, List.set_set]
        refine Rnd.same ⟨⟨_, by rw [← aH_fold], by simp⟩, ?_⟩
        simp (implicitDefEqProofs := false) only [↓reduceIte, go_sem, oread, owrite, Nat.reduceAdd, Nat.reduceSub, Nat.reduceMul, Nat.reduceLT, Nat.reduceLeDiff, Nat.reduceEqDiff, Nat.reduceBEq, Int.reduceLE, Int.reduceLT, Int.reduceEq, Int.reduceNe, Int.reduceAdd, Int.reduceSub, Int.reduceMul, Int.reduceNeg, Int.reduceToNat, Int.reduceNatCast, reduceCtorEq, eq_self, t0, t10, show ((a : Int) + ((k : Int) + 1)) = (v : Int) by omega]
      · rintro s H' ⟨⟨Lk, rfl, hLk⟩, t0, t10, t13⟩
        simp (implicitDefEqProofs := false) only [↓reduceIte, go_sem, oread, owrite, Nat.reduceAdd, Nat.reduceSub, Nat.reduceMul, Nat.reduceLT, Nat.reduceLeDiff, Nat.reduceEqDiff, Nat.reduceBEq, Int.reduceLE, Int.reduceLT, Int.reduceEq, Int.reduceNe, Int.reduceAdd, Int.reduceSub, Int.reduceMul, Int.reduceNeg, Int.reduceToNat, Int.reduceNatCast, reduceCtorEq, eq_self, t10, t13, hw6, show ((a : Int) + (j : Int) < (i' : Int) - 1) = False from eq_false (by omega)]
        have : Lk = L' := by rw [hLk, hL', List.singleton_append, ← hmg]; simp
        rw [this]
        exact ⟨_, Weak.refl _ _, rfl⟩
set_option maxRecDepth 10000 in
set_option maxHeartbeats 4000000 in
theorem sym2_does (H : AHeap) (id ver : Nat) (hid : id < H.length) (g : FuncId) (caps : List AV) (c : Val → Val → Int) (ho : St.Ord (ltC c)) (hc : CmpOk g caps c H id) (n : Nat) (hbig : n ≤ 1000000000000) (P X Y Q L L' : List Val) (a m b : Nat)
    (hL : L = P ++ X ++ Y ++ Q) (hL' : L' = P ++ St.sortS (ltC c) (X ++ Y) ++ Q) (ha : P.length = a) (hm : P.length + X.length = m) (hb : P.length + X.length + Y.length = b) (hX0 : 0 < X.length) (hY0 : 0 < Y.length) (hX : St.Sorted (ltC c) X) (hY : St.Sorted (ltC c) Y) (hn : L.length = n) (h1 : ¬ X.length = 1) (h2 : Y.length = 1) :
    Does Try.prog 65 [.sl id ver 0 n, iA a, iA m, iA b, .fn g caps] (aH H id ver L) (.ok (.tup [])) (aH H id ver L') := by
  have hnl : P.length + X.length + Y.length + Q.length = n := by rw [← hn, hL]; simp; omega
  have w1 : IntKind.i64.wrap ((m : Int) - (a : Int)) = ((X.length : Nat) : Int) := by rw [wrap64_in _ (by omega) (by omega)]; omega
  have w2 : IntKind.i64.wrap ((b : Int) - (m : Int)) = ((Y.length : Nat) : Int) := by rw [wrap64_in _ (by omega) (by omega)]; omega
  have hLX := memX hL ha
  have hLY := memY hL hm
  generalize hE0 : aH H id ver L = E0
  have gh := aH_get hid ver L
  rw [hE0] at gh
  have hcE : ∀ x y : Val, Does Try.prog g ([.agg (x.enc.map .d), .agg (y.enc.map .d)] ++ caps) E0 (.ok (iA (c x y))) E0 := fun x y => by rw [← hE0]; exact hc.at ver L x y
  refine Does.of_awp (hint := (fun _ => false)) Try.func65 (by kernel_rfl) rfl [] (by kernel_rfl) (by decide) (by simp [Try.ntmps65]) ?_
  rw [Try.ntmps65]
  obtain ⟨y, rfl⟩ : ∃ y, Y = [y] := List.length_eq_one_iff.1 h2
  simp (implicitDefEqProofs := false) only [↓reduceIte, go_sem, oread, owrite, Nat.reduceAdd, Nat.reduceSub, Nat.reduceMul, Nat.reduceLT, Nat.reduceLeDiff, Nat.reduceEqDiff, Nat.reduceBEq, Int.reduceLE, Int.reduceLT, Int.reduceEq, Int.reduceNe, Int.reduceAdd, Int.reduceSub, Int.reduceMul, Int.reduceNeg, Int.reduceToNat, Int.reduceNatCast, reduceCtorEq, eq_self, w1, w2, show (((X.length : Nat) : Int) = 1) = False from eq_false (by omega), h2, List.length_singleton]
  refine awp_loop _ _ _ _ (fun (z : Nat × Nat) s H' => H' = E0 ∧ z.1 ≤ z.2 ∧ z.2 ≤ X.length ∧ (z.1 = 0 ∨ ∃ x, X[z.1 - 1]? = some x ∧ ltC c y x = false) ∧ (z.2 = X.length ∨ ∃ x, X[z.2]? = some x ∧ ltC c y x = true) ∧
    s 0 = .sl id ver 0 n ∧ s 2 = iA m ∧ s 4 = .fn g caps ∧ s 14 = iA ((a + z.1 : Nat) : Int) ∧ s 15 = iA ((a + z.2 : Nat) : Int)) (fun z => z.2 - z.1) (0, X.length) (Weak.refl _ _) ?_ ?_
  · refine ⟨rfl, Nat.zero_le _, Nat.le_refl _, .inl rfl, .inl rfl, ?_⟩
    simp (implicitDefEqProofs := false) only [↓reduceIte, go_sem, oread, owrite, Nat.reduceAdd, Nat.reduceSub, Nat.reduceMul, Nat.reduceLT, Nat.reduceLeDiff, Nat.reduceEqDiff, Nat.reduceBEq, Int.reduceLE, Int.reduceLT, Int.reduceEq, Int.reduceNe, Int.reduceAdd, Int.reduceSub, Int.reduceMul, Int.reduceNeg, Int.reduceToNat, Int.reduceNatCast, reduceCtorEq, eq_self, show ((a : Int) + ((X.length : Nat) : Int)) = (m : Int) by omega, Nat.add_zero]
  · rintro ⟨i, j⟩ s H' ⟨rfl, hij, hj, hlo, hhi, t0, t2, t4, t14, t15⟩
    simp only at hij hj hlo hhi t14 t15
    obtain ⟨i', hi'⟩ : ∃ i', i' = a + i := ⟨_, rfl⟩
    obtain ⟨j', hj'⟩ : ∃ j', j' = a + j := ⟨_, rfl⟩
    rw [← hi'] at t14
    rw [← hj'] at t15
    have f1 : ((a : Int) + (i : Int)) = (i' : Int) := by omega
    have f2 : ((a : Int) + (j : Int)) = (j' : Int) := by omega
    by_cases hlt : i < j
    · obtain ⟨q, hq⟩ : ∃ q, q = i' + j' := ⟨_, rfl⟩
      have w3 : IntKind.i64.wrap ((i' : Int) + (j' : Int)) = (q : Int) := by rw [wrap64_in _ (by omega) (by omega)]; omega
      have w4 := half_eq q (by omega)
      obtain ⟨h, hh⟩ : ∃ h, h = q / 2 := ⟨_, rfl⟩
      rw [← hh] at w4
      obtain ⟨x, hx⟩ : ∃ x, X[h - a]? = some x := ⟨_, List.getElem?_eq_getElem (show h - a < X.length by omega)⟩
      have gx := get_enc (hLX _ _ hx)
      rw [show a + (h - a) = h by omega] at gx
      have gy := get_enc (hLY 0 y rfl)
      rw [Nat.add_zero] at gy
      have hd := hcE y x
      simp only [Val.enc] at gx gy
      simp only [Val.enc, List.map_cons, List.map_nil] at hd
      have hln : h < n := by omega
      have hmn : m < n := by omega
      simp (implicitDefEqProofs := false) only [↓reduceIte, go_sem, oread, owrite, Nat.reduceAdd, Nat.reduceSub, Nat.reduceMul, Nat.reduceLT, Nat.reduceLeDiff, Nat.reduceEqDiff, Nat.reduceBEq, Int.reduceLE, Int.reduceLT, Int.reduceEq, Int.reduceNe, Int.reduceAdd, Int.reduceSub, Int.reduceMul, Int.reduceNeg, Int.reduceToNat, Int.reduceNatCast, reduceCtorEq, eq_self, t14, t15, show ((i' : Int) < (j' : Int)) = True from eq_true (by omega), w3, w4]
      refine awp_draw K.mixed (by kernel_rfl) ?_
      simp (implicitDefEqProofs := false) only [↓reduceIte, go_sem, oread, owrite, Nat.reduceAdd, Nat.reduceSub, Nat.reduceMul, Nat.reduceLT, Nat.reduceLeDiff, Nat.reduceEqDiff, Nat.reduceBEq, Int.reduceLE, Int.reduceLT, Int.reduceEq, Int.reduceNe, Int.reduceAdd, Int.reduceSub, Int.reduceMul, Int.reduceNeg, Int.reduceToNat, Int.reduceNatCast, reduceCtorEq, eq_self, t0, t2, t4, gh, gx, gy, hln, hmn]
      refine KCall.ok hd ?_
      by_cases hcc : c y x < 0
      · simp (implicitDefEqProofs := false) only [↓reduceIte, go_sem, oread, owrite, Nat.reduceAdd, Nat.reduceSub, Nat.reduceMul, Nat.reduceLT, Nat.reduceLeDiff, Nat.reduceEqDiff, Nat.reduceBEq, Int.reduceLE, Int.reduceLT, Int.reduceEq, Int.reduceNe, Int.reduceAdd, Int.reduceSub, Int.reduceMul, Int.reduceNeg, Int.reduceToNat, Int.reduceNatCast, reduceCtorEq, eq_self, hcc]
        refine ⟨_, _, (i, h - a), Weak.refl _ _, ⟨rfl, by simp only; omega, by simp only; omega, hlo, .inr ⟨x, hx, by simp [ltC, hcc]⟩, ?_⟩, by simp only; omega⟩
        simp (implicitDefEqProofs := false) only [↓reduceIte, go_sem, oread, owrite, Nat.reduceAdd, Nat.reduceSub, Nat.reduceMul, Nat.reduceLT, Nat.reduceLeDiff, Nat.reduceEqDiff, Nat.reduceBEq, Int.reduceLE, Int.reduceLT, Int.reduceEq, Int.reduceNe, Int.reduceAdd, Int.reduceSub, Int.reduceMul, Int.reduceNeg, Int.reduceToNat, Int.reduceNatCast, reduceCtorEq, eq_self, t0, t2, t4, t14, show ((a : Int) + ((h - a : Nat) : Int)) = (h : Int) by omega, f1]
      · have hw5 : IntKind.i64.wrap ((h : Int) + 1) = ((a + (h - a + 1) : Nat) : Int) := by rw [wrap64_in _ (by omega) (by omega)]; omega
        obtain ⟨h2, hh2⟩ : ∃ h2, h2 = a + (h - a + 1) := ⟨_, rfl⟩
        rw [← hh2] at hw5
        simp (implicitDefEqProofs := false) only [↓reduceIte, go_sem, oread, owrite, Nat.reduceAdd, Nat.reduceSub, Nat.reduceMul, Nat.reduceLT, Nat.reduceLeDiff, Nat.reduceEqDiff, Nat.reduceBEq, Int.reduceLE, Int.reduceLT, Int.reduceEq, Int.reduceNe, Int.reduceAdd, Int.reduceSub, Int.reduceMul, Int.reduceNeg, Int.reduceToNat, Int.reduceNatCast, reduceCtorEq, eq_self, hcc, hw5]
        refine ⟨_, _, (h - a + 1, j), Weak.refl _ _, ⟨rfl, by simp only; omega, hj, .inr ⟨x, by simpa using hx, by simp [ltC, hcc]⟩, hhi, ?_⟩, by simp only; omega⟩
        simp (implicitDefEqProofs := false) only [↓reduceIte, go_sem, oread, owrite, Nat.reduceAdd, Nat.reduceSub, Nat.reduceMul, Nat.reduceLT, Nat.reduceLeDiff, Nat.reduceEqDiff, Nat.reduceBEq, Int.reduceLE, Int.reduceLT, Int.reduceEq, Int.reduceNe, Int.reduceAdd, Int.reduceSub, Int.reduceMul, Int.reduceNeg, Int.reduceToNat, Int.reduceNatCast, reduceCtorEq, eq_self, t0, t2, t4, t15, show ((a : Int) + (((h - a : Nat) : Int) + 1)) = (h2 : Int) by omega, f2]
    · obtain rfl : j = i := by omega
      have hmg := St.merge_last ho hX hj hhi hlo
      simp (implicitDefEqProofs := false) only [↓reduceIte, go_sem, oread, owrite, Nat.reduceAdd, Nat.reduceSub, Nat.reduceMul, Nat.reduceLT, Nat.reduceLeDiff, Nat.reduceEqDiff, Nat.reduceBEq, Int.reduceLE, Int.reduceLT, Int.reduceEq, Int.reduceNe, Int.reduceAdd, Int.reduceSub, Int.reduceMul, Int.reduceNeg, Int.reduceToNat, Int.reduceNatCast, reduceCtorEq, eq_self, t14, t15, show ((i' : Int) < (j' : Int)) = False from eq_false (by omega), t2]
      refine awp_loop _ _ _ _ (fun (k : Nat) s H' => k ≤ X.length - j ∧ (∃ Lk, H' = aH H id ver Lk ∧ Lk = P ++ X.take (j + k) ++ y :: (X.drop (j + k) ++ Q)) ∧ s 0 = .sl id ver 0 n ∧ s 14 = iA i' ∧ s 17 = iA ((i' : Int) + (k : Int))) (fun k => k) (X.length - j) (Weak.refl _ _) ?_ ?_
      · refine ⟨Nat.le_refl _, ⟨L, hE0.symm, ?_⟩, ?_⟩
        · rw [show j + (X.length - j) = X.length by omega, List.take_length, List.drop_length, hL]; simp
        · simp (implicitDefEqProofs := false) only [↓reduceIte, go_sem, oread, owrite, Nat.reduceAdd, Nat.reduceSub, Nat.reduceMul, Nat.reduceLT, Nat.reduceLeDiff, Nat.reduceEqDiff, Nat.reduceBEq, Int.reduceLE, Int.reduceLT, Int.reduceEq, Int.reduceNe, Int.reduceAdd, Int.reduceSub, Int.reduceMul, Int.reduceNeg, Int.reduceToNat, Int.reduceNatCast, reduceCtorEq, eq_self, t0, t14, show ((i' : Int) + ((X.length - j : Nat) : Int)) = (m : Int) by omega]
      · rintro k s H' ⟨hkx, ⟨Lk, rfl, hLk⟩, t0, t14, t17⟩
        cases k with
        | zero =>
          simp (implicitDefEqProofs := false) only [↓reduceIte, go_sem, oread, owrite, Nat.reduceAdd, Nat.reduceSub, Nat.reduceMul, Nat.reduceLT, Nat.reduceLeDiff, Nat.reduceEqDiff, Nat.reduceBEq, Int.reduceLE, Int.reduceLT, Int.reduceEq, Int.reduceNe, Int.reduceAdd, Int.reduceSub, Int.reduceMul, Int.reduceNeg, Int.reduceToNat, Int.reduceNatCast, reduceCtorEq, eq_self, t14, t17, show ((i' : Int) < (i' : Int) + 0) = False from eq_false (by omega), Int.add_zero, Int.lt_irrefl]
          have : Lk = L' := by rw [hLk, hL', Nat.add_zero, ← hmg]; simp
          rw [this]
          exact ⟨_, Weak.refl _ _, rfl⟩
        | succ k =>
          have hkX : j + k < X.length := by omega
          have e1 : X.drop (j + k) = X[j + k] :: X.drop (j + k + 1) := List.drop_eq_getElem_cons hkX
          have e2 : X.take (j + k + 1) = X.take (j + k) ++ [X[j + k]] := List.take_succ_eq_append_getElem hkX
          rw [show j + (k + 1) = j + k + 1 by omega, e2] at hLk
          have l1 : (P ++ X.take (j + k)).length = i' + k := by simp; omega
          obtain ⟨u, hu⟩ : ∃ u, u = i' + k := ⟨_, rfl⟩
          obtain ⟨v, hv⟩ : ∃ v, v = u + 1 := ⟨_, rfl⟩
          rw [← hu] at l1
          have fk : ((i' : Int) + ((k + 1 : Nat) : Int)) = (v : Int) := by omega
          have fk2 : ((i' : Int) + (k : Int)) = (u : Int) := by omega
          rw [fk] at t17
          generalize X[j + k] = x at *
          generalize X.drop (j + k + 1) = X1 at *
          obtain ⟨g1, g2, _, g4, _, g6⟩ := swap_next (L := Lk) (P := P ++ X.take (j + k)) (x := x) (y := y) (R := X1 ++ Q) (by rw [hLk]; simp) l1
          rw [← hv] at g2 g4 g6
          have hw7 : IntKind.i64.wrap ((v : Int) - 1) = (u : Int) := by rw [wrap64_in _ (by omega) (by omega)]; omega
          have gg := aH_get hid ver Lk
          have q1 := get_enc g1
          have q2 := get_enc g2
          have q4 := get_enc g4
          have s1 := set_enc Lk v x
          have s2 := set_enc (Lk.set v x) u y
          rw [g6] at s2
          have hun : u < n := by omega
          have hvn : v < n := by omega
          simp only [Val.enc] at q1 q2 q4 s1 s2
          simp (implicitDefEqProofs := false) only [↓reduceIte, go_sem, oread, owrite, Nat.reduceAdd, Nat.reduceSub, Nat.reduceMul, Nat.reduceLT, Nat.reduceLeDiff, Nat.reduceEqDiff, Nat.reduceBEq, Int.reduceLE, Int.reduceLT, Int.reduceEq, Int.reduceNe, Int.reduceAdd, Int.reduceSub, Int.reduceMul, Int.reduceNeg, Int.reduceToNat, Int.reduceNatCast, reduceCtorEq, eq_self, t14, t17, show ((i' : Int) < (v : Int)) = True from eq_true (by omega)]
          refine awp_drawN [false, false, false, false, false, false, false, false, false, false, false, false, false, false, true, true, true, true] 14 K.mixed (by kernel_rfl) (by kernel_rfl) (by kernel_rfl) ?_
          simp (implicitDefEqProofs := false) only [↓reduceIte, go_sem, oread, owrite, Nat.reduceAdd, Nat.reduceSub, Nat.reduceMul, Nat.reduceLT, Nat.reduceLeDiff, Nat.reduceEqDiff, Nat.reduceBEq, Int.reduceLE, Int.reduceLT, Int.reduceEq, Int.reduceNe, Int.reduceAdd, Int.reduceSub, Int.reduceMul, Int.reduceNeg, Int.reduceToNat, Int.reduceNatCast, reduceCtorEq, eq_self, t0, t17, hw7, hun, hvn, gg, q1, q2, q4, s1, s2, aH_set, aH_get hid, hid, List.getElem?_set_self, List.set_set]
          refine ⟨_, _, k, Weak.refl _ _, ⟨by omega, ⟨_, by rw [← aH_fold], by rw [e1]; simp⟩, ?_⟩, by omega⟩
          simp (implicitDefEqProofs := false) only [↓reduceIte, go_sem, oread, owrite, Nat.reduceAdd, Nat.reduceSub, Nat.reduceMul, Nat.reduceLT, Nat.reduceLeDiff, Nat.reduceEqDiff, Nat.reduceBEq, Int.reduceLE, Int.reduceLT, Int.reduceEq, Int.reduceNe, Int.reduceAdd, Int.reduceSub, Int.reduceMul, Int.reduceNeg, Int.reduceToNat, Int.reduceNatCast, reduceCtorEq, eq_self, t0, t14, fk2]
end SV
end Go.Proofs.Ytfmmemboakdeiaa
namespace Go.Proofs.Ytfmmemboakdeiaa
open Go.Proofs.YtfmmemboakdeiaaAw Go.RowKit
set_option linter.unusedVariables false
set_option linter.unusedSimpArgs false
namespace SV
/-- Hidden from the arithmetic. -/
def Hid (p : Prop) : Prop := p
theorem sym_arith {a m b q mid n0 s0 r0 lx ly : Nat} (hm : a + lx = m) (hb : a + lx + ly = b) (hq : q = a + b) (hmid : mid = q / 2) (hn0 : n0 = mid + m) (hs0 : s0 = if mid < m then n0 - b else a) (hr0 : r0 = if mid < m then mid else m) (hx : 0 < lx) (hy : 0 < ly) (h1 : ¬ lx = 1) :
    (s0 ≤ r0 ∧ a ≤ s0 ∧ r0 ≤ m ∧ r0 ≤ mid) ∧ (n0 ≤ b + s0 ∧ mid < b ∧ a < mid) ∧ Hid (r0 = m ∨ n0 = m + r0) ∧ Hid (s0 = a ∨ n0 = b + s0) ∧ m + r0 ≤ n0 ∧ (mid < m → b ≤ n0) := by
  by_cases h : mid < m
  · rw [if_pos h] at hs0 hr0; unfold Hid; omega
  · rw [if_neg h] at hs0 hr0; unfold Hid; omega
set_option maxRecDepth 10000 in
set_option maxHeartbeats 4000000 in
theorem sym3_does (H : AHeap) (id ver : Nat) (hid : id < H.length) (g : FuncId) (caps : List AV) (c : Val → Val → Int) (ho : St.Ord (ltC c)) (hc : CmpOk g caps c H id) (n : Nat) (hbig : n ≤ 1000000000000) (P X Y Q L L' : List Val) (a m b : Nat)
    (hL : L = P ++ X ++ Y ++ Q) (hL' : L' = P ++ St.sortS (ltC c) (X ++ Y) ++ Q) (ha : P.length = a) (hm : P.length + X.length = m) (hb : P.length + X.length + Y.length = b) (hX0 : 0 < X.length) (hY0 : 0 < Y.length) (hX : St.Sorted (ltC c) X) (hY : St.Sorted (ltC c) Y) (hn : L.length = n) (h1 : ¬ X.length = 1) (h2 : ¬ Y.length = 1)
    (ih : ∀ (P' X' Y' Q' L1 L2 : List Val) (a' m' b' : Nat), X'.length + Y'.length < X.length + Y.length → L1 = P' ++ X' ++ Y' ++ Q' → L2 = P' ++ St.sortS (ltC c) (X' ++ Y') ++ Q' → P'.length = a' → P'.length + X'.length = m' → P'.length + X'.length + Y'.length = b' → 0 < X'.length → 0 < Y'.length →
      St.Sorted (ltC c) X' → St.Sorted (ltC c) Y' → L1.length = n → Does Try.prog 65 [.sl id ver 0 n, iA a', iA m', iA b', .fn g caps] (aH H id ver L1) (.ok (.tup [])) (aH H id ver L2)) :
    Does Try.prog 65 [.sl id ver 0 n, iA a, iA m, iA b, .fn g caps] (aH H id ver L) (.ok (.tup [])) (aH H id ver L') := by
  have hnl : P.length + X.length + Y.length + Q.length = n := by rw [← hn, hL]; simp; omega
  have w1 : IntKind.i64.wrap ((m : Int) - (a : Int)) = ((X.length : Nat) : Int) := by rw [wrap64_in _ (by omega) (by omega)]; omega
  have w2 : IntKind.i64.wrap ((b : Int) - (m : Int)) = ((Y.length : Nat) : Int) := by rw [wrap64_in _ (by omega) (by omega)]; omega
  have hLX := memX hL ha
  have hLY := memY hL hm
  generalize hE0 : aH H id ver L = E0
  have gh := aH_get hid ver L
  rw [hE0] at gh
  have hcE : ∀ x y : Val, Does Try.prog g ([.agg (x.enc.map .d), .agg (y.enc.map .d)] ++ caps) E0 (.ok (iA (c x y))) E0 := fun x y => by rw [← hE0]; exact hc.at ver L x y
  refine Does.of_awp (hint := (fun _ => false)) Try.func65 (by kernel_rfl) rfl [] (by kernel_rfl) (by decide) (by simp [Try.ntmps65]) ?_
  rw [Try.ntmps65]
  obtain ⟨q, hq⟩ : ∃ q, q = a + b := ⟨_, rfl⟩
  obtain ⟨mid, hmid⟩ : ∃ mid, mid = q / 2 := ⟨_, rfl⟩
  obtain ⟨n0, hn0⟩ : ∃ n0, n0 = mid + m := ⟨_, rfl⟩
  obtain ⟨p, hp⟩ : ∃ p, p = n0 - 1 := ⟨_, rfl⟩
  have w3 : IntKind.i64.wrap ((a : Int) + (b : Int)) = (q : Int) := by rw [wrap64_in _ (by omega) (by omega)]; omega
  have w4 := half_eq q (by omega)
  rw [← hmid] at w4
  have w5 : IntKind.i64.wrap ((mid : Int) + (m : Int)) = (n0 : Int) := by rw [wrap64_in _ (by omega) (by omega)]; omega
  have w6 : IntKind.i64.wrap ((n0 : Int) - 1) = (p : Int) := by rw [wrap64_in _ (by omega) (by omega)]; omega
  obtain ⟨s0, hs0⟩ : ∃ s0, s0 = if mid < m then n0 - b else a := ⟨_, rfl⟩
  obtain ⟨r0, hr0⟩ : ∃ r0, r0 = if mid < m then mid else m := ⟨_, rfl⟩
  obtain ⟨a1, a2, a3, a4, a5, a6⟩ := sym_arith (by omega) (by omega) hq hmid hn0 hs0 hr0 hX0 hY0 h1
  have w7 : mid < m → IntKind.i64.wrap ((n0 : Int) - (b : Int)) = (s0 : Int) := fun h => by have := a6 h; rw [if_pos h] at hs0; rw [wrap64_in _ (by omega) (by omega)]; omega
  simp (implicitDefEqProofs := false) only [↓reduceIte, go_sem, oread, owrite, Nat.reduceAdd, Nat.reduceSub, Nat.reduceMul, Nat.reduceLT, Nat.reduceLeDiff, Nat.reduceEqDiff, Nat.reduceBEq, Int.reduceLE, Int.reduceLT, Int.reduceEq, Int.reduceNe, Int.reduceAdd, Int.reduceSub, Int.reduceMul, Int.reduceNeg, Int.reduceToNat, Int.reduceNatCast, reduceCtorEq, eq_self, w1, w2, show (((X.length : Nat) : Int) = 1) = False from eq_false (by omega), show (((Y.length : Nat) : Int) = 1) = False from eq_false (by omega), w3, w4, w5]
  refine acond_cut (fun s H' => H' = E0 ∧ s 0 = .sl id ver 0 n ∧ s 1 = iA a ∧ s 2 = iA m ∧ s 3 = iA b ∧ s 4 = .fn g caps ∧ s 18 = iA mid ∧ s 19 = iA n0 ∧ s 20 = iA s0 ∧ s 21 = iA r0) rfl ?_ ?_
  · by_cases hmm : mid < m
    · simp (implicitDefEqProofs := false) only [↓reduceIte, go_sem, oread, owrite, Nat.reduceAdd, Nat.reduceSub, Nat.reduceMul, Nat.reduceLT, Nat.reduceLeDiff, Nat.reduceEqDiff, Nat.reduceBEq, Int.reduceLE, Int.reduceLT, Int.reduceEq, Int.reduceNe, Int.reduceAdd, Int.reduceSub, Int.reduceMul, Int.reduceNeg, Int.reduceToNat, Int.reduceNatCast, reduceCtorEq, eq_self, eq_true hmm, w7 hmm]
      rw [hr0, if_pos hmm]
    · simp (implicitDefEqProofs := false) only [↓reduceIte, go_sem, oread, owrite, Nat.reduceAdd, Nat.reduceSub, Nat.reduceMul, Nat.reduceLT, Nat.reduceLeDiff, Nat.reduceEqDiff, Nat.reduceBEq, Int.reduceLE, Int.reduceLT, Int.reduceEq, Int.reduceNe, Int.reduceAdd, Int.reduceSub, Int.reduceMul, Int.reduceNeg, Int.reduceToNat, Int.reduceNatCast, reduceCtorEq, eq_self, eq_false hmm]
      rw [hs0, hr0, if_neg hmm, if_neg hmm]
      exact ⟨rfl, rfl⟩
  · clear hs0 hr0 w3 w4 w5 w7 a6 hmid
    rintro s H' ⟨rfl, t0, t1, t2, t3, t4, t18, t19, t20, t21⟩
    simp (implicitDefEqProofs := false) only [↓reduceIte, go_sem, oread, owrite, Nat.reduceAdd, Nat.reduceSub, Nat.reduceMul, Nat.reduceLT, Nat.reduceLeDiff, Nat.reduceEqDiff, Nat.reduceBEq, Int.reduceLE, Int.reduceLT, Int.reduceEq, Int.reduceNe, Int.reduceAdd, Int.reduceSub, Int.reduceMul, Int.reduceNeg, Int.reduceToNat, Int.reduceNatCast, reduceCtorEq, eq_self, t19, w6]
    refine awp_cutB (fun s H1 => H1 = H' ∧ (∃ st, s0 ≤ st ∧ st ≤ r0 ∧ Hid (st = s0 ∨ ∃ x y, X[st - 1 - a]? = some x ∧ Y[n0 - st - m]? = some y ∧ ltC c y x = false) ∧ Hid (st = r0 ∨ ∃ x y, X[st - a]? = some x ∧ Y[p - st - m]? = some y ∧ ltC c y x = true) ∧ s 20 = iA st) ∧
      s 0 = .sl id ver 0 n ∧ s 1 = iA a ∧ s 2 = iA m ∧ s 3 = iA b ∧ s 4 = .fn g caps ∧ s 18 = iA mid ∧ s 19 = iA n0) rfl ?_ ?_
    · refine awp_loop _ _ _ _ (fun (z : Nat × Nat) s H1 => H1 = H' ∧ s0 ≤ z.1 ∧ z.1 ≤ z.2 ∧ z.2 ≤ r0 ∧ Hid (z.1 = s0 ∨ ∃ x y, X[z.1 - 1 - a]? = some x ∧ Y[n0 - z.1 - m]? = some y ∧ ltC c y x = false) ∧ Hid (z.2 = r0 ∨ ∃ x y, X[z.2 - a]? = some x ∧ Y[p - z.2 - m]? = some y ∧ ltC c y x = true) ∧
        s 0 = .sl id ver 0 n ∧ s 1 = iA a ∧ s 2 = iA m ∧ s 3 = iA b ∧ s 4 = .fn g caps ∧ s 18 = iA mid ∧ s 19 = iA n0 ∧ s 20 = iA z.1 ∧ s 21 = iA z.2 ∧ s 22 = iA p) (fun z => z.2 - z.1) (s0, r0) (Weak.refl _ _) ?_ ?_
      · refine ⟨rfl, Nat.le_refl _, a1.1, Nat.le_refl _, .inl rfl, .inl rfl, ?_⟩
        simp (implicitDefEqProofs := false) only [↓reduceIte, go_sem, oread, owrite, Nat.reduceAdd, Nat.reduceSub, Nat.reduceMul, Nat.reduceLT, Nat.reduceLeDiff, Nat.reduceEqDiff, Nat.reduceBEq, Int.reduceLE, Int.reduceLT, Int.reduceEq, Int.reduceNe, Int.reduceAdd, Int.reduceSub, Int.reduceMul, Int.reduceNeg, Int.reduceToNat, Int.reduceNatCast, reduceCtorEq, eq_self, t0, t1, t2, t3, t4, t18, t19, t20, t21]
      · rintro ⟨i, j⟩ s H1 ⟨rfl, hi0, hij, hj0, hlo, hhi, t0, t1, t2, t3, t4, t18, t19, t20, t21, t22⟩
        simp only at hi0 hij hj0 hlo hhi t20 t21
        by_cases hlt : i < j
        · obtain ⟨qq, hqq⟩ : ∃ qq, qq = i + j := ⟨_, rfl⟩
          have v3 : IntKind.i64.wrap ((i : Int) + (j : Int)) = (qq : Int) := by rw [wrap64_in _ (by omega) (by omega)]; omega
          have v4 := half_eq qq (by omega)
          obtain ⟨h, hh⟩ : ∃ h, h = qq / 2 := ⟨_, rfl⟩
          rw [← hh] at v4
          have hpc : m ≤ p - h ∧ p - h < b ∧ h < m ∧ a ≤ h := by omega
          obtain ⟨pc, hpc2⟩ : ∃ pc, pc = p - h := ⟨_, rfl⟩
          have v5 : IntKind.i64.wrap ((p : Int) - (h : Int)) = (pc : Int) := by rw [wrap64_in _ (by omega) (by omega)]; omega
          obtain ⟨x, hx⟩ : ∃ x, X[h - a]? = some x := ⟨_, List.getElem?_eq_getElem (show h - a < X.length by omega)⟩
          obtain ⟨y, hy⟩ : ∃ y, Y[pc - m]? = some y := ⟨_, List.getElem?_eq_getElem (show pc - m < Y.length by omega)⟩
          have gx := get_enc (hLX _ _ hx)
          rw [show a + (h - a) = h by omega] at gx
          have gy := get_enc (hLY _ _ hy)
          rw [show m + (pc - m) = pc by omega] at gy
          have hd := hcE y x
          simp only [Val.enc] at gx gy
          simp only [Val.enc, List.map_cons, List.map_nil] at hd
          have hln : h < n := by omega
          have hpn : pc < n := by omega
          simp (implicitDefEqProofs := false) only [↓reduceIte, go_sem, oread, owrite, Nat.reduceAdd, Nat.reduceSub, Nat.reduceMul, Nat.reduceLT, Nat.reduceLeDiff, Nat.reduceEqDiff, Nat.reduceBEq, Int.reduceLE, Int.reduceLT, Int.reduceEq, Int.reduceNe, Int.reduceAdd, Int.reduceSub, Int.reduceMul, Int.reduceNeg, Int.reduceToNat, Int.reduceNatCast, reduceCtorEq, eq_self, t20, t21, eq_true hlt, v3, v4]
          refine awp_draw K.mixed (by kernel_rfl) ?_
          simp (implicitDefEqProofs := false) only [↓reduceIte, go_sem, oread, owrite, Nat.reduceAdd, Nat.reduceSub, Nat.reduceMul, Nat.reduceLT, Nat.reduceLeDiff, Nat.reduceEqDiff, Nat.reduceBEq, Int.reduceLE, Int.reduceLT, Int.reduceEq, Int.reduceNe, Int.reduceAdd, Int.reduceSub, Int.reduceMul, Int.reduceNeg, Int.reduceToNat, Int.reduceNatCast, reduceCtorEq, eq_self, t0, t4, t22, gh, gx, gy, hln, hpn, v5]
          refine KCall.ok hd ?_
          by_cases hcc : c y x < 0
          · simp (implicitDefEqProofs := false) only [↓reduceIte, go_sem, oread, owrite, Nat.reduceAdd, Nat.reduceSub, Nat.reduceMul, Nat.reduceLT, Nat.reduceLeDiff, Nat.reduceEqDiff, Nat.reduceBEq, Int.reduceLE, Int.reduceLT, Int.reduceEq, Int.reduceNe, Int.reduceAdd, Int.reduceSub, Int.reduceMul, Int.reduceNeg, Int.reduceToNat, Int.reduceNatCast, reduceCtorEq, eq_self, hcc]
            refine ⟨_, _, (i, h), Weak.refl _ _, ⟨rfl, hi0, by simp only; omega, by simp only; omega, hlo, .inr ⟨x, y, hx, by rw [← hpc2]; exact hy, by simp [ltC, hcc]⟩, ?_⟩, by simp only; omega⟩
            simp (implicitDefEqProofs := false) only [↓reduceIte, go_sem, oread, owrite, Nat.reduceAdd, Nat.reduceSub, Nat.reduceMul, Nat.reduceLT, Nat.reduceLeDiff, Nat.reduceEqDiff, Nat.reduceBEq, Int.reduceLE, Int.reduceLT, Int.reduceEq, Int.reduceNe, Int.reduceAdd, Int.reduceSub, Int.reduceMul, Int.reduceNeg, Int.reduceToNat, Int.reduceNatCast, reduceCtorEq, eq_self, t0, t1, t2, t3, t4, t18, t19, t20, t22]
          · have v6 : IntKind.i64.wrap ((h : Int) + 1) = (h : Int) + 1 := wrap64_in _ (by omega) (by omega)
            simp (implicitDefEqProofs := false) only [↓reduceIte, go_sem, oread, owrite, Nat.reduceAdd, Nat.reduceSub, Nat.reduceMul, Nat.reduceLT, Nat.reduceLeDiff, Nat.reduceEqDiff, Nat.reduceBEq, Int.reduceLE, Int.reduceLT, Int.reduceEq, Int.reduceNe, Int.reduceAdd, Int.reduceSub, Int.reduceMul, Int.reduceNeg, Int.reduceToNat, Int.reduceNatCast, reduceCtorEq, eq_self, hcc, v6]
            refine ⟨_, _, (h + 1, j), Weak.refl _ _, ⟨rfl, by simp only; omega, by simp only; omega, hj0, .inr ⟨x, y, by simpa using hx, by rw [show n0 - (h + 1) - m = pc - m by omega]; exact hy, by simp [ltC, hcc]⟩, hhi, ?_⟩, by simp only; omega⟩
            simp (implicitDefEqProofs := false) only [↓reduceIte, go_sem, oread, owrite, Nat.reduceAdd, Nat.reduceSub, Nat.reduceMul, Nat.reduceLT, Nat.reduceLeDiff, Nat.reduceEqDiff, Nat.reduceBEq, Int.reduceLE, Int.reduceLT, Int.reduceEq, Int.reduceNe, Int.reduceAdd, Int.reduceSub, Int.reduceMul, Int.reduceNeg, Int.reduceToNat, Int.reduceNatCast, reduceCtorEq, eq_self, t0, t1, t2, t3, t4, t18, t19, t21, t22]
        · obtain rfl : j = i := by omega
          simp (implicitDefEqProofs := false) only [↓reduceIte, go_sem, oread, owrite, Nat.reduceAdd, Nat.reduceSub, Nat.reduceMul, Nat.reduceLT, Nat.reduceLeDiff, Nat.reduceEqDiff, Nat.reduceBEq, Int.reduceLE, Int.reduceLT, Int.reduceEq, Int.reduceNe, Int.reduceAdd, Int.reduceSub, Int.reduceMul, Int.reduceNeg, Int.reduceToNat, Int.reduceNatCast, reduceCtorEq, eq_self, t20, t21, Nat.lt_irrefl]
          exact ⟨⟨j, hi0, hj0, hlo, hhi, rfl⟩, t0, t1, t2, t3, t4, t18, t19⟩
    · rintro s H1 ⟨rfl, ⟨st, hst0, hst1, hlo, hhi, t20⟩, t0, t1, t2, t3, t4, t18, t19⟩
      clear w6
      obtain ⟨e, he⟩ : ∃ e, e = n0 - st := ⟨_, rfl⟩
      obtain ⟨sX, hsX⟩ : ∃ sX, sX = st - a := ⟨_, rfl⟩
      obtain ⟨eY, heY⟩ : ∃ eY, eY = e - m := ⟨_, rfl⟩
      have w8 : IntKind.i64.wrap ((n0 : Int) - (st : Int)) = (e : Int) := by rw [wrap64_in _ (by omega) (by omega)]; omega
      have b1 : sX ≤ X.length ∧ eY ≤ Y.length ∧ m ≤ e ∧ e ≤ b ∧ mid = st + eY ∧ e = mid + (m - st) := by omega
      have hcut := St.merge_cut ho hX hY (s := sX) (e := eY) b1.1 b1.2.1 ?_ ?_
      rotate_left
      · rcases hhi with h | ⟨x, y, hx, hy, h⟩
        · rcases a3 with h3 | h3
          · exact .inl (by omega)
          · exact .inr (.inl (by omega))
        · exact .inr (.inr ⟨x, y, by rw [hsX]; exact hx, by rw [show eY - 1 = p - st - m by omega]; exact hy, h⟩)
      · rcases hlo with h | ⟨x, y, hx, hy, h⟩
        · rcases a4 with h4 | h4
          · exact .inl (by omega)
          · exact .inr (.inl (by omega))
        · exact .inr (.inr ⟨x, y, by rw [show sX - 1 = st - 1 - a by omega]; exact hx, by rw [show eY = n0 - st - m by omega]; exact hy, h⟩)
      have hXs := hX
      have hYs := hY
      have eX : X.take sX ++ X.drop sX = X := List.take_append_drop _ _
      have eY' : Y.take eY ++ Y.drop eY = Y := List.take_append_drop _ _
      have lA : (X.take sX).length = sX := by rw [List.length_take]; omega
      have lU : (X.drop sX).length = X.length - sX := List.length_drop
      have lV : (Y.take eY).length = eY := by rw [List.length_take]; omega
      have lB : (Y.drop eY).length = Y.length - eY := List.length_drop
      rw [← eX] at hXs
      rw [← eY'] at hYs
      have sA := hXs.left
      have sU := hXs.right
      have sV := hYs.left
      have sB := hYs.right
      clear hXs hYs hlo hhi a3 a4
      generalize hA : X.take sX = A at *
      generalize hU : X.drop sX = U at *
      generalize hV : Y.take eY = V at *
      generalize hB : Y.drop eY = B at *
      have hLL : L = P ++ A ++ U ++ V ++ (B ++ Q) := by rw [hL, ← eX, ← eY']; simp
      obtain ⟨L1, hL1⟩ : ∃ L1, L1 = P ++ A ++ V ++ U ++ (B ++ Q) := ⟨_, rfl⟩
      obtain ⟨L2, hL2⟩ : ∃ L2, L2 = P ++ St.sortS (ltC c) (A ++ V) ++ U ++ B ++ Q := ⟨_, rfl⟩
      have hL3 : L' = P ++ St.sortS (ltC c) (A ++ V) ++ St.sortS (ltC c) (U ++ B) ++ Q := by rw [hL', ← hcut]; simp
      have n1 : L1.length = n := by rw [← hn, hLL, hL1]; simp; omega
      have n2 : L2.length = n := by rw [← hn, hLL, hL2]; simp [St.sortS_len]; omega
      rw [awp_seq]
      refine awp_cut (fun s H2 => H2 = aH H id ver L ∧ s 0 = .sl id ver 0 n ∧ s 1 = iA a ∧ s 2 = iA m ∧ s 3 = iA b ∧ s 4 = .fn g caps ∧ s 18 = iA mid ∧ s 20 = iA st ∧ s 24 = iA e) rfl (by simp (implicitDefEqProofs := false) only [↓reduceIte, go_sem, oread, owrite, Nat.reduceAdd, Nat.reduceSub, Nat.reduceMul, Nat.reduceLT, Nat.reduceLeDiff, Nat.reduceEqDiff, Nat.reduceBEq, Int.reduceLE, Int.reduceLT, Int.reduceEq, Int.reduceNe, Int.reduceAdd, Int.reduceSub, Int.reduceMul, Int.reduceNeg, Int.reduceToNat, Int.reduceNatCast, reduceCtorEq, eq_self, t0, t1, t2, t3, t4, t18, t19, t20, w8, hE0]) ?_
      rintro s H2 ⟨rfl, t0, t1, t2, t3, t4, t18, t20, t24⟩
      rw [awp_seq]
      refine awp_cut (fun s H2 => H2 = aH H id ver L1 ∧ s 0 = .sl id ver 0 n ∧ s 1 = iA a ∧ s 2 = iA m ∧ s 3 = iA b ∧ s 4 = .fn g caps ∧ s 18 = iA mid ∧ s 20 = iA st ∧ s 24 = iA e) rfl ?_ ?_
      · have same : U = [] ∨ V = [] → aH H id ver L = aH H id ver L1 := fun h => by
          rw [hL1, hLL]; rcases h with rfl | rfl <;> simp
        by_cases c1 : st < m
        · by_cases c2 : m < e
          · simp (implicitDefEqProofs := false) only [↓reduceIte, go_sem, oread, owrite, Nat.reduceAdd, Nat.reduceSub, Nat.reduceMul, Nat.reduceLT, Nat.reduceLeDiff, Nat.reduceEqDiff, Nat.reduceBEq, Int.reduceLE, Int.reduceLT, Int.reduceEq, Int.reduceNe, Int.reduceAdd, Int.reduceSub, Int.reduceMul, Int.reduceNeg, Int.reduceToNat, Int.reduceNatCast, reduceCtorEq, eq_self, t2, t20, t24, eq_true c1, eq_true c2]
            simp (implicitDefEqProofs := false) only [↓reduceIte, go_sem, oread, owrite, Nat.reduceAdd, Nat.reduceSub, Nat.reduceMul, Nat.reduceLT, Nat.reduceLeDiff, Nat.reduceEqDiff, Nat.reduceBEq, Int.reduceLE, Int.reduceLT, Int.reduceEq, Int.reduceNe, Int.reduceAdd, Int.reduceSub, Int.reduceMul, Int.reduceNeg, Int.reduceToNat, Int.reduceNatCast, reduceCtorEq, eq_self, t0, t2, t4, t20, t24]
            refine KCall.ok (rotate_does H id ver hid g caps (P ++ A) U V (B ++ Q) L L1 hLL (by rw [hL1]) st m e n (by simp; omega) (by simp; omega) (by simp; omega) (by omega) (by omega) hn hbig) ?_
            simp (implicitDefEqProofs := false) only [↓reduceIte, go_sem, oread, owrite, Nat.reduceAdd, Nat.reduceSub, Nat.reduceMul, Nat.reduceLT, Nat.reduceLeDiff, Nat.reduceEqDiff, Nat.reduceBEq, Int.reduceLE, Int.reduceLT, Int.reduceEq, Int.reduceNe, Int.reduceAdd, Int.reduceSub, Int.reduceMul, Int.reduceNeg, Int.reduceToNat, Int.reduceNatCast, reduceCtorEq, eq_self, t0, t1, t2, t3, t4, t18, t20, t24]
          · simp (implicitDefEqProofs := false) only [↓reduceIte, go_sem, oread, owrite, Nat.reduceAdd, Nat.reduceSub, Nat.reduceMul, Nat.reduceLT, Nat.reduceLeDiff, Nat.reduceEqDiff, Nat.reduceBEq, Int.reduceLE, Int.reduceLT, Int.reduceEq, Int.reduceNe, Int.reduceAdd, Int.reduceSub, Int.reduceMul, Int.reduceNeg, Int.reduceToNat, Int.reduceNatCast, reduceCtorEq, eq_self, t2, t20, t24, eq_true c1, eq_false c2]
            simp (implicitDefEqProofs := false) only [↓reduceIte, go_sem, oread, owrite, Nat.reduceAdd, Nat.reduceSub, Nat.reduceMul, Nat.reduceLT, Nat.reduceLeDiff, Nat.reduceEqDiff, Nat.reduceBEq, Int.reduceLE, Int.reduceLT, Int.reduceEq, Int.reduceNe, Int.reduceAdd, Int.reduceSub, Int.reduceMul, Int.reduceNeg, Int.reduceToNat, Int.reduceNatCast, reduceCtorEq, eq_self, t0, t1, t2, t3, t4, t18, t20, t24]
            exact same (.inr (List.eq_nil_of_length_eq_zero (by omega)))
        · simp (implicitDefEqProofs := false) only [↓reduceIte, go_sem, oread, owrite, Nat.reduceAdd, Nat.reduceSub, Nat.reduceMul, Nat.reduceLT, Nat.reduceLeDiff, Nat.reduceEqDiff, Nat.reduceBEq, Int.reduceLE, Int.reduceLT, Int.reduceEq, Int.reduceNe, Int.reduceAdd, Int.reduceSub, Int.reduceMul, Int.reduceNeg, Int.reduceToNat, Int.reduceNatCast, reduceCtorEq, eq_self, t2, t20, t24, eq_false c1]
          simp (implicitDefEqProofs := false) only [↓reduceIte, go_sem, oread, owrite, Nat.reduceAdd, Nat.reduceSub, Nat.reduceMul, Nat.reduceLT, Nat.reduceLeDiff, Nat.reduceEqDiff, Nat.reduceBEq, Int.reduceLE, Int.reduceLT, Int.reduceEq, Int.reduceNe, Int.reduceAdd, Int.reduceSub, Int.reduceMul, Int.reduceNeg, Int.reduceToNat, Int.reduceNatCast, reduceCtorEq, eq_self, t0, t1, t2, t3, t4, t18, t20, t24]
          exact same (.inl (List.eq_nil_of_length_eq_zero (by omega)))
      rintro s H2 ⟨rfl, t0, t1, t2, t3, t4, t18, t20, t24⟩
      rw [awp_seq]
      refine awp_cut (fun s H2 => H2 = aH H id ver L2 ∧ s 0 = .sl id ver 0 n ∧ s 3 = iA b ∧ s 4 = .fn g caps ∧ s 18 = iA mid ∧ s 24 = iA e) rfl ?_ ?_
      · have same : A = [] ∨ V = [] → aH H id ver L1 = aH H id ver L2 := fun h => by
          have : St.sortS (ltC c) (A ++ V) = A ++ V := by
            rcases h with rfl | rfl
            · simpa using St.sortS_self ho sV
            · simpa using St.sortS_self ho sA
          rw [hL1, hL2, this]; simp
        by_cases c1 : a < st
        · by_cases c2 : st < mid
          · simp (implicitDefEqProofs := false) only [↓reduceIte, go_sem, oread, owrite, Nat.reduceAdd, Nat.reduceSub, Nat.reduceMul, Nat.reduceLT, Nat.reduceLeDiff, Nat.reduceEqDiff, Nat.reduceBEq, Int.reduceLE, Int.reduceLT, Int.reduceEq, Int.reduceNe, Int.reduceAdd, Int.reduceSub, Int.reduceMul, Int.reduceNeg, Int.reduceToNat, Int.reduceNatCast, reduceCtorEq, eq_self, t1, t18, t20, eq_true c1, eq_true c2]
            simp (implicitDefEqProofs := false) only [↓reduceIte, go_sem, oread, owrite, Nat.reduceAdd, Nat.reduceSub, Nat.reduceMul, Nat.reduceLT, Nat.reduceLeDiff, Nat.reduceEqDiff, Nat.reduceBEq, Int.reduceLE, Int.reduceLT, Int.reduceEq, Int.reduceNe, Int.reduceAdd, Int.reduceSub, Int.reduceMul, Int.reduceNeg, Int.reduceToNat, Int.reduceNatCast, reduceCtorEq, eq_self, t0, t1, t4, t18, t20]
            refine KCall.ok (ih P A V (U ++ (B ++ Q)) L1 L2 a st mid (by omega) (by rw [hL1]; simp) (by rw [hL2]; simp) ha (by omega) (by omega) (by omega) (by omega) sA sV n1) ?_
            simp (implicitDefEqProofs := false) only [↓reduceIte, go_sem, oread, owrite, Nat.reduceAdd, Nat.reduceSub, Nat.reduceMul, Nat.reduceLT, Nat.reduceLeDiff, Nat.reduceEqDiff, Nat.reduceBEq, Int.reduceLE, Int.reduceLT, Int.reduceEq, Int.reduceNe, Int.reduceAdd, Int.reduceSub, Int.reduceMul, Int.reduceNeg, Int.reduceToNat, Int.reduceNatCast, reduceCtorEq, eq_self, t0, t1, t2, t3, t4, t18, t20, t24]
          · simp (implicitDefEqProofs := false) only [↓reduceIte, go_sem, oread, owrite, Nat.reduceAdd, Nat.reduceSub, Nat.reduceMul, Nat.reduceLT, Nat.reduceLeDiff, Nat.reduceEqDiff, Nat.reduceBEq, Int.reduceLE, Int.reduceLT, Int.reduceEq, Int.reduceNe, Int.reduceAdd, Int.reduceSub, Int.reduceMul, Int.reduceNeg, Int.reduceToNat, Int.reduceNatCast, reduceCtorEq, eq_self, t1, t18, t20, eq_true c1, eq_false c2]
            simp (implicitDefEqProofs := false) only [↓reduceIte, go_sem, oread, owrite, Nat.reduceAdd, Nat.reduceSub, Nat.reduceMul, Nat.reduceLT, Nat.reduceLeDiff, Nat.reduceEqDiff, Nat.reduceBEq, Int.reduceLE, Int.reduceLT, Int.reduceEq, Int.reduceNe, Int.reduceAdd, Int.reduceSub, Int.reduceMul, Int.reduceNeg, Int.reduceToNat, Int.reduceNatCast, reduceCtorEq, eq_self, t0, t1, t2, t3, t4, t18, t20, t24]
            exact same (.inr (List.eq_nil_of_length_eq_zero (by omega)))
        · simp (implicitDefEqProofs := false) only [↓reduceIte, go_sem, oread, owrite, Nat.reduceAdd, Nat.reduceSub, Nat.reduceMul, Nat.reduceLT, Nat.reduceLeDiff, Nat.reduceEqDiff, Nat.reduceBEq, Int.reduceLE, Int.reduceLT, Int.reduceEq, Int.reduceNe, Int.reduceAdd, Int.reduceSub, Int.reduceMul, Int.reduceNeg, Int.reduceToNat, Int.reduceNatCast, reduceCtorEq, eq_self, t1, t18, t20, eq_false c1]
          simp (implicitDefEqProofs := false) only [↓reduceIte, go_sem, oread, owrite, Nat.reduceAdd, Nat.reduceSub, Nat.reduceMul, Nat.reduceLT, Nat.reduceLeDiff, Nat.reduceEqDiff, Nat.reduceBEq, Int.reduceLE, Int.reduceLT, Int.reduceEq, Int.reduceNe, Int.reduceAdd, Int.reduceSub, Int.reduceMul, Int.reduceNeg, Int.reduceToNat, Int.reduceNatCast, reduceCtorEq, eq_self, t0, t1, t2, t3, t4, t18, t20, t24]
          exact same (.inl (List.eq_nil_of_length_eq_zero (by omega)))
      rintro s H2 ⟨rfl, t0, t3, t4, t18, t24⟩
      have same : U = [] ∨ B = [] → aH H id ver L2 = aH H id ver L' := fun h => by
        have : St.sortS (ltC c) (U ++ B) = U ++ B := by
          rcases h with rfl | rfl
          · simpa using St.sortS_self ho sB
          · simpa using St.sortS_self ho sU
        rw [hL2, hL3, this]; simp
      by_cases c1 : mid < e
      · by_cases c2 : e < b
        · simp (implicitDefEqProofs := false) only [↓reduceIte, go_sem, oread, owrite, Nat.reduceAdd, Nat.reduceSub, Nat.reduceMul, Nat.reduceLT, Nat.reduceLeDiff, Nat.reduceEqDiff, Nat.reduceBEq, Int.reduceLE, Int.reduceLT, Int.reduceEq, Int.reduceNe, Int.reduceAdd, Int.reduceSub, Int.reduceMul, Int.reduceNeg, Int.reduceToNat, Int.reduceNatCast, reduceCtorEq, eq_self, t3, t18, t24, eq_true c1, eq_true c2]
          simp (implicitDefEqProofs := false) only [↓reduceIte, go_sem, oread, owrite, Nat.reduceAdd, Nat.reduceSub, Nat.reduceMul, Nat.reduceLT, Nat.reduceLeDiff, Nat.reduceEqDiff, Nat.reduceBEq, Int.reduceLE, Int.reduceLT, Int.reduceEq, Int.reduceNe, Int.reduceAdd, Int.reduceSub, Int.reduceMul, Int.reduceNeg, Int.reduceToNat, Int.reduceNatCast, reduceCtorEq, eq_self, t0, t3, t4, t18, t24]
          have lS := St.sortS_len (lt := ltC c) (A ++ V)
          rw [List.length_append] at lS
          refine KCall.ok (ih (P ++ St.sortS (ltC c) (A ++ V)) U B Q L2 L' mid e b (by omega) (by rw [hL2]) (by rw [hL3]) (by simp; omega) (by simp; omega) (by simp; omega) (by omega) (by omega) sU sB n2) ?_
          simp (implicitDefEqProofs := false) only [↓reduceIte, go_sem, oread, owrite, Nat.reduceAdd, Nat.reduceSub, Nat.reduceMul, Nat.reduceLT, Nat.reduceLeDiff, Nat.reduceEqDiff, Nat.reduceBEq, Int.reduceLE, Int.reduceLT, Int.reduceEq, Int.reduceNe, Int.reduceAdd, Int.reduceSub, Int.reduceMul, Int.reduceNeg, Int.reduceToNat, Int.reduceNatCast, reduceCtorEq, eq_self]
          exact ⟨_, Weak.refl _ _, rfl⟩
        · simp (implicitDefEqProofs := false) only [↓reduceIte, go_sem, oread, owrite, Nat.reduceAdd, Nat.reduceSub, Nat.reduceMul, Nat.reduceLT, Nat.reduceLeDiff, Nat.reduceEqDiff, Nat.reduceBEq, Int.reduceLE, Int.reduceLT, Int.reduceEq, Int.reduceNe, Int.reduceAdd, Int.reduceSub, Int.reduceMul, Int.reduceNeg, Int.reduceToNat, Int.reduceNatCast, reduceCtorEq, eq_self, t3, t18, t24, eq_true c1, eq_false c2]
          rw [same (.inr (List.eq_nil_of_length_eq_zero (by omega)))]
          exact ⟨_, Weak.refl _ _, rfl⟩
      · simp (implicitDefEqProofs := false) only [↓reduceIte, go_sem, oread, owrite, Nat.reduceAdd, Nat.reduceSub, Nat.reduceMul, Nat.reduceLT, Nat.reduceLeDiff, Nat.reduceEqDiff, Nat.reduceBEq, Int.reduceLE, Int.reduceLT, Int.reduceEq, Int.reduceNe, Int.reduceAdd, Int.reduceSub, Int.reduceMul, Int.reduceNeg, Int.reduceToNat, Int.reduceNatCast, reduceCtorEq, eq_self, t3, t18, t24, eq_false c1]
        rw [same (.inl (List.eq_nil_of_length_eq_zero (by omega)))]
        exact ⟨_, Weak.refl _ _, rfl⟩
end SV
end Go.Proofs.Ytfmmemboakdeiaa
namespace Go.Proofs.Ytfmmemboakdeiaa
set_option linter.unusedVariables false
namespace St
variable {α : Type} {lt : α → α → Bool}
def blk (s j : Nat) (l : List α) : List α := (l.drop (j * s)).take s
theorem blk_front {s j k : Nat} {P R : List α} (hP : P.length = k * s) (hj : j < k) : blk s j (P ++ R) = (P.drop (j * s)).take s := by
  have h1 : (j + 1) * s ≤ k * s := Nat.mul_le_mul_right s hj
  rw [Nat.add_mul, Nat.one_mul] at h1
  unfold blk
  rw [List.drop_append_of_le_length (by omega), List.take_append_of_le_length (by rw [List.length_drop]; omega)]
theorem blk_at {s k : Nat} {P X Q : List α} (hP : P.length = k * s) (hX : X.length = s ∨ X.length ≤ s ∧ Q = []) : blk s k (P ++ X ++ Q) = X := by
  unfold blk
  rw [List.append_assoc, ← hP, List.drop_left]
  rcases hX with h | ⟨h, rfl⟩
  · rw [← h, List.take_left]
  · rw [List.append_nil, List.take_of_length_le h]
theorem drop_behind {P X Q : List α} {i : Nat} (h : P.length + X.length ≤ i) : (P ++ X ++ Q).drop i = Q.drop (i - (P.length + X.length)) := by
  rw [List.drop_append, List.drop_of_length_le (by rw [List.length_append]; exact h), List.nil_append, List.length_append]
theorem blk_behind {s j : Nat} {P X X' Q : List α} (hX : X.length = X'.length) (h : P.length + X.length ≤ j * s) : blk s j (P ++ X ++ Q) = blk s j (P ++ X' ++ Q) := by
  unfold blk
  rw [drop_behind h, drop_behind (by omega), hX]
theorem blk_out {s j : Nat} {l : List α} (h : l.length ≤ j * s) : blk s j l = [] := by
  unfold blk
  rw [List.drop_of_length_le h, List.take_nil]
/-- One block more. -/
theorem blk_more (ho : Ord lt) {s k : Nat} {P X Q : List α} (hP : P.length = k * s) (h : ∀ j, j < k → Sorted lt (blk s j (P ++ X ++ Q))) (hX : X.length = s ∨ X.length ≤ s ∧ Q = []) : ∀ j, j < k + 1 → Sorted lt (blk s j (P ++ sortS lt X ++ Q)) := by
  intro j hj
  rcases Nat.lt_or_ge j k with h1 | h1
  · have := h j h1
    rw [List.append_assoc, blk_front hP h1] at this ⊢
    exact this
  · obtain rfl : j = k := by omega
    rw [blk_at hP (by rw [sortS_len]; exact hX)]
    exact sortS_sorted ho X
theorem steq_part (ho : Ord lt) (P X Q : List α) : StEq lt (P ++ sortS lt X ++ Q) (P ++ X ++ Q) := StEq.app (StEq.app (.refl _) (sortS_steq ho X)) (.refl _)
/-- A list, cut at two places. -/
theorem cut3 (l : List α) (a s : Nat) : l.take a ++ (l.drop a).take s ++ l.drop (a + s) = l := by
  rw [List.append_assoc, ← List.drop_drop, List.take_append_drop, List.take_append_drop]
theorem cut4 (l : List α) (a s t : Nat) : l.take a ++ (l.drop a).take s ++ (l.drop (a + s)).take t ++ l.drop (a + s + t) = l := by
  have e : (l.drop (a + s)).take t ++ l.drop (a + s + t) = l.drop (a + s) := by
    have := List.take_append_drop t (l.drop (a + s))
    rwa [List.drop_drop] at this
  rw [List.append_assoc, e, cut3]
end St
end Go.Proofs.Ytfmmemboakdeiaa
namespace Go.Proofs.Ytfmmemboakdeiaa
open Go.Proofs.YtfmmemboakdeiaaAw Go.RowKit
set_option linter.unusedVariables false
set_option linter.unusedSimpArgs false
namespace SV
theorem symMerge_does (H : AHeap) (id ver : Nat) (hid : id < H.length) (g : FuncId) (caps : List AV) (c : Val → Val → Int) (ho : St.Ord (ltC c)) (hc : CmpOk g caps c H id) (n : Nat) (hbig : n ≤ 1000000000000) : ∀ (N : Nat) (P X Y Q L L' : List Val) (a m b : Nat), X.length + Y.length ≤ N →
    L = P ++ X ++ Y ++ Q → L' = P ++ St.sortS (ltC c) (X ++ Y) ++ Q → P.length = a → P.length + X.length = m → P.length + X.length + Y.length = b → 0 < X.length → 0 < Y.length → St.Sorted (ltC c) X → St.Sorted (ltC c) Y → L.length = n →
    Does Try.prog 65 [.sl id ver 0 n, iA a, iA m, iA b, .fn g caps] (aH H id ver L) (.ok (.tup [])) (aH H id ver L') := by
  intro N
  induction N with
  | zero => intros; omega
  | succ N ih =>
    intro P X Y Q L L' a m b hN hL hL' ha hm hb hX0 hY0 hX hY hn
    by_cases h1 : X.length = 1
    · exact sym1_does H id ver hid g caps c ho hc n hbig P X Y Q L L' a m b hL hL' ha hm hb hX0 hY0 hX hY hn h1
    · by_cases h2 : Y.length = 1
      · exact sym2_does H id ver hid g caps c ho hc n hbig P X Y Q L L' a m b hL hL' ha hm hb hX0 hY0 hX hY hn h1 h2
      · exact sym3_does H id ver hid g caps c ho hc n hbig P X Y Q L L' a m b hL hL' ha hm hb hX0 hY0 hX hY hn h1 h2 fun P' X' Y' Q' L1 L2 a' m' b' hlt => ih P' X' Y' Q' L1 L2 a' m' b' (by omega)
set_option maxRecDepth 10000 in
set_option maxHeartbeats 4000000 in
theorem stable_does (H : AHeap) (id ver : Nat) (hid : id < H.length) (g : FuncId) (caps : List AV) (c : Val → Val → Int) (ho : St.Ord (ltC c)) (hc : CmpOk g caps c H id) (n : Nat) (hbig : n ≤ 100000000000) (L : List Val) (hn : L.length = n) :
    Does Try.prog 47 [.sl id ver 0 n, iA n, .fn g caps] (aH H id ver L) (.ok (.tup [])) (aH H id ver (St.sortS (ltC c) L)) := by
  generalize hE0 : aH H id ver L = E0
  generalize hE1 : aH H id ver (St.sortS (ltC c) L) = E1
  refine Does.of_awp (hint := (fun _ => false)) Try.func47 (by kernel_rfl) rfl [] (by kernel_rfl) (by decide) (by simp [Try.ntmps47]) ?_
  rw [Try.ntmps47]
  simp (implicitDefEqProofs := false) only [↓reduceIte, go_sem, oread, owrite, Nat.reduceAdd, Nat.reduceSub, Nat.reduceMul, Nat.reduceLT, Nat.reduceLeDiff, Nat.reduceEqDiff, Nat.reduceBEq, Int.reduceLE, Int.reduceLT, Int.reduceEq, Int.reduceNe, Int.reduceAdd, Int.reduceSub, Int.reduceMul, Int.reduceNeg, Int.reduceToNat, Int.reduceNatCast, reduceCtorEq, eq_self]
  refine awp_cutB (fun s H' => (∃ Lk, H' = aH H id ver Lk ∧ St.StEq (ltC c) Lk L ∧ Lk.length = n ∧ (∃ k, k * 20 ≤ n ∧ n < (k + 1) * 20 ∧ (∀ j, j < k → St.Sorted (ltC c) (St.blk 20 j Lk)) ∧ s 7 = iA ((k * 20 : Nat) : Int))) ∧ s 0 = .sl id ver 0 n ∧ s 1 = iA n ∧ s 2 = .fn g caps ∧ s 6 = iA 20) rfl ?_ ?_
  · refine awp_loop _ _ _ _ (fun (k : Nat) s H' => k * 20 ≤ n ∧ (∃ Lk, H' = aH H id ver Lk ∧ St.StEq (ltC c) Lk L ∧ Lk.length = n ∧ ∀ j, j < k → St.Sorted (ltC c) (St.blk 20 j Lk)) ∧ s 0 = .sl id ver 0 n ∧ s 1 = iA n ∧ s 2 = .fn g caps ∧ s 6 = iA 20 ∧ s 7 = iA ((k * 20 : Nat) : Int) ∧ s 8 = iA (((k + 1) * 20 : Nat) : Int)) (fun k => n - k) 0 (Weak.refl _ _) ?_ ?_
    · refine ⟨by omega, ⟨L, hE0.symm, .refl _, hn, fun j hj => by omega⟩, ?_⟩
      simp (implicitDefEqProofs := false) only [↓reduceIte, go_sem, oread, owrite, Nat.reduceAdd, Nat.reduceSub, Nat.reduceMul, Nat.reduceLT, Nat.reduceLeDiff, Nat.reduceEqDiff, Nat.reduceBEq, Int.reduceLE, Int.reduceLT, Int.reduceEq, Int.reduceNe, Int.reduceAdd, Int.reduceSub, Int.reduceMul, Int.reduceNeg, Int.reduceToNat, Int.reduceNatCast, reduceCtorEq, eq_self]
    · rintro k s H' ⟨hk, ⟨Lk, rfl, hst, hlen, hso⟩, t0, t1, t2, t6, t7, t8⟩
      obtain ⟨a, ha⟩ : ∃ a, a = k * 20 := ⟨_, rfl⟩
      obtain ⟨b, hb⟩ : ∃ b, b = (k + 1) * 20 := ⟨_, rfl⟩
      rw [← ha] at t7
      rw [← hb] at t8
      by_cases hbn : b ≤ n
      · obtain ⟨P, hP⟩ : ∃ P, P = Lk.take a := ⟨_, rfl⟩
        obtain ⟨X, hX⟩ : ∃ X, X = (Lk.drop a).take 20 := ⟨_, rfl⟩
        obtain ⟨Q, hQ⟩ : ∃ Q, Q = Lk.drop (a + 20) := ⟨_, rfl⟩
        have hc3 : Lk = P ++ X ++ Q := by rw [hP, hX, hQ, St.cut3]
        have lP : P.length = a := by rw [hP, List.length_take]; omega
        have lX : X.length = 20 := by rw [hX, List.length_take, List.length_drop]; omega
        obtain ⟨L1, hL1⟩ : ∃ L1, L1 = P ++ St.sortS (ltC c) X ++ Q := ⟨_, rfl⟩
        have lL1 : L1.length = n := by rw [hL1, ← hlen, hc3]; simp [St.sortS_len]
        have hso1 : ∀ j, j < k + 1 → St.Sorted (ltC c) (St.blk 20 j L1) := by
          rw [hL1]; exact St.blk_more ho (by omega) (by rw [← hc3]; exact hso) (.inl lX)
        have hst1 : St.StEq (ltC c) L1 L := by
          refine St.StEq.trans ?_ hst
          rw [hL1, hc3]; exact St.steq_part ho P X Q
        have w1 : IntKind.i64.wrap ((b : Int) + 20) = (((k + 1 + 1) * 20 : Nat) : Int) := by rw [wrap64_in _ (by omega) (by omega)]; omega
        obtain ⟨b2, hb2⟩ : ∃ b2, b2 = (k + 1 + 1) * 20 := ⟨_, rfl⟩
        rw [← hb2] at w1
        simp (implicitDefEqProofs := false) only [↓reduceIte, go_sem, oread, owrite, Nat.reduceAdd, Nat.reduceSub, Nat.reduceMul, Nat.reduceLT, Nat.reduceLeDiff, Nat.reduceEqDiff, Nat.reduceBEq, Int.reduceLE, Int.reduceLT, Int.reduceEq, Int.reduceNe, Int.reduceAdd, Int.reduceSub, Int.reduceMul, Int.reduceNeg, Int.reduceToNat, Int.reduceNatCast, reduceCtorEq, eq_self, t1, t8, eq_true hbn]
        simp (implicitDefEqProofs := false) only [↓reduceIte, go_sem, oread, owrite, Nat.reduceAdd, Nat.reduceSub, Nat.reduceMul, Nat.reduceLT, Nat.reduceLeDiff, Nat.reduceEqDiff, Nat.reduceBEq, Int.reduceLE, Int.reduceLT, Int.reduceEq, Int.reduceNe, Int.reduceAdd, Int.reduceSub, Int.reduceMul, Int.reduceNeg, Int.reduceToNat, Int.reduceNatCast, reduceCtorEq, eq_self, t0, t2, t7, t8]
        refine KCall.ok (insSort_does H id ver hid g caps c ho hc P X Q Lk L1 hc3 hL1 a b n lP (by omega) hlen (by omega)) ?_
        simp (implicitDefEqProofs := false) only [↓reduceIte, go_sem, oread, owrite, Nat.reduceAdd, Nat.reduceSub, Nat.reduceMul, Nat.reduceLT, Nat.reduceLeDiff, Nat.reduceEqDiff, Nat.reduceBEq, Int.reduceLE, Int.reduceLT, Int.reduceEq, Int.reduceNe, Int.reduceAdd, Int.reduceSub, Int.reduceMul, Int.reduceNeg, Int.reduceToNat, Int.reduceNatCast, reduceCtorEq, eq_self, t6, t8, w1]
        refine ⟨_, _, k + 1, Weak.refl _ _, ⟨by omega, ⟨L1, rfl, hst1, lL1, hso1⟩, ?_⟩, by omega⟩
        rw [← hb, ← hb2]
        simp (implicitDefEqProofs := false) only [↓reduceIte, go_sem, oread, owrite, Nat.reduceAdd, Nat.reduceSub, Nat.reduceMul, Nat.reduceLT, Nat.reduceLeDiff, Nat.reduceEqDiff, Nat.reduceBEq, Int.reduceLE, Int.reduceLT, Int.reduceEq, Int.reduceNe, Int.reduceAdd, Int.reduceSub, Int.reduceMul, Int.reduceNeg, Int.reduceToNat, Int.reduceNatCast, reduceCtorEq, eq_self, t0, t1, t2, t6]
      · simp (implicitDefEqProofs := false) only [↓reduceIte, go_sem, oread, owrite, Nat.reduceAdd, Nat.reduceSub, Nat.reduceMul, Nat.reduceLT, Nat.reduceLeDiff, Nat.reduceEqDiff, Nat.reduceBEq, Int.reduceLE, Int.reduceLT, Int.reduceEq, Int.reduceNe, Int.reduceAdd, Int.reduceSub, Int.reduceMul, Int.reduceNeg, Int.reduceToNat, Int.reduceNatCast, reduceCtorEq, eq_self, t1, t8, eq_false hbn]
        refine ⟨⟨Lk, rfl, hst, hlen, k, by omega, by omega, hso, ?_⟩, ?_⟩
        · rw [← ha]; simp (implicitDefEqProofs := false) only [↓reduceIte, go_sem, oread, owrite, Nat.reduceAdd, Nat.reduceSub, Nat.reduceMul, Nat.reduceLT, Nat.reduceLeDiff, Nat.reduceEqDiff, Nat.reduceBEq, Int.reduceLE, Int.reduceLT, Int.reduceEq, Int.reduceNe, Int.reduceAdd, Int.reduceSub, Int.reduceMul, Int.reduceNeg, Int.reduceToNat, Int.reduceNatCast, reduceCtorEq, eq_self, t7]
        · simp (implicitDefEqProofs := false) only [↓reduceIte, go_sem, oread, owrite, Nat.reduceAdd, Nat.reduceSub, Nat.reduceMul, Nat.reduceLT, Nat.reduceLeDiff, Nat.reduceEqDiff, Nat.reduceBEq, Int.reduceLE, Int.reduceLT, Int.reduceEq, Int.reduceNe, Int.reduceAdd, Int.reduceSub, Int.reduceMul, Int.reduceNeg, Int.reduceToNat, Int.reduceNatCast, reduceCtorEq, eq_self, t0, t1, t2, t6]
  rintro s H' ⟨⟨Lk, rfl, hst, hlen, k, hk1, hk2, hso, t7⟩, t0, t1, t2, t6⟩
  obtain ⟨a, ha⟩ : ∃ a, a = k * 20 := ⟨_, rfl⟩
  rw [← ha] at t7
  have hc3 : Lk = Lk.take a ++ Lk.drop a ++ [] := by simp
  obtain ⟨L1, hL1⟩ : ∃ L1, L1 = Lk.take a ++ St.sortS (ltC c) (Lk.drop a) ++ [] := ⟨_, rfl⟩
  have lP : (Lk.take a).length = a := by rw [List.length_take]; omega
  have lX : (Lk.drop a).length = n - a := by rw [List.length_drop]; omega
  have lL1 : L1.length = n := by rw [hL1]; simp only [List.length_append, St.sortS_len, lP, lX, List.length_nil]; omega
  have hst1 : St.StEq (ltC c) L1 L := by
    refine St.StEq.trans ?_ hst
    rw [hL1]
    have := St.steq_part ho (Lk.take a) (Lk.drop a) []
    rwa [← hc3] at this
  have hb1 : ∀ j, St.Sorted (ltC c) (St.blk 20 j L1) := by
    intro j
    rcases Nat.lt_or_ge j (k + 1) with h | h
    · rw [hL1]
      exact St.blk_more ho (by omega) (by rw [← hc3]; exact hso) (.inr ⟨by omega, rfl⟩) j h
    · have := Nat.mul_le_mul_right 20 h
      rw [St.blk_out (by omega)]
      exact List.Pairwise.nil
  simp (implicitDefEqProofs := false) only [↓reduceIte, go_sem, oread, owrite, Nat.reduceAdd, Nat.reduceSub, Nat.reduceMul, Nat.reduceLT, Nat.reduceLeDiff, Nat.reduceEqDiff, Nat.reduceBEq, Int.reduceLE, Int.reduceLT, Int.reduceEq, Int.reduceNe, Int.reduceAdd, Int.reduceSub, Int.reduceMul, Int.reduceNeg, Int.reduceToNat, Int.reduceNatCast, reduceCtorEq, eq_self, t0, t1, t2, t7]
  refine KCall.ok (insSort_does H id ver hid g caps c ho hc _ _ _ Lk L1 hc3 hL1 a n n lP (by omega) hlen (by omega)) ?_
  clear hc3 hL1 lP lX hst hso hlen
  simp (implicitDefEqProofs := false) only [↓reduceIte, go_sem, oread, owrite, Nat.reduceAdd, Nat.reduceSub, Nat.reduceMul, Nat.reduceLT, Nat.reduceLeDiff, Nat.reduceEqDiff, Nat.reduceBEq, Int.reduceLE, Int.reduceLT, Int.reduceEq, Int.reduceNe, Int.reduceAdd, Int.reduceSub, Int.reduceMul, Int.reduceNeg, Int.reduceToNat, Int.reduceNatCast, reduceCtorEq, eq_self]
  refine awp_loop _ _ _ _ (fun (z : Nat) s H' => 20 ≤ z ∧ z ≤ 2 * n + 20 ∧ (∃ Lk, H' = aH H id ver Lk ∧ St.StEq (ltC c) Lk L ∧ Lk.length = n ∧ ∀ j, St.Sorted (ltC c) (St.blk z j Lk)) ∧ s 0 = .sl id ver 0 n ∧ s 1 = iA n ∧ s 2 = .fn g caps ∧ s 6 = iA z) (fun z => n - z) 20 (Weak.refl _ _) ?_ ?_
  · refine ⟨Nat.le_refl _, by omega, ⟨L1, rfl, hst1, lL1, hb1⟩, ?_⟩
    simp (implicitDefEqProofs := false) only [↓reduceIte, go_sem, oread, owrite, Nat.reduceAdd, Nat.reduceSub, Nat.reduceMul, Nat.reduceLT, Nat.reduceLeDiff, Nat.reduceEqDiff, Nat.reduceBEq, Int.reduceLE, Int.reduceLT, Int.reduceEq, Int.reduceNe, Int.reduceAdd, Int.reduceSub, Int.reduceMul, Int.reduceNeg, Int.reduceToNat, Int.reduceNatCast, reduceCtorEq, eq_self, t0, t1, t2, t6]
  clear hb1 hst1 lL1 t0 t1 t2 t6 t7 hk1 hk2 ha
  rintro z s H' ⟨hz1, hz2, ⟨Lk, rfl, hst, hlen, hbl⟩, t0, t1, t2, t6⟩
  by_cases hzn : z < n
  · have w1 : IntKind.i64.wrap (2 * (z : Int)) = ((2 * z : Nat) : Int) := by rw [wrap64_in _ (by omega) (by omega)]; omega
    have w1' : IntKind.i64.wrap ((z : Int) * 2) = ((2 * z : Nat) : Int) := by rw [wrap64_in _ (by omega) (by omega)]; omega
    obtain ⟨y, hy⟩ : ∃ y, y = 2 * z := ⟨_, rfl⟩
    rw [← hy] at w1 w1'
    simp (implicitDefEqProofs := false) only [↓reduceIte, go_sem, oread, owrite, Nat.reduceAdd, Nat.reduceSub, Nat.reduceMul, Nat.reduceLT, Nat.reduceLeDiff, Nat.reduceEqDiff, Nat.reduceBEq, Int.reduceLE, Int.reduceLT, Int.reduceEq, Int.reduceNe, Int.reduceAdd, Int.reduceSub, Int.reduceMul, Int.reduceNeg, Int.reduceToNat, Int.reduceNatCast, reduceCtorEq, eq_self, t1, t6, eq_true hzn, w1]
    refine awp_cutB (fun s H' => (∃ Lk, H' = aH H id ver Lk ∧ St.StEq (ltC c) Lk L ∧ Lk.length = n ∧ ∃ k a, a = k * y ∧ a = 2 * k * z ∧ a ≤ n ∧ n < a + y ∧ (∀ j, j < k → St.Sorted (ltC c) (St.blk y j Lk)) ∧ (∀ j, 2 * k ≤ j → St.Sorted (ltC c) (St.blk z j Lk)) ∧ s 7 = iA a) ∧ s 0 = .sl id ver 0 n ∧ s 1 = iA n ∧ s 2 = .fn g caps ∧ s 6 = iA z) rfl ?_ ?_
    · refine awp_loop _ _ _ _ (fun (k : Nat) s H' => (∃ a, a = k * y ∧ a = 2 * k * z ∧ a ≤ n ∧ s 7 = iA a ∧ s 8 = iA ((a + y : Nat) : Int)) ∧ (∃ Lk, H' = aH H id ver Lk ∧ St.StEq (ltC c) Lk L ∧ Lk.length = n ∧ (∀ j, j < k → St.Sorted (ltC c) (St.blk y j Lk)) ∧ (∀ j, 2 * k ≤ j → St.Sorted (ltC c) (St.blk z j Lk))) ∧ s 0 = .sl id ver 0 n ∧ s 1 = iA n ∧ s 2 = .fn g caps ∧ s 6 = iA z) (fun k => n + 1 - k * y) 0 (Weak.refl _ _) ?_ ?_
      · refine ⟨⟨0, by omega, by omega, by omega, ?_⟩, ⟨Lk, rfl, hst, hlen, fun j hj => by omega, fun j _ => hbl j⟩, ?_⟩
        · simp (implicitDefEqProofs := false) only [↓reduceIte, go_sem, oread, owrite, Nat.reduceAdd, Nat.reduceSub, Nat.reduceMul, Nat.reduceLT, Nat.reduceLeDiff, Nat.reduceEqDiff, Nat.reduceBEq, Int.reduceLE, Int.reduceLT, Int.reduceEq, Int.reduceNe, Int.reduceAdd, Int.reduceSub, Int.reduceMul, Int.reduceNeg, Int.reduceToNat, Int.reduceNatCast, reduceCtorEq, eq_self, Nat.zero_add]
        · simp (implicitDefEqProofs := false) only [↓reduceIte, go_sem, oread, owrite, Nat.reduceAdd, Nat.reduceSub, Nat.reduceMul, Nat.reduceLT, Nat.reduceLeDiff, Nat.reduceEqDiff, Nat.reduceBEq, Int.reduceLE, Int.reduceLT, Int.reduceEq, Int.reduceNe, Int.reduceAdd, Int.reduceSub, Int.reduceMul, Int.reduceNeg, Int.reduceToNat, Int.reduceNatCast, reduceCtorEq, eq_self, t0, t1, t2, t6]
      clear hst hlen hbl Lk t0 t1 t2 t6
      rintro k s H' ⟨⟨a, ha, ha2, han, t7, t8⟩, ⟨Lk, rfl, hst, hlen, hso, hso2⟩, t0, t1, t2, t6⟩
      obtain ⟨b, hb⟩ : ∃ b, b = a + y := ⟨_, rfl⟩
      rw [← hb] at t8
      have hk1 : (k + 1) * y = a + y := by rw [Nat.add_mul, ← ha, Nat.one_mul]
      have hk2 : 2 * (k + 1) * z = a + 2 * z := by rw [Nat.mul_add, Nat.add_mul, ← ha2]
      have hk3 : (2 * k + 1) * z = a + z := by rw [Nat.add_mul, ← ha2, Nat.one_mul]
      by_cases hbn : b ≤ n
      · obtain ⟨P, hP⟩ : ∃ P, P = Lk.take a := ⟨_, rfl⟩
        obtain ⟨X, hX⟩ : ∃ X, X = (Lk.drop a).take z := ⟨_, rfl⟩
        obtain ⟨Y, hY⟩ : ∃ Y, Y = (Lk.drop (a + z)).take z := ⟨_, rfl⟩
        obtain ⟨Q, hQ⟩ : ∃ Q, Q = Lk.drop (a + z + z) := ⟨_, rfl⟩
        have hc4 : Lk = P ++ X ++ Y ++ Q := by rw [hP, hX, hY, hQ, St.cut4]
        have hc5 : Lk = P ++ (X ++ Y) ++ Q := by rw [hc4]; simp
        have lP : P.length = a := by rw [hP, List.length_take]; omega
        have lX : X.length = z := by rw [hX, List.length_take, List.length_drop]; omega
        have lY : Y.length = z := by rw [hY, List.length_take, List.length_drop]; omega
        have lXY : (X ++ Y).length = y := by rw [List.length_append]; omega
        have sX : St.Sorted (ltC c) X := by have := hso2 (2 * k) (Nat.le_refl _); rw [St.blk, ← ha2, ← hX] at this; exact this
        have sY : St.Sorted (ltC c) Y := by have := hso2 (2 * k + 1) (by omega); rw [St.blk, hk3, ← hY] at this; exact this
        obtain ⟨L1, hL1⟩ : ∃ L1, L1 = P ++ St.sortS (ltC c) (X ++ Y) ++ Q := ⟨_, rfl⟩
        have lL1 : L1.length = n := by rw [hL1, ← hlen, hc5]; simp [St.sortS_len]; try omega
        have hst1 : St.StEq (ltC c) L1 L := by
          refine St.StEq.trans ?_ hst
          rw [hL1, hc5]; exact St.steq_part ho P (X ++ Y) Q
        have hso1 : ∀ j, j < k + 1 → St.Sorted (ltC c) (St.blk y j L1) := by
          rw [hL1]; exact St.blk_more ho (by omega) (by rw [← hc5]; exact hso) (.inl lXY)
        have hso3 : ∀ j, 2 * (k + 1) ≤ j → St.Sorted (ltC c) (St.blk z j L1) := fun j hj => by
          have h1 := Nat.mul_le_mul_right z hj
          rw [hL1, St.blk_behind (X' := X ++ Y) (St.sortS_len _) (by rw [St.sortS_len, lXY, lP]; omega), ← hc5]
          exact hso2 j (by omega)
        clear hP hX hY hQ hst hso hso2
        obtain ⟨m, hm⟩ : ∃ m, m = a + z := ⟨_, rfl⟩
        obtain ⟨b2, hb2⟩ : ∃ b2, b2 = b + y := ⟨_, rfl⟩
        have w2 : IntKind.i64.wrap ((a : Int) + (z : Int)) = (m : Int) := by rw [wrap64_in _ (by omega) (by omega)]; omega
        have w3 : IntKind.i64.wrap ((b : Int) + (y : Int)) = (b2 : Int) := by rw [wrap64_in _ (by omega) (by omega)]; omega
        simp (implicitDefEqProofs := false) only [↓reduceIte, go_sem, oread, owrite, Nat.reduceAdd, Nat.reduceSub, Nat.reduceMul, Nat.reduceLT, Nat.reduceLeDiff, Nat.reduceEqDiff, Nat.reduceBEq, Int.reduceLE, Int.reduceLT, Int.reduceEq, Int.reduceNe, Int.reduceAdd, Int.reduceSub, Int.reduceMul, Int.reduceNeg, Int.reduceToNat, Int.reduceNatCast, reduceCtorEq, eq_self, t1, t8, eq_true hbn]
        simp (implicitDefEqProofs := false) only [↓reduceIte, go_sem, oread, owrite, Nat.reduceAdd, Nat.reduceSub, Nat.reduceMul, Nat.reduceLT, Nat.reduceLeDiff, Nat.reduceEqDiff, Nat.reduceBEq, Int.reduceLE, Int.reduceLT, Int.reduceEq, Int.reduceNe, Int.reduceAdd, Int.reduceSub, Int.reduceMul, Int.reduceNeg, Int.reduceToNat, Int.reduceNatCast, reduceCtorEq, eq_self, t0, t2, t6, t7, t8, w2]
        refine KCall.ok (symMerge_does H id ver hid g caps c ho hc n (by omega) _ P X Y Q Lk L1 a m b (Nat.le_refl _) hc4 hL1 lP (by omega) (by omega) (by omega) (by omega) sX sY hlen) ?_
        simp (implicitDefEqProofs := false) only [↓reduceIte, go_sem, oread, owrite, Nat.reduceAdd, Nat.reduceSub, Nat.reduceMul, Nat.reduceLT, Nat.reduceLeDiff, Nat.reduceEqDiff, Nat.reduceBEq, Int.reduceLE, Int.reduceLT, Int.reduceEq, Int.reduceNe, Int.reduceAdd, Int.reduceSub, Int.reduceMul, Int.reduceNeg, Int.reduceToNat, Int.reduceNatCast, reduceCtorEq, eq_self, t6, t8, w1, w3]
        refine ⟨_, _, k + 1, Weak.refl _ _, ⟨⟨b, by omega, by omega, hbn, ?_⟩, ⟨L1, rfl, hst1, lL1, hso1, hso3⟩, ?_⟩, by omega⟩
        · simp (implicitDefEqProofs := false) only [↓reduceIte, go_sem, oread, owrite, Nat.reduceAdd, Nat.reduceSub, Nat.reduceMul, Nat.reduceLT, Nat.reduceLeDiff, Nat.reduceEqDiff, Nat.reduceBEq, Int.reduceLE, Int.reduceLT, Int.reduceEq, Int.reduceNe, Int.reduceAdd, Int.reduceSub, Int.reduceMul, Int.reduceNeg, Int.reduceToNat, Int.reduceNatCast, reduceCtorEq, eq_self, show ((b : Int) + (y : Int)) = (b2 : Int) by omega]
        · simp (implicitDefEqProofs := false) only [↓reduceIte, go_sem, oread, owrite, Nat.reduceAdd, Nat.reduceSub, Nat.reduceMul, Nat.reduceLT, Nat.reduceLeDiff, Nat.reduceEqDiff, Nat.reduceBEq, Int.reduceLE, Int.reduceLT, Int.reduceEq, Int.reduceNe, Int.reduceAdd, Int.reduceSub, Int.reduceMul, Int.reduceNeg, Int.reduceToNat, Int.reduceNatCast, reduceCtorEq, eq_self, t0, t1, t2, t6]
      · simp (implicitDefEqProofs := false) only [↓reduceIte, go_sem, oread, owrite, Nat.reduceAdd, Nat.reduceSub, Nat.reduceMul, Nat.reduceLT, Nat.reduceLeDiff, Nat.reduceEqDiff, Nat.reduceBEq, Int.reduceLE, Int.reduceLT, Int.reduceEq, Int.reduceNe, Int.reduceAdd, Int.reduceSub, Int.reduceMul, Int.reduceNeg, Int.reduceToNat, Int.reduceNatCast, reduceCtorEq, eq_self, t1, t8, eq_false hbn]
        refine ⟨⟨Lk, rfl, hst, hlen, k, a, ha, ha2, han, by omega, hso, hso2, ?_⟩, ?_⟩
        · simp (implicitDefEqProofs := false) only [↓reduceIte, go_sem, oread, owrite, Nat.reduceAdd, Nat.reduceSub, Nat.reduceMul, Nat.reduceLT, Nat.reduceLeDiff, Nat.reduceEqDiff, Nat.reduceBEq, Int.reduceLE, Int.reduceLT, Int.reduceEq, Int.reduceNe, Int.reduceAdd, Int.reduceSub, Int.reduceMul, Int.reduceNeg, Int.reduceToNat, Int.reduceNatCast, reduceCtorEq, eq_self, t7]
        · simp (implicitDefEqProofs := false) only [↓reduceIte, go_sem, oread, owrite, Nat.reduceAdd, Nat.reduceSub, Nat.reduceMul, Nat.reduceLT, Nat.reduceLeDiff, Nat.reduceEqDiff, Nat.reduceBEq, Int.reduceLE, Int.reduceLT, Int.reduceEq, Int.reduceNe, Int.reduceAdd, Int.reduceSub, Int.reduceMul, Int.reduceNeg, Int.reduceToNat, Int.reduceNatCast, reduceCtorEq, eq_self, t0, t1, t2, t6]
    clear hst hlen hbl Lk t0 t1 t2 t6
    rintro s H' ⟨⟨Lk, rfl, hst, hlen, k, a, ha, ha2, han, hna, hso, hso2, t7⟩, t0, t1, t2, t6⟩
    have hk3 : (2 * k + 1) * z = a + z := by rw [Nat.add_mul, ← ha2, Nat.one_mul]
    have hk1 : (k + 1) * y = a + y := by rw [Nat.add_mul, ← ha, Nat.one_mul]
    obtain ⟨m, hm⟩ : ∃ m, m = a + z := ⟨_, rfl⟩
    have w2 : IntKind.i64.wrap ((a : Int) + (z : Int)) = (m : Int) := by rw [wrap64_in _ (by omega) (by omega)]; omega
    have all : ∀ L1 : List Val, L1.length = n → (∀ j, j < k + 1 → St.Sorted (ltC c) (St.blk y j L1)) → ∀ j, St.Sorted (ltC c) (St.blk y j L1) := fun L1 hl h j => by
      rcases Nat.lt_or_ge j (k + 1) with h1 | h1
      · exact h j h1
      · have := Nat.mul_le_mul_right y h1
        rw [St.blk_out (by omega)]
        exact List.Pairwise.nil
    by_cases hmn : m < n
    · obtain ⟨P, hP⟩ : ∃ P, P = Lk.take a := ⟨_, rfl⟩
      obtain ⟨X, hX⟩ : ∃ X, X = (Lk.drop a).take z := ⟨_, rfl⟩
      obtain ⟨Y, hY⟩ : ∃ Y, Y = (Lk.drop (a + z)).take z := ⟨_, rfl⟩
      have hQ : Lk.drop (a + z + z) = [] := List.drop_of_length_le (by omega)
      have hc4 : Lk = P ++ X ++ Y ++ [] := by rw [hP, hX, hY, ← hQ, St.cut4]
      have hc5 : Lk = P ++ (X ++ Y) ++ [] := by rw [hc4]; simp
      have lP : P.length = a := by rw [hP, List.length_take]; omega
      have lX : X.length = z := by rw [hX, List.length_take, List.length_drop]; omega
      have lY : Y.length = n - m := by rw [hY, List.length_take, List.length_drop]; omega
      have lXY : (X ++ Y).length ≤ y := by rw [List.length_append]; omega
      have sX : St.Sorted (ltC c) X := by have := hso2 (2 * k) (Nat.le_refl _); rw [St.blk, ← ha2, ← hX] at this; exact this
      have sY : St.Sorted (ltC c) Y := by have := hso2 (2 * k + 1) (by omega); rw [St.blk, hk3, ← hY] at this; exact this
      obtain ⟨L1, hL1⟩ : ∃ L1, L1 = P ++ St.sortS (ltC c) (X ++ Y) ++ [] := ⟨_, rfl⟩
      have lL1 : L1.length = n := by rw [hL1, ← hlen, hc5]; simp [St.sortS_len]; try omega
      have hst1 : St.StEq (ltC c) L1 L := by
        refine St.StEq.trans ?_ hst
        rw [hL1]
        have := St.steq_part ho P (X ++ Y) []
        rwa [← hc5] at this
      have hso1 : ∀ j, j < k + 1 → St.Sorted (ltC c) (St.blk y j L1) := by
        rw [hL1]; exact St.blk_more ho (by omega) (by rw [← hc5]; exact hso) (.inr ⟨lXY, rfl⟩)
      clear hP hX hY hQ hst hso hso2
      simp (implicitDefEqProofs := false) only [↓reduceIte, go_sem, oread, owrite, Nat.reduceAdd, Nat.reduceSub, Nat.reduceMul, Nat.reduceLT, Nat.reduceLeDiff, Nat.reduceEqDiff, Nat.reduceBEq, Int.reduceLE, Int.reduceLT, Int.reduceEq, Int.reduceNe, Int.reduceAdd, Int.reduceSub, Int.reduceMul, Int.reduceNeg, Int.reduceToNat, Int.reduceNatCast, reduceCtorEq, eq_self, t1, t6, t7, w2, eq_true hmn]
      simp (implicitDefEqProofs := false) only [↓reduceIte, go_sem, oread, owrite, Nat.reduceAdd, Nat.reduceSub, Nat.reduceMul, Nat.reduceLT, Nat.reduceLeDiff, Nat.reduceEqDiff, Nat.reduceBEq, Int.reduceLE, Int.reduceLT, Int.reduceEq, Int.reduceNe, Int.reduceAdd, Int.reduceSub, Int.reduceMul, Int.reduceNeg, Int.reduceToNat, Int.reduceNatCast, reduceCtorEq, eq_self, t0, t1, t2, t7]
      refine KCall.ok (symMerge_does H id ver hid g caps c ho hc n (by omega) _ P X Y [] Lk L1 a m n (Nat.le_refl _) hc4 hL1 lP (by omega) (by omega) (by omega) (by omega) sX sY hlen) ?_
      simp (implicitDefEqProofs := false) only [↓reduceIte, go_sem, oread, owrite, Nat.reduceAdd, Nat.reduceSub, Nat.reduceMul, Nat.reduceLT, Nat.reduceLeDiff, Nat.reduceEqDiff, Nat.reduceBEq, Int.reduceLE, Int.reduceLT, Int.reduceEq, Int.reduceNe, Int.reduceAdd, Int.reduceSub, Int.reduceMul, Int.reduceNeg, Int.reduceToNat, Int.reduceNatCast, reduceCtorEq, eq_self, t6, w1']
      refine ⟨_, _, y, Weak.refl _ _, ⟨by omega, by omega, ⟨L1, rfl, hst1, lL1, all L1 lL1 hso1⟩, ?_⟩, by omega⟩
      simp (implicitDefEqProofs := false) only [↓reduceIte, go_sem, oread, owrite, Nat.reduceAdd, Nat.reduceSub, Nat.reduceMul, Nat.reduceLT, Nat.reduceLeDiff, Nat.reduceEqDiff, Nat.reduceBEq, Int.reduceLE, Int.reduceLT, Int.reduceEq, Int.reduceNe, Int.reduceAdd, Int.reduceSub, Int.reduceMul, Int.reduceNeg, Int.reduceToNat, Int.reduceNatCast, reduceCtorEq, eq_self, t0, t1, t2]
    · have hso1 : ∀ j, j < k + 1 → St.Sorted (ltC c) (St.blk y j Lk) := fun j hj => by
        rcases Nat.lt_or_ge j k with h | h
        · exact hso j h
        · obtain rfl : j = k := by omega
          have h1 := hso2 (2 * j) (Nat.le_refl _)
          unfold St.blk at h1 ⊢
          rw [← ha2, List.take_of_length_le (by rw [List.length_drop]; omega)] at h1
          rw [← ha, List.take_of_length_le (by rw [List.length_drop]; omega)]
          exact h1
      simp (implicitDefEqProofs := false) only [↓reduceIte, go_sem, oread, owrite, Nat.reduceAdd, Nat.reduceSub, Nat.reduceMul, Nat.reduceLT, Nat.reduceLeDiff, Nat.reduceEqDiff, Nat.reduceBEq, Int.reduceLE, Int.reduceLT, Int.reduceEq, Int.reduceNe, Int.reduceAdd, Int.reduceSub, Int.reduceMul, Int.reduceNeg, Int.reduceToNat, Int.reduceNatCast, reduceCtorEq, eq_self, t1, t6, t7, w2, eq_false hmn, w1']
      refine ⟨_, _, y, Weak.refl _ _, ⟨by omega, by omega, ⟨Lk, rfl, hst, hlen, all Lk hlen hso1⟩, ?_⟩, by omega⟩
      simp (implicitDefEqProofs := false) only [↓reduceIte, go_sem, oread, owrite, Nat.reduceAdd, Nat.reduceSub, Nat.reduceMul, Nat.reduceLT, Nat.reduceLeDiff, Nat.reduceEqDiff, Nat.reduceBEq, Int.reduceLE, Int.reduceLT, Int.reduceEq, Int.reduceNe, Int.reduceAdd, Int.reduceSub, Int.reduceMul, Int.reduceNeg, Int.reduceToNat, Int.reduceNatCast, reduceCtorEq, eq_self, t0, t1, t2]
  · simp (implicitDefEqProofs := false) only [↓reduceIte, go_sem, oread, owrite, Nat.reduceAdd, Nat.reduceSub, Nat.reduceMul, Nat.reduceLT, Nat.reduceLeDiff, Nat.reduceEqDiff, Nat.reduceBEq, Int.reduceLE, Int.reduceLT, Int.reduceEq, Int.reduceNe, Int.reduceAdd, Int.reduceSub, Int.reduceMul, Int.reduceNeg, Int.reduceToNat, Int.reduceNatCast, reduceCtorEq, eq_self, t1, t6, eq_false hzn]
    have h0 := hbl 0
    unfold St.blk at h0
    rw [Nat.zero_mul, List.drop_zero, List.take_of_length_le (by omega)] at h0
    rw [← hE1, St.sortS_eq ho h0 hst]
    exact ⟨_, Weak.refl _ _, rfl⟩
set_option maxRecDepth 10000 in
theorem sort_does (H : AHeap) (id ver : Nat) (hid : id < H.length) (g : FuncId) (caps : List AV) (c : Val → Val → Int) (ho : St.Ord (ltC c)) (hc : CmpOk g caps c H id) (n : Nat) (hbig : n ≤ 100000000000) (L : List Val) (hn : L.length = n) :
    Does Try.prog 26 [.sl id ver 0 n, .fn g caps] (aH H id ver L) (.ok (.tup [])) (aH H id ver (St.sortS (ltC c) L)) := by
  have gh := aH_get hid ver L
  have hs := stable_does H id ver hid g caps c ho hc n hbig L hn
  generalize aH H id ver L = E0 at *
  refine Does.of_awp (hint := (fun _ => false)) Try.func26 (by kernel_rfl) rfl [] (by kernel_rfl) (by decide) (by simp [Try.ntmps26]) ?_
  rw [Try.ntmps26]
  simp (implicitDefEqProofs := false) only [↓reduceIte, go_sem, oread, owrite, Nat.reduceAdd, Nat.reduceSub, Nat.reduceMul, Nat.reduceLT, Nat.reduceLeDiff, Nat.reduceEqDiff, Nat.reduceBEq, Int.reduceLE, Int.reduceLT, Int.reduceEq, Int.reduceNe, Int.reduceAdd, Int.reduceSub, Int.reduceMul, Int.reduceNeg, Int.reduceToNat, Int.reduceNatCast, reduceCtorEq, eq_self, gh]
  refine KCall.ok hs ?_
  simp (implicitDefEqProofs := false) only [↓reduceIte, go_sem, oread, owrite, Nat.reduceAdd, Nat.reduceSub, Nat.reduceMul, Nat.reduceLT, Nat.reduceLeDiff, Nat.reduceEqDiff, Nat.reduceBEq, Int.reduceLE, Int.reduceLT, Int.reduceEq, Int.reduceNe, Int.reduceAdd, Int.reduceSub, Int.reduceMul, Int.reduceNeg, Int.reduceToNat, Int.reduceNatCast, reduceCtorEq, eq_self]
  exact ⟨_, Weak.refl _ _, rfl⟩
end SV
end Go.Proofs.Ytfmmemboakdeiaa
namespace Go.Proofs.Ytfmmemboakdeiaa
open Go.Proofs.YtfmmemboakdeiaaAw Go.RowKit
set_option linter.unusedVariables false
set_option linter.unusedSimpArgs false
namespace SV
def EqOk (g : FuncId) (caps : List AV) (c : Val → Val → Bool) (H : AHeap) (id : Nat) : Prop := ∀ (o : AObj) (x y : Val), Does Try.prog g ([.agg (x.enc.map .d), .agg (y.enc.map .d)] ++ caps) (H.set id o) (.ok (bA (c x y))) (H.set id o)
def zrow : List D := [iD 0, iD 0, .v (.string ⟨#[]⟩)]
def compH (H : AHeap) (id ver : Nat) (c : Val → Val → Bool) (L : List Val) : AHeap := H.set id (.arr 26 3 ver ((St.compactP c L).map Val.enc ++ List.replicate (L.length - (St.compactP c L).length) zrow))
theorem compH_same (H : AHeap) (id ver : Nat) (c : Val → Val → Bool) (L : List Val) (h : St.compactP c L = L) : compH H id ver c L = aH H id ver L := by
  unfold compH aH
  rw [h, Nat.sub_self, List.replicate_zero, List.append_nil]
set_option maxRecDepth 10000 in
set_option maxHeartbeats 4000000 in
theorem compact_does (H : AHeap) (id ver : Nat) (hid : id < H.length) (g : FuncId) (caps : List AV) (c : Val → Val → Bool) (hc : EqOk g caps c H id) (n : Nat) (hbig : n ≤ 100000000000) (L : List Val) (hn : L.length = n) :
    Does Try.prog 28 [.sl id ver 0 n, .fn g caps] (aH H id ver L) (.ok (.sl id ver 0 (St.compactP c L).length)) (compH H id ver c L) := by
  have gh := aH_get hid ver L
  have hcE : ∀ M : List Val, ∀ x y : Val, Does Try.prog g ([.agg (x.enc.map .d), .agg (y.enc.map .d)] ++ caps) (aH H id ver M) (.ok (bA (c x y))) (aH H id ver M) := fun M x y => hc _ x y
  generalize hE1 : compH H id ver c L = E1
  by_cases h2 : n < 2
  · have hsame : St.compactP c L = L := by
      cases L with
      | nil => rfl
      | cons x t =>
        cases t with
        | nil => rfl
        | cons y t => simp at hn; omega
    have he : aH H id ver L = E1 := by rw [← hE1, compH_same _ _ _ _ _ hsame]
    rw [hsame, hn]
    generalize aH H id ver L = E0 at *
    subst he
    refine Does.of_awp (hint := (fun _ => false)) Try.func28 (by kernel_rfl) rfl [4] (by kernel_rfl) (by decide) (by simp [Try.ntmps28]) ?_
    rw [Try.ntmps28]
    simp (implicitDefEqProofs := false) only [↓reduceIte, go_sem, oread, owrite, Nat.reduceAdd, Nat.reduceSub, Nat.reduceMul, Nat.reduceLT, Nat.reduceLeDiff, Nat.reduceEqDiff, Nat.reduceBEq, Int.reduceLE, Int.reduceLT, Int.reduceEq, Int.reduceNe, Int.reduceAdd, Int.reduceSub, Int.reduceMul, Int.reduceNeg, Int.reduceToNat, Int.reduceNatCast, reduceCtorEq, eq_self, gh, show ((n : Int) < 2) = True from eq_true (by omega)]
    refine AEnd.ret0 ?_
    simp (implicitDefEqProofs := false) only [↓reduceIte, go_sem, oread, owrite, Nat.reduceAdd, Nat.reduceSub, Nat.reduceMul, Nat.reduceLT, Nat.reduceLeDiff, Nat.reduceEqDiff, Nat.reduceBEq, Int.reduceLE, Int.reduceLT, Int.reduceEq, Int.reduceNe, Int.reduceAdd, Int.reduceSub, Int.reduceMul, Int.reduceNeg, Int.reduceToNat, Int.reduceNatCast, reduceCtorEq, eq_self]
  generalize hE0 : aH H id ver L = E0 at gh
  refine Does.of_awp (hint := (fun _ => false)) Try.func28 (by kernel_rfl) rfl [4] (by kernel_rfl) (by decide) (by simp [Try.ntmps28]) ?_
  rw [Try.ntmps28]
  simp (implicitDefEqProofs := false) only [↓reduceIte, go_sem, oread, owrite, Nat.reduceAdd, Nat.reduceSub, Nat.reduceMul, Nat.reduceLT, Nat.reduceLeDiff, Nat.reduceEqDiff, Nat.reduceBEq, Int.reduceLE, Int.reduceLT, Int.reduceEq, Int.reduceNe, Int.reduceAdd, Int.reduceSub, Int.reduceMul, Int.reduceNeg, Int.reduceToNat, Int.reduceNatCast, reduceCtorEq, eq_self, gh, show ((n : Int) < 2) = False from eq_false (by omega)]
  refine awp_for3 (fun k s H' => H' = E0 ∧ St.compactP c (L.take (k + 1)) = L.take (k + 1) ∧ s 0 = .sl id ver 0 n ∧ s 1 = .fn g caps ∧ s 5 = iA ((k : Int) + 1)) (n - 1) (by omega) (Weak.refl _ _) ?_ ?_ ?_
  · refine ⟨rfl, ?_, ?_⟩
    · cases L <;> rfl
    · simp (implicitDefEqProofs := false) only [↓reduceIte, go_sem, oread, owrite, Nat.reduceAdd, Nat.reduceSub, Nat.reduceMul, Nat.reduceLT, Nat.reduceLeDiff, Nat.reduceEqDiff, Nat.reduceBEq, Int.reduceLE, Int.reduceLT, Int.reduceEq, Int.reduceNe, Int.reduceAdd, Int.reduceSub, Int.reduceMul, Int.reduceNeg, Int.reduceToNat, Int.reduceNatCast, reduceCtorEq, eq_self]
  · rintro k s H' hk hw ⟨rfl, hp, t0, t1, t5⟩
    obtain ⟨q, hq⟩ : ∃ q, q = k + 1 := ⟨_, rfl⟩
    obtain ⟨x, hx⟩ : ∃ x, L[q]? = some x := ⟨_, List.getElem?_eq_getElem (by omega)⟩
    obtain ⟨y, hy⟩ : ∃ y, L[k]? = some y := ⟨_, List.getElem?_eq_getElem (by omega)⟩
    have e1 : L.take (q + 1) = L.take q ++ [x] := by rw [List.take_add_one, hx]; rfl
    have hsn : St.compactP c (L.take (q + 1)) = St.compactP c (L.take q) ++ (if c x y = true then [] else [x]) := by
      rw [e1]
      exact St.compactP_snoc (k := k) (by rw [List.length_take]; omega) (by rw [List.getElem?_take, if_pos (by omega)]; exact hy)
    rw [← hq] at hp
    have f1 : ((k : Int) + 1) = (q : Int) := by omega
    rw [f1] at t5
    have gx := get_enc hx
    have gy := get_enc hy
    have hd := hcE L x y
    rw [hE0] at hd
    have w1 : IntKind.i64.wrap ((q : Int) - 1) = (k : Int) := by rw [wrap64_in _ (by omega) (by omega)]; omega
    have w2 : IntKind.i64.wrap ((q : Int) + 1) = (q : Int) + 1 := wrap64_in _ (by omega) (by omega)
    have hqn : q < n := by omega
    have hkn : k < n := by omega
    simp only [Val.enc] at gx gy
    simp only [Val.enc, List.map_cons, List.map_nil] at hd
    simp (implicitDefEqProofs := false) only [↓reduceIte, go_sem, oread, owrite, Nat.reduceAdd, Nat.reduceSub, Nat.reduceMul, Nat.reduceLT, Nat.reduceLeDiff, Nat.reduceEqDiff, Nat.reduceBEq, Int.reduceLE, Int.reduceLT, Int.reduceEq, Int.reduceNe, Int.reduceAdd, Int.reduceSub, Int.reduceMul, Int.reduceNeg, Int.reduceToNat, Int.reduceNatCast, reduceCtorEq, eq_self, t0, t5, gh, eq_true hqn]
    refine awp_draw K.mixed (by kernel_rfl) ?_
    simp (implicitDefEqProofs := false) only [↓reduceIte, go_sem, oread, owrite, Nat.reduceAdd, Nat.reduceSub, Nat.reduceMul, Nat.reduceLT, Nat.reduceLeDiff, Nat.reduceEqDiff, Nat.reduceBEq, Int.reduceLE, Int.reduceLT, Int.reduceEq, Int.reduceNe, Int.reduceAdd, Int.reduceSub, Int.reduceMul, Int.reduceNeg, Int.reduceToNat, Int.reduceNatCast, reduceCtorEq, eq_self, t0, t1, t5, gh, gx, gy, hqn, hkn, w1]
    refine KCall.ok hd ?_
    cases hcc : c x y with
    | false =>
      rw [hcc] at hsn
      simp (implicitDefEqProofs := false) only [↓reduceIte, go_sem, oread, owrite, Nat.reduceAdd, Nat.reduceSub, Nat.reduceMul, Nat.reduceLT, Nat.reduceLeDiff, Nat.reduceEqDiff, Nat.reduceBEq, Int.reduceLE, Int.reduceLT, Int.reduceEq, Int.reduceNe, Int.reduceAdd, Int.reduceSub, Int.reduceMul, Int.reduceNeg, Int.reduceToNat, Int.reduceNatCast, reduceCtorEq, eq_self, t5, w2]
      refine Rnd.same ⟨rfl, ?_, ?_⟩
      · rw [← hq, hsn, hp, e1]; rfl
      · simp (implicitDefEqProofs := false) only [↓reduceIte, go_sem, oread, owrite, Nat.reduceAdd, Nat.reduceSub, Nat.reduceMul, Nat.reduceLT, Nat.reduceLeDiff, Nat.reduceEqDiff, Nat.reduceBEq, Int.reduceLE, Int.reduceLT, Int.reduceEq, Int.reduceNe, Int.reduceAdd, Int.reduceSub, Int.reduceMul, Int.reduceNeg, Int.reduceToNat, Int.reduceNatCast, reduceCtorEq, eq_self, t0, t1, show ((k : Int) + 1) = (q : Int) by omega]
    | true =>
      rw [hcc] at hsn
      have hsn2 : St.compactP c (L.take (q + 1)) = L.take q := by rw [hsn, hp]; simp
      simp (implicitDefEqProofs := false) only [↓reduceIte, go_sem, oread, owrite, Nat.reduceAdd, Nat.reduceSub, Nat.reduceMul, Nat.reduceLT, Nat.reduceLeDiff, Nat.reduceEqDiff, Nat.reduceBEq, Int.reduceLE, Int.reduceLT, Int.reduceEq, Int.reduceNe, Int.reduceAdd, Int.reduceSub, Int.reduceMul, Int.reduceNeg, Int.reduceToNat, Int.reduceNatCast, reduceCtorEq, eq_self, t0, t5, gh]
      refine ⟨by omega, .inr (by omega), ?_⟩
      have hnq : ((n : Int).toNat - q) = n - q := by omega
      refine awp_for3 (fun k2 s H' => (∃ C K1, H' = aH H id ver C ∧ C = K1 ++ L.drop K1.length ∧ K1 = St.compactP c (L.take (q + k2 + 1)) ∧ K1.length ≤ q + k2 ∧ s 5 = iA K1.length) ∧ s 0 = .sl id ver 0 n ∧ s 1 = .fn g caps ∧ s 6 = .sl id ver q (n - q) ∧ s 7 = iA ((k2 : Int) + 1)) (n - q - 1) (by omega) (Weak.refl _ _) ?_ ?_ ?_
      · refine ⟨⟨L, L.take q, hE0.symm, ?_, ?_, ?_, ?_⟩, ?_⟩
        · rw [List.length_take, Nat.min_eq_left (by omega), List.take_append_drop]
        · rw [Nat.add_zero]; exact hsn2.symm
        · rw [List.length_take]; omega
        · rw [List.length_take, Nat.min_eq_left (by omega)]; simp (implicitDefEqProofs := false) only [↓reduceIte, go_sem, oread, owrite, Nat.reduceAdd, Nat.reduceSub, Nat.reduceMul, Nat.reduceLT, Nat.reduceLeDiff, Nat.reduceEqDiff, Nat.reduceBEq, Int.reduceLE, Int.reduceLT, Int.reduceEq, Int.reduceNe, Int.reduceAdd, Int.reduceSub, Int.reduceMul, Int.reduceNeg, Int.reduceToNat, Int.reduceNatCast, reduceCtorEq, eq_self, t5]
        · simp (implicitDefEqProofs := false) only [↓reduceIte, go_sem, oread, owrite, Nat.reduceAdd, Nat.reduceSub, Nat.reduceMul, Nat.reduceLT, Nat.reduceLeDiff, Nat.reduceEqDiff, Nat.reduceBEq, Int.reduceLE, Int.reduceLT, Int.reduceEq, Int.reduceNe, Int.reduceAdd, Int.reduceSub, Int.reduceMul, Int.reduceNeg, Int.reduceToNat, Int.reduceNatCast, reduceCtorEq, eq_self, t0, t1, Nat.zero_add, hnq]
      · rintro k2 s H' hk2 hw3 ⟨⟨C, K1, rfl, hC, hK1, hKl, t5⟩, t0, t1, t6, t7⟩
        obtain ⟨u, hu⟩ : ∃ u, u = k2 + 1 := ⟨_, rfl⟩
        obtain ⟨v, hv⟩ : ∃ v, v = q + u := ⟨_, rfl⟩
        obtain ⟨x2, hx2⟩ : ∃ x, L[v]? = some x := ⟨_, List.getElem?_eq_getElem (by omega)⟩
        obtain ⟨y2, hy2⟩ : ∃ y, L[v - 1]? = some y := ⟨_, List.getElem?_eq_getElem (by omega)⟩
        have hCg : ∀ i, K1.length ≤ i → C[i]? = L[i]? := fun i hi => by
          rw [hC, List.getElem?_append_right hi, List.getElem?_drop, Nat.add_sub_cancel' hi]
        have hCl : C.length = n := by rw [hC, List.length_append, List.length_drop]; omega
        have e2 : L.take (v + 1) = L.take v ++ [x2] := by rw [List.take_add_one, hx2]; rfl
        have hsn3 : St.compactP c (L.take (v + 1)) = K1 ++ (if c x2 y2 = true then [] else [x2]) := by
          rw [e2, hK1, show q + k2 + 1 = v by omega]
          exact St.compactP_snoc (k := v - 1) (by rw [List.length_take]; omega) (by rw [List.getElem?_take, if_pos (by omega)]; exact hy2)
        have gx2 := get_enc ((hCg v (by omega)).trans hx2)
        have gy2 := get_enc ((hCg (v - 1) (by omega)).trans hy2)
        have hd2 := hcE C x2 y2
        have gC := aH_get hid ver C
        have f2 : ((k2 : Int) + 1) = (u : Int) := by omega
        rw [f2] at t7
        have w3 : IntKind.i64.wrap ((u : Int) - 1) = (k2 : Int) := by rw [wrap64_in _ (by omega) (by omega)]; omega
        have w4 : IntKind.i64.wrap ((u : Int) + 1) = (u : Int) + 1 := wrap64_in _ (by omega) (by omega)
        have f3 : q + u = v := hv.symm
        have f4 : q + k2 = v - 1 := by omega
        have hun : u < n - q := by omega
        have hkn2 : k2 < n - q := by omega
        simp only [Val.enc] at gx2 gy2
        simp only [Val.enc, List.map_cons, List.map_nil] at hd2
        simp (implicitDefEqProofs := false) only [↓reduceIte, go_sem, oread, owrite, Nat.reduceAdd, Nat.reduceSub, Nat.reduceMul, Nat.reduceLT, Nat.reduceLeDiff, Nat.reduceEqDiff, Nat.reduceBEq, Int.reduceLE, Int.reduceLT, Int.reduceEq, Int.reduceNe, Int.reduceAdd, Int.reduceSub, Int.reduceMul, Int.reduceNeg, Int.reduceToNat, Int.reduceNatCast, reduceCtorEq, eq_self, t6, t7, gC, eq_true hun]
        refine awp_draw K.mixed (by kernel_rfl) ?_
        simp (implicitDefEqProofs := false) only [↓reduceIte, go_sem, oread, owrite, Nat.reduceAdd, Nat.reduceSub, Nat.reduceMul, Nat.reduceLT, Nat.reduceLeDiff, Nat.reduceEqDiff, Nat.reduceBEq, Int.reduceLE, Int.reduceLT, Int.reduceEq, Int.reduceNe, Int.reduceAdd, Int.reduceSub, Int.reduceMul, Int.reduceNeg, Int.reduceToNat, Int.reduceNatCast, reduceCtorEq, eq_self, t1, t6, t7, gC, w3, hun, hkn2, f3, f4, gx2, gy2]
        refine KCall.ok hd2 ?_
        cases hc2 : c x2 y2 with
        | true =>
          rw [hc2] at hsn3
          simp (implicitDefEqProofs := false) only [↓reduceIte, go_sem, oread, owrite, Nat.reduceAdd, Nat.reduceSub, Nat.reduceMul, Nat.reduceLT, Nat.reduceLeDiff, Nat.reduceEqDiff, Nat.reduceBEq, Int.reduceLE, Int.reduceLT, Int.reduceEq, Int.reduceNe, Int.reduceAdd, Int.reduceSub, Int.reduceMul, Int.reduceNeg, Int.reduceToNat, Int.reduceNatCast, reduceCtorEq, eq_self, t7, w4]
          refine Rnd.same ⟨⟨C, K1, rfl, hC, ?_, by omega, ?_⟩, ?_⟩
          · rw [show q + (k2 + 1) + 1 = v + 1 by omega, hsn3]; simp
          · simp (implicitDefEqProofs := false) only [↓reduceIte, go_sem, oread, owrite, Nat.reduceAdd, Nat.reduceSub, Nat.reduceMul, Nat.reduceLT, Nat.reduceLeDiff, Nat.reduceEqDiff, Nat.reduceBEq, Int.reduceLE, Int.reduceLT, Int.reduceEq, Int.reduceNe, Int.reduceAdd, Int.reduceSub, Int.reduceMul, Int.reduceNeg, Int.reduceToNat, Int.reduceNatCast, reduceCtorEq, eq_self, t5]
          · simp (implicitDefEqProofs := false) only [↓reduceIte, go_sem, oread, owrite, Nat.reduceAdd, Nat.reduceSub, Nat.reduceMul, Nat.reduceLT, Nat.reduceLeDiff, Nat.reduceEqDiff, Nat.reduceBEq, Int.reduceLE, Int.reduceLT, Int.reduceEq, Int.reduceNe, Int.reduceAdd, Int.reduceSub, Int.reduceMul, Int.reduceNeg, Int.reduceToNat, Int.reduceNatCast, reduceCtorEq, eq_self, t0, t1, t6, show ((k2 : Int) + 1) = (u : Int) by omega]
        | false =>
          rw [hc2] at hsn3
          obtain ⟨r, hr⟩ : ∃ r, r = K1.length := ⟨_, rfl⟩
          rw [← hr] at t5
          have hrn : r < n := by omega
          have w5 : IntKind.i64.wrap ((r : Int) + 1) = ((r + 1 : Nat) : Int) := by rw [wrap64_in _ (by omega) (by omega)]; omega
          obtain ⟨r2, hr2⟩ : ∃ r2, r2 = r + 1 := ⟨_, rfl⟩
          rw [← hr2] at w5
          have s1 := set_enc C r x2
          obtain ⟨z0, hz0⟩ : ∃ z, C[r]? = some z := ⟨_, List.getElem?_eq_getElem (by omega)⟩
          have gz := get_enc hz0
          simp only [Val.enc] at s1 gz
          simp (implicitDefEqProofs := false) only [↓reduceIte, go_sem, oread, owrite, Nat.reduceAdd, Nat.reduceSub, Nat.reduceMul, Nat.reduceLT, Nat.reduceLeDiff, Nat.reduceEqDiff, Nat.reduceBEq, Int.reduceLE, Int.reduceLT, Int.reduceEq, Int.reduceNe, Int.reduceAdd, Int.reduceSub, Int.reduceMul, Int.reduceNeg, Int.reduceToNat, Int.reduceNatCast, reduceCtorEq, eq_self, t0, t5, t6, t7, gC, hun, hrn, f3, gx2, gz, s1, aH_set, w4, w5]
          refine Rnd.same ⟨⟨C.set r x2, K1 ++ [x2], by rw [← aH_fold], ?_, ?_, ?_, ?_⟩, ?_⟩
          · have e3 : L.drop r = L[r]'(by omega) :: L.drop (r + 1) := List.drop_eq_getElem_cons (by omega)
            rw [hC, ← hr, e3, set_at hr.symm]; simp [hr]
          · rw [show q + (k2 + 1) + 1 = v + 1 by omega, hsn3]; simp
          · rw [List.length_append, List.length_singleton]; omega
          · simp (implicitDefEqProofs := false) only [↓reduceIte, go_sem, oread, owrite, Nat.reduceAdd, Nat.reduceSub, Nat.reduceMul, Nat.reduceLT, Nat.reduceLeDiff, Nat.reduceEqDiff, Nat.reduceBEq, Int.reduceLE, Int.reduceLT, Int.reduceEq, Int.reduceNe, Int.reduceAdd, Int.reduceSub, Int.reduceMul, Int.reduceNeg, Int.reduceToNat, Int.reduceNatCast, reduceCtorEq, eq_self, List.length_append, show ((K1.length : Int) + 1) = (r2 : Int) by omega]
          · simp (implicitDefEqProofs := false) only [↓reduceIte, go_sem, oread, owrite, Nat.reduceAdd, Nat.reduceSub, Nat.reduceMul, Nat.reduceLT, Nat.reduceLeDiff, Nat.reduceEqDiff, Nat.reduceBEq, Int.reduceLE, Int.reduceLT, Int.reduceEq, Int.reduceNe, Int.reduceAdd, Int.reduceSub, Int.reduceMul, Int.reduceNeg, Int.reduceToNat, Int.reduceNatCast, reduceCtorEq, eq_self, t0, t1, t6, show ((k2 : Int) + 1) = (u : Int) by omega]
      · rintro s H' ⟨⟨C, K1, rfl, hC, hK1, hKl, t5⟩, t0, t1, t6, t7⟩
        have hK2 : St.compactP c L = K1 := by rw [hK1, List.take_of_length_le (by omega)]
        have hCl : C.length = n := by rw [hC, List.length_append, List.length_drop]; omega
        have gC := aH_get hid ver C
        have hlt : ((((n - q - 1 : Nat) : Int) + 1) < ((n - q : Nat) : Int)) = False := eq_false (by omega)
        obtain ⟨r, hr⟩ : ∃ r, r = K1.length := ⟨_, rfl⟩
        rw [← hr] at t5
        have hrn : ((n : Int).toNat - r) = n - r := by omega
        have hCt : C.take r = K1 := by rw [hC, hr, List.take_left]
        have hsr : setRows (C.map Val.enc) r (zrows (.agg #[.int .i64 0, .int .i64 0, .string ⟨#[]⟩]) (n - r)) = (St.compactP c L).map Val.enc ++ List.replicate (L.length - (St.compactP c L).length) zrow := by
          unfold setRows
          rw [← List.map_take, hCt, List.drop_of_length_le (by simp [zrows]; omega), List.append_nil, hK2, hn, ← hr]
          rfl
        have hfo : H.set id (.arr 26 3 ver ((St.compactP c L).map Val.enc ++ List.replicate (L.length - (St.compactP c L).length) zrow)) = E1 := hE1
        have gE : E1[id]? = some (.arr 26 3 ver ((St.compactP c L).map Val.enc ++ List.replicate (L.length - (St.compactP c L).length) zrow)) := by rw [← hfo]; simp [hid]
        simp (implicitDefEqProofs := false) only [↓reduceIte, go_sem, oread, owrite, Nat.reduceAdd, Nat.reduceSub, Nat.reduceMul, Nat.reduceLT, Nat.reduceLeDiff, Nat.reduceEqDiff, Nat.reduceBEq, Int.reduceLE, Int.reduceLT, Int.reduceEq, Int.reduceNe, Int.reduceAdd, Int.reduceSub, Int.reduceMul, Int.reduceNeg, Int.reduceToNat, Int.reduceNatCast, reduceCtorEq, eq_self, t0, t5, t6, t7, gC, hlt]
        refine ⟨by omega, .inr (by omega), ?_⟩
        rw [hsr, aH_set, hfo]
        simp (implicitDefEqProofs := false) only [↓reduceIte, go_sem, oread, owrite, Nat.reduceAdd, Nat.reduceSub, Nat.reduceMul, Nat.reduceLT, Nat.reduceLeDiff, Nat.reduceEqDiff, Nat.reduceBEq, Int.reduceLE, Int.reduceLT, Int.reduceEq, Int.reduceNe, Int.reduceAdd, Int.reduceSub, Int.reduceMul, Int.reduceNeg, Int.reduceToNat, Int.reduceNatCast, reduceCtorEq, eq_self, t0, t5, gE]
        refine ⟨by omega, .inl trivial, _, Weak.refl _ _, ?_⟩
        simp (implicitDefEqProofs := false) only [↓reduceIte, go_sem, oread, owrite, Nat.reduceAdd, Nat.reduceSub, Nat.reduceMul, Nat.reduceLT, Nat.reduceLeDiff, Nat.reduceEqDiff, Nat.reduceBEq, Int.reduceLE, Int.reduceLT, Int.reduceEq, Int.reduceNe, Int.reduceAdd, Int.reduceSub, Int.reduceMul, Int.reduceNeg, Int.reduceToNat, Int.reduceNatCast, reduceCtorEq, eq_self, hK2, ← hr, Nat.sub_zero]
  · rintro s H' ⟨rfl, hp, t0, t1, t5⟩
    have hsame : St.compactP c L = L := by rwa [show n - 1 + 1 = n by omega, ← hn, List.take_length] at hp
    have he : H' = E1 := by rw [← hE1, compH_same _ _ _ _ _ hsame, hE0]
    simp (implicitDefEqProofs := false) only [↓reduceIte, go_sem, oread, owrite, Nat.reduceAdd, Nat.reduceSub, Nat.reduceMul, Nat.reduceLT, Nat.reduceLeDiff, Nat.reduceEqDiff, Nat.reduceBEq, Int.reduceLE, Int.reduceLT, Int.reduceEq, Int.reduceNe, Int.reduceAdd, Int.reduceSub, Int.reduceMul, Int.reduceNeg, Int.reduceToNat, Int.reduceNatCast, reduceCtorEq, eq_self, t0, t5, gh, show (((n - 1 : Nat) : Int) + 1 < (n : Int)) = False from eq_false (by omega)]
    rw [← he, hsame, hn]
    refine AEnd.ret0 ?_
    simp (implicitDefEqProofs := false) only [↓reduceIte, go_sem, oread, owrite, Nat.reduceAdd, Nat.reduceSub, Nat.reduceMul, Nat.reduceLT, Nat.reduceLeDiff, Nat.reduceEqDiff, Nat.reduceBEq, Int.reduceLE, Int.reduceLT, Int.reduceEq, Int.reduceNe, Int.reduceAdd, Int.reduceSub, Int.reduceMul, Int.reduceNeg, Int.reduceToNat, Int.reduceNatCast, reduceCtorEq, eq_self]
end SV
end Go.Proofs.Ytfmmemboakdeiaa
namespace Go.Proofs.Ytfmmemboakdeiaa
open Go.Proofs.YtfmmemboakdeiaaAw Go.RowKit
set_option linter.unusedVariables false
set_option linter.unusedSimpArgs false
def eqV (a b : Val) : Bool := decide (cmpV a b = 0)
set_option maxRecDepth 10000 in
theorem keys1_does (a b : Val) (H : AHeap) : Does Try.prog 29 [a.av, b.av] H (.ok (bA (eqV a b))) H := by
  refine Does.of_awp (hint := (fun _ => false)) Try.func29 (by kernel_rfl) rfl [4] (by kernel_rfl) (by decide) (by simp [Try.ntmps29]) ?_
  rw [Try.ntmps29]
  simp (implicitDefEqProofs := false) only [↓reduceIte, go_sem, oread, owrite, Nat.reduceAdd, Nat.reduceSub, Nat.reduceMul, Nat.reduceLT, Nat.reduceLeDiff, Nat.reduceEqDiff, Nat.reduceBEq, Int.reduceLE, Int.reduceLT, Int.reduceEq, Int.reduceNe, Int.reduceAdd, Int.reduceSub, Int.reduceMul, Int.reduceNeg, Int.reduceToNat, Int.reduceNatCast, reduceCtorEq, eq_self]
  refine KCall.ok (vcmp_does a b _) ?_
  simp (implicitDefEqProofs := false) only [↓reduceIte, go_sem, oread, owrite, Nat.reduceAdd, Nat.reduceSub, Nat.reduceMul, Nat.reduceLT, Nat.reduceLeDiff, Nat.reduceEqDiff, Nat.reduceBEq, Int.reduceLE, Int.reduceLT, Int.reduceEq, Int.reduceNe, Int.reduceAdd, Int.reduceSub, Int.reduceMul, Int.reduceNeg, Int.reduceToNat, Int.reduceNatCast, reduceCtorEq, eq_self]
  refine AEnd.ret ?_
  simp (implicitDefEqProofs := false) only [↓reduceIte, go_sem, oread, owrite, Nat.reduceAdd, Nat.reduceSub, Nat.reduceMul, Nat.reduceLT, Nat.reduceLeDiff, Nat.reduceEqDiff, Nat.reduceBEq, Int.reduceLE, Int.reduceLT, Int.reduceEq, Int.reduceNe, Int.reduceAdd, Int.reduceSub, Int.reduceMul, Int.reduceNeg, Int.reduceToNat, Int.reduceNatCast, reduceCtorEq, eq_self, eqV]
def keyF (R : List (List Val)) (c : Int) (l : List Atom) : List Val := (R.filter fun r => !decide ((atP r c).kind = 0) && allP l r).map fun r => atP r c
theorem keyF_snoc (R : List (List Val)) (r : List Val) (c : Int) (l : List Atom) : keyF (R ++ [r]) c l = if !decide ((atP r c).kind = 0) && allP l r then keyF R c l ++ [atP r c] else keyF R c l := by
  unfold keyF
  rw [List.filter_append, List.map_append]
  split <;> rename_i h <;> simp [h]
theorem keyF_le (R : List (List Val)) (c : Int) (l : List Atom) : (keyF R c l).length ≤ R.length := by unfold keyF; rw [List.length_map]; exact List.length_filter_le _ _
def keysP (R : List (List Val)) (c : Int) (l : List Atom) : List Val := wordsP cmpV (keyF R c l)
theorem wordsP_len {α : Type} (c : α → α → Int) (l : List α) : (wordsP c l).length ≤ l.length := by
  have h := St.compactP_len (eq := fun a b => decide (c a b = 0)) (St.sortS (ltT c) l)
  rwa [St.sortS_len] at h
set_option maxRecDepth 10000 in
set_option maxHeartbeats 1000000 in
theorem keys_does (R : List (List Val)) (c : Int) (l : List Atom) (n1 n2 : Bool) (hR : R.length ≤ 1000000000) (hr : ∀ r ∈ R, r.length ≤ 1000000000000) (hl : l.length ≤ 1000000000000) (H : AHeap) :
    Does Try.prog 10 [.d (.list n1 (rowsD R)), iA c, .d (.list n2 (l.map Atom.enc))] H (.ok (.d (.list false ((keysP R c l).map Val.enc)))) H := by
  have ho : St.Ord (SV.ltC cmpV) := cmpV_tri.ord
  refine Does.of_awp (hint := (fun _ => false)) Try.func10 (by kernel_rfl) rfl [6] (by kernel_rfl) (by decide) (by simp [Try.ntmps10]) ?_
  rw [Try.ntmps10]
  simp (implicitDefEqProofs := false) only [↓reduceIte, go_sem, oread, owrite, Nat.reduceAdd, Nat.reduceSub, Nat.reduceMul, Nat.reduceLT, Nat.reduceLeDiff, Nat.reduceEqDiff, Nat.reduceBEq, Int.reduceLE, Int.reduceLT, Int.reduceEq, Int.reduceNe, Int.reduceAdd, Int.reduceSub, Int.reduceMul, Int.reduceNeg, Int.reduceToNat, Int.reduceNatCast, reduceCtorEq, eq_self]
  refine KCall.ok (some_does R c n1 (by omega) hr H) ?_
  have hsl : (someP R c).length = R.length := by simp [someP]
  simp (implicitDefEqProofs := false) only [↓reduceIte, go_sem, oread, owrite, Nat.reduceAdd, Nat.reduceSub, Nat.reduceMul, Nat.reduceLT, Nat.reduceLeDiff, Nat.reduceEqDiff, Nat.reduceBEq, Int.reduceLE, Int.reduceLT, Int.reduceEq, Int.reduceNe, Int.reduceAdd, Int.reduceSub, Int.reduceMul, Int.reduceNeg, Int.reduceToNat, Int.reduceNatCast, reduceCtorEq, eq_self, List.length_map, hsl]
  refine awp_for (fun k s H' => H' = H ++ [.arr 26 3 (keyF (R.take k) c l).length ((keyF (R.take k) c l).map Val.enc)] ∧ s 0 = .d (.list n1 (rowsD R)) ∧ s 2 = .d (.list n2 (l.map Atom.enc)) ∧ s 7 = .sl H.length (keyF (R.take k) c l).length 0 (keyF (R.take k) c l).length ∧ s 12 = .d (.list false ((someP R c).map Val.enc)) ∧ s 13 = iA R.length ∧ s 14 = iA k) R.length (by omega) (Weak.virt1 _ _ 7 26 3 (by decide) (by simp (implicitDefEqProofs := false) only [↓reduceIte, go_sem, oread, owrite, Nat.reduceAdd, Nat.reduceSub, Nat.reduceMul, Nat.reduceLT, Nat.reduceLeDiff, Nat.reduceEqDiff, Nat.reduceBEq, Int.reduceLE, Int.reduceLT, Int.reduceEq, Int.reduceNe, Int.reduceAdd, Int.reduceSub, Int.reduceMul, Int.reduceNeg, Int.reduceToNat, Int.reduceNatCast, reduceCtorEq, eq_self]) _) ?_ ?_ ?_
  · refine ⟨rfl, ?_⟩
    simp (implicitDefEqProofs := false) only [↓reduceIte, go_sem, oread, owrite, Nat.reduceAdd, Nat.reduceSub, Nat.reduceMul, Nat.reduceLT, Nat.reduceLeDiff, Nat.reduceEqDiff, Nat.reduceBEq, Int.reduceLE, Int.reduceLT, Int.reduceEq, Int.reduceNe, Int.reduceAdd, Int.reduceSub, Int.reduceMul, Int.reduceNeg, Int.reduceToNat, Int.reduceNatCast, reduceCtorEq, eq_self]
    rfl
  · rintro k s H' hk hw ⟨rfl, t0, t2, t7, t12, t13, t14⟩
    have hx := rowsD_get R k hk
    have hv : ((someP R c).map Val.enc)[k]? = some (atP R[k] c).enc := by simp [someP, hk]
    have hF := keyF_snoc (R.take k) R[k] c l
    rw [← List.take_succ_eq_append_getElem hk] at hF
    have hFl := keyF_le (R.take k) c l
    rw [List.length_take] at hFl
    rw [hF]
    have hrl := hr _ (List.getElem_mem hk)
    generalize keyF (R.take k) c l = F at *
    have hlt2 : k < (someP R c).length := by omega
    generalize R[k] = r at *
    generalize atP r c = v at *
    simp only [Val.enc] at hv
    by_cases h0 : v.kind = 0
    · have e : (!decide (v.kind = 0) && allP l r) = false := by simp [h0]
      simp only [e, Bool.false_eq_true, if_false]
      simp (implicitDefEqProofs := false) only [↓reduceIte, go_sem, oread, owrite, Nat.reduceAdd, Nat.reduceSub, Nat.reduceMul, Nat.reduceLT, Nat.reduceLeDiff, Nat.reduceEqDiff, Nat.reduceBEq, Int.reduceLE, Int.reduceLT, Int.reduceEq, Int.reduceNe, Int.reduceAdd, Int.reduceSub, Int.reduceMul, Int.reduceNeg, Int.reduceToNat, Int.reduceNatCast, reduceCtorEq, eq_self, t0, t2, t7, t12, t13, t14, hk, hsl, List.length_map, hv, hlt2, h0]
      refine Rnd.cut [.arr 26 3 F.length (F.map Val.enc)] [.box 26 3 0 1 [iA v.kind, iA v.i, sA v.s]] 1 rfl ?_ (by simp (implicitDefEqProofs := false) only [↓reduceIte, go_sem, oread, owrite, Nat.reduceAdd, Nat.reduceSub, Nat.reduceMul, Nat.reduceLT, Nat.reduceLeDiff, Nat.reduceEqDiff, Nat.reduceBEq, Int.reduceLE, Int.reduceLT, Int.reduceEq, Int.reduceNe, Int.reduceAdd, Int.reduceSub, Int.reduceMul, Int.reduceNeg, Int.reduceToNat, Int.reduceNatCast, reduceCtorEq, eq_self]) ?_
      · simp (implicitDefEqProofs := false) only [↓reduceIte, go_sem, oread, owrite, Nat.reduceAdd, Nat.reduceSub, Nat.reduceMul, Nat.reduceLT, Nat.reduceLeDiff, Nat.reduceEqDiff, Nat.reduceBEq, Int.reduceLE, Int.reduceLT, Int.reduceEq, Int.reduceNe, Int.reduceAdd, Int.reduceSub, Int.reduceMul, Int.reduceNeg, Int.reduceToNat, Int.reduceNatCast, reduceCtorEq, eq_self, h0]
      refine ⟨rfl, ?_⟩
      simp (implicitDefEqProofs := false) only [↓reduceIte, go_sem, oread, owrite, Nat.reduceAdd, Nat.reduceSub, Nat.reduceMul, Nat.reduceLT, Nat.reduceLeDiff, Nat.reduceEqDiff, Nat.reduceBEq, Int.reduceLE, Int.reduceLT, Int.reduceEq, Int.reduceNe, Int.reduceAdd, Int.reduceSub, Int.reduceMul, Int.reduceNeg, Int.reduceToNat, Int.reduceNatCast, reduceCtorEq, eq_self, t0, t2, t7, t12, t13, hw]
    · cases hA : allP l r
      · simp only [Bool.and_false, Bool.false_eq_true, if_false]
        simp (implicitDefEqProofs := false) only [↓reduceIte, go_sem, oread, owrite, Nat.reduceAdd, Nat.reduceSub, Nat.reduceMul, Nat.reduceLT, Nat.reduceLeDiff, Nat.reduceEqDiff, Nat.reduceBEq, Int.reduceLE, Int.reduceLT, Int.reduceEq, Int.reduceNe, Int.reduceAdd, Int.reduceSub, Int.reduceMul, Int.reduceNeg, Int.reduceToNat, Int.reduceNatCast, reduceCtorEq, eq_self, t0, t2, t7, t12, t13, t14, hk, hsl, List.length_map, hv, hlt2, h0, rowsD_len, hx]
        refine KCall.ok (all_does l r n2 false _ hl) ?_
        simp (implicitDefEqProofs := false) only [↓reduceIte, go_sem, oread, owrite, Nat.reduceAdd, Nat.reduceSub, Nat.reduceMul, Nat.reduceLT, Nat.reduceLeDiff, Nat.reduceEqDiff, Nat.reduceBEq, Int.reduceLE, Int.reduceLT, Int.reduceEq, Int.reduceNe, Int.reduceAdd, Int.reduceSub, Int.reduceMul, Int.reduceNeg, Int.reduceToNat, Int.reduceNatCast, reduceCtorEq, eq_self, hA, t14]
        refine Rnd.cut [.arr 26 3 F.length (F.map Val.enc)] [.box 26 3 0 1 [iA v.kind, iA v.i, sA v.s]] 1 rfl rfl (by simp (implicitDefEqProofs := false) only [↓reduceIte, go_sem, oread, owrite, Nat.reduceAdd, Nat.reduceSub, Nat.reduceMul, Nat.reduceLT, Nat.reduceLeDiff, Nat.reduceEqDiff, Nat.reduceBEq, Int.reduceLE, Int.reduceLT, Int.reduceEq, Int.reduceNe, Int.reduceAdd, Int.reduceSub, Int.reduceMul, Int.reduceNeg, Int.reduceToNat, Int.reduceNatCast, reduceCtorEq, eq_self]) ?_
        refine ⟨rfl, ?_⟩
        simp (implicitDefEqProofs := false) only [↓reduceIte, go_sem, oread, owrite, Nat.reduceAdd, Nat.reduceSub, Nat.reduceMul, Nat.reduceLT, Nat.reduceLeDiff, Nat.reduceEqDiff, Nat.reduceBEq, Int.reduceLE, Int.reduceLT, Int.reduceEq, Int.reduceNe, Int.reduceAdd, Int.reduceSub, Int.reduceMul, Int.reduceNeg, Int.reduceToNat, Int.reduceNatCast, reduceCtorEq, eq_self, t0, t2, t7, t12, t13, hw]
      · have e : (!decide (v.kind = 0) && true) = true := by simp [h0]
        simp only [e, if_true]
        have q : F.map Val.enc ++ [v.enc] = (F ++ [v]).map Val.enc := by simp
        simp only [Val.enc] at q
        simp (implicitDefEqProofs := false) only [↓reduceIte, go_sem, oread, owrite, Nat.reduceAdd, Nat.reduceSub, Nat.reduceMul, Nat.reduceLT, Nat.reduceLeDiff, Nat.reduceEqDiff, Nat.reduceBEq, Int.reduceLE, Int.reduceLT, Int.reduceEq, Int.reduceNe, Int.reduceAdd, Int.reduceSub, Int.reduceMul, Int.reduceNeg, Int.reduceToNat, Int.reduceNatCast, reduceCtorEq, eq_self, t0, t2, t7, t12, t13, t14, hk, hsl, List.length_map, hv, hlt2, h0, rowsD_len, hx]
        refine KCall.ok (all_does l r n2 false _ hl) ?_
        simp (implicitDefEqProofs := false) only [↓reduceIte, go_sem, oread, owrite, Nat.reduceAdd, Nat.reduceSub, Nat.reduceMul, Nat.reduceLT, Nat.reduceLeDiff, Nat.reduceEqDiff, Nat.reduceBEq, Int.reduceLE, Int.reduceLT, Int.reduceEq, Int.reduceNe, Int.reduceAdd, Int.reduceSub, Int.reduceMul, Int.reduceNeg, Int.reduceToNat, Int.reduceNatCast, reduceCtorEq, eq_self, hA, t7, List.length_map, q]
        refine ⟨by omega, by omega, ?_⟩
        simp (implicitDefEqProofs := false) only [↓reduceIte, go_sem, oread, owrite, Nat.reduceAdd, Nat.reduceSub, Nat.reduceMul, Nat.reduceLT, Nat.reduceLeDiff, Nat.reduceEqDiff, Nat.reduceBEq, Int.reduceLE, Int.reduceLT, Int.reduceEq, Int.reduceNe, Int.reduceAdd, Int.reduceSub, Int.reduceMul, Int.reduceNeg, Int.reduceToNat, Int.reduceNatCast, reduceCtorEq, eq_self, t14]
        refine Rnd.cut [.arr 26 3 (F.length + 1) ((F ++ [v]).map Val.enc)] [.box 26 3 0 1 [iA v.kind, iA v.i, sA v.s]] 1 rfl rfl (by simp (implicitDefEqProofs := false) only [↓reduceIte, go_sem, oread, owrite, Nat.reduceAdd, Nat.reduceSub, Nat.reduceMul, Nat.reduceLT, Nat.reduceLeDiff, Nat.reduceEqDiff, Nat.reduceBEq, Int.reduceLE, Int.reduceLT, Int.reduceEq, Int.reduceNe, Int.reduceAdd, Int.reduceSub, Int.reduceMul, Int.reduceNeg, Int.reduceToNat, Int.reduceNatCast, reduceCtorEq, eq_self]) ?_
        refine ⟨rfl, ?_⟩
        simp (implicitDefEqProofs := false) only [↓reduceIte, go_sem, oread, owrite, Nat.reduceAdd, Nat.reduceSub, Nat.reduceMul, Nat.reduceLT, Nat.reduceLeDiff, Nat.reduceEqDiff, Nat.reduceBEq, Int.reduceLE, Int.reduceLT, Int.reduceEq, Int.reduceNe, Int.reduceAdd, Int.reduceSub, Int.reduceMul, Int.reduceNeg, Int.reduceToNat, Int.reduceNatCast, reduceCtorEq, eq_self, t0, t2, t12, t13, hw, List.length_append, List.length_singleton]
  · rintro s H' ⟨rfl, t0, t2, t7, t12, t13, t14⟩
    rw [show R.take R.length = R from List.take_length] at t7 ⊢
    have hFl := keyF_le R c l
    simp (implicitDefEqProofs := false) only [↓reduceIte, go_sem, oread, owrite, Nat.reduceAdd, Nat.reduceSub, Nat.reduceMul, Nat.reduceLT, Nat.reduceLeDiff, Nat.reduceEqDiff, Nat.reduceBEq, Int.reduceLE, Int.reduceLT, Int.reduceEq, Int.reduceNe, Int.reduceAdd, Int.reduceSub, Int.reduceMul, Int.reduceNeg, Int.reduceToNat, Int.reduceNatCast, reduceCtorEq, eq_self, t7, t13, t14]
    unfold keysP
    generalize keyF R c l = F at *
    obtain ⟨H1, hH1⟩ : ∃ H1, H1 = H ++ [AObj.arr 26 3 F.length (F.map Val.enc)] := ⟨_, rfl⟩
    have hid : H.length < H1.length := by rw [hH1]; simp
    have e0 : H1 = SV.aH H1 H.length F.length F := by
      unfold SV.aH
      rw [hH1]; simp
    have hs := SV.sort_does H1 H.length F.length hid 27 [] cmpV ho (fun o x y => vcmp_does x y _) F.length (by omega) F rfl
    rw [← e0] at hs
    have hc := SV.compact_does H1 H.length F.length hid 29 [] eqV (fun o x y => keys1_does x y _) F.length (by omega) (St.sortS (SV.ltC cmpV) F) (St.sortS_len _)
    have hn : St.compactP eqV (St.sortS (SV.ltC cmpV) F) = wordsP cmpV F := rfl
    have hfin : SV.compH H1 H.length F.length eqV (St.sortS (SV.ltC cmpV) F) = H ++ [AObj.arr 26 3 F.length ((wordsP cmpV F).map Val.enc ++ List.replicate (F.length - (wordsP cmpV F).length) SV.zrow)] := by
      unfold SV.compH
      rw [hH1, St.sortS_len, hn]
      simp
    rw [hH1] at hs
    refine KCall.ok hs ?_
    simp (implicitDefEqProofs := false) only [↓reduceIte, go_sem, oread, owrite, Nat.reduceAdd, Nat.reduceSub, Nat.reduceMul, Nat.reduceLT, Nat.reduceLeDiff, Nat.reduceEqDiff, Nat.reduceBEq, Int.reduceLE, Int.reduceLT, Int.reduceEq, Int.reduceNe, Int.reduceAdd, Int.reduceSub, Int.reduceMul, Int.reduceNeg, Int.reduceToNat, Int.reduceNatCast, reduceCtorEq, eq_self, t7]
    rw [← hH1]
    refine KCall.ok hc ?_
    rw [hfin]
    simp (implicitDefEqProofs := false) only [↓reduceIte, go_sem, oread, owrite, Nat.reduceAdd, Nat.reduceSub, Nat.reduceMul, Nat.reduceLT, Nat.reduceLeDiff, Nat.reduceEqDiff, Nat.reduceBEq, Int.reduceLE, Int.reduceLT, Int.reduceEq, Int.reduceNe, Int.reduceAdd, Int.reduceSub, Int.reduceMul, Int.reduceNeg, Int.reduceToNat, Int.reduceNatCast, reduceCtorEq, eq_self, hn]
    refine AEnd.ret ?_
    have ht : ((wordsP cmpV F).map Val.enc ++ List.replicate (F.length - (wordsP cmpV F).length) SV.zrow).take (wordsP cmpV F).length = (wordsP cmpV F).map Val.enc := by rw [List.take_left' (by simp)]
    simp (implicitDefEqProofs := false) only [↓reduceIte, go_sem, oread, owrite, Nat.reduceAdd, Nat.reduceSub, Nat.reduceMul, Nat.reduceLT, Nat.reduceLeDiff, Nat.reduceEqDiff, Nat.reduceBEq, Int.reduceLE, Int.reduceLT, Int.reduceEq, Int.reduceNe, Int.reduceAdd, Int.reduceSub, Int.reduceMul, Int.reduceNeg, Int.reduceToNat, Int.reduceNatCast, reduceCtorEq, eq_self, ht]
end Go.Proofs.Ytfmmemboakdeiaa
namespace Go.Proofs.Ytfmmemboakdeiaa
open Go.Proofs.YtfmmemboakdeiaaAw Go.RowKit
set_option linter.unusedVariables false
set_option linter.unusedSimpArgs false
abbrev Span := Int × Int
def encS (s : Span) : List D := [.v (.int .i64 s.1), .v (.int .i64 s.2)]
abbrev avS (s : Span) : AV := .agg [iA s.1, iA s.2]
def inP (keys : List Val) (v : Val) : Bool := !decide (v.kind = 0) && keys.any fun k => decide (cmpV k v = 0)
def withinP (spans : List Span) (v : Val) : Bool := decide (v.kind = 1) && spans.any fun s => decide (s.1 ≤ v.i) && decide (v.i ≤ s.2)
set_option maxRecDepth 10000 in
set_option maxHeartbeats 1000000 in
theorem indexS_does (l : List Span) (p : Span → Bool) (g : FuncId) (caps : List AV) (n1 : Bool) (H : AHeap) (hl : l.length ≤ 9223372036854775807) (hf : ∀ v ∈ l, Does Try.prog g ([avS v] ++ caps) H (.ok (bA (p v))) H) :
    Does Try.prog 52 [.d (.list n1 (l.map encS)), .fn g caps] H (.ok (iA (idxP p l))) H := by
  refine Does.of_awp (hint := (fun _ => false)) Try.func52 (by kernel_rfl) rfl [4] (by kernel_rfl) (by decide) (by simp [Try.ntmps52]) ?_
  rw [Try.ntmps52]
  simp (implicitDefEqProofs := false) only [↓reduceIte, go_sem, oread, owrite, Nat.reduceAdd, Nat.reduceSub, Nat.reduceMul, Nat.reduceLT, Nat.reduceLeDiff, Nat.reduceEqDiff, Nat.reduceBEq, Int.reduceLE, Int.reduceLT, Int.reduceEq, Int.reduceNe, Int.reduceAdd, Int.reduceSub, Int.reduceMul, Int.reduceNeg, Int.reduceToNat, Int.reduceNatCast, reduceCtorEq, eq_self]
  refine awp_for (fun k s H' => H' = H ∧ (∀ i (hi : i < k) (hl : i < l.length), p l[i] = false) ∧ s 0 = .d (.list n1 (l.map encS)) ∧ s 1 = .fn g caps ∧ s 7 = iA l.length ∧ s 8 = iA k) l.length hl (Weak.refl _ _) ?_ ?_ ?_
  · refine ⟨rfl, fun i hi => by omega, ?_⟩
    simp (implicitDefEqProofs := false) only [↓reduceIte, go_sem, oread, owrite, Nat.reduceAdd, Nat.reduceSub, Nat.reduceMul, Nat.reduceLT, Nat.reduceLeDiff, Nat.reduceEqDiff, Nat.reduceBEq, Int.reduceLE, Int.reduceLT, Int.reduceEq, Int.reduceNe, Int.reduceAdd, Int.reduceSub, Int.reduceMul, Int.reduceNeg, Int.reduceToNat, Int.reduceNatCast, reduceCtorEq, eq_self]
  · rintro k s H' hk hw ⟨rfl, hp, h0, h1, h7, h8⟩
    have hx := List.getElem?_eq_getElem hk
    have hit : p l[k] = true → idxP p l = k := fun h => idxP_hit hp hk h
    have hpp : p l[k] = false → ∀ i (hi : i < k + 1) (hl : i < l.length), p l[i] = false := fun h0 i hi hl' => by
      rcases Nat.lt_or_ge i k with h | h
      · exact hp i h hl'
      · obtain rfl : i = k := by omega
        exact h0
    have hfk := hf l[k] (List.getElem_mem hk)
    generalize l[k] = v at hx hit hpp hfk
    simp (implicitDefEqProofs := false) only [↓reduceIte, go_sem, oread, owrite, Nat.reduceAdd, Nat.reduceSub, Nat.reduceMul, Nat.reduceLT, Nat.reduceLeDiff, Nat.reduceEqDiff, Nat.reduceBEq, Int.reduceLE, Int.reduceLT, Int.reduceEq, Int.reduceNe, Int.reduceAdd, Int.reduceSub, Int.reduceMul, Int.reduceNeg, Int.reduceToNat, Int.reduceNatCast, reduceCtorEq, eq_self, h0, h1, h7, h8, hk, hx, encS]
    refine KCall.ok hfk ?_
    cases hv : p v with
    | true =>
      simp (implicitDefEqProofs := false) only [↓reduceIte, go_sem, oread, owrite, Nat.reduceAdd, Nat.reduceSub, Nat.reduceMul, Nat.reduceLT, Nat.reduceLeDiff, Nat.reduceEqDiff, Nat.reduceBEq, Int.reduceLE, Int.reduceLT, Int.reduceEq, Int.reduceNe, Int.reduceAdd, Int.reduceSub, Int.reduceMul, Int.reduceNeg, Int.reduceToNat, Int.reduceNatCast, reduceCtorEq, eq_self]
      refine AEnd.ret0 ?_
      simp (implicitDefEqProofs := false) only [↓reduceIte, go_sem, oread, owrite, Nat.reduceAdd, Nat.reduceSub, Nat.reduceMul, Nat.reduceLT, Nat.reduceLeDiff, Nat.reduceEqDiff, Nat.reduceBEq, Int.reduceLE, Int.reduceLT, Int.reduceEq, Int.reduceNe, Int.reduceAdd, Int.reduceSub, Int.reduceMul, Int.reduceNeg, Int.reduceToNat, Int.reduceNatCast, reduceCtorEq, eq_self, hit hv]
    | false =>
      simp (implicitDefEqProofs := false) only [↓reduceIte, go_sem, oread, owrite, Nat.reduceAdd, Nat.reduceSub, Nat.reduceMul, Nat.reduceLT, Nat.reduceLeDiff, Nat.reduceEqDiff, Nat.reduceBEq, Int.reduceLE, Int.reduceLT, Int.reduceEq, Int.reduceNe, Int.reduceAdd, Int.reduceSub, Int.reduceMul, Int.reduceNeg, Int.reduceToNat, Int.reduceNatCast, reduceCtorEq, eq_self, h8]
      refine Rnd.same ⟨rfl, hpp hv, ?_⟩
      simp (implicitDefEqProofs := false) only [↓reduceIte, go_sem, oread, owrite, Nat.reduceAdd, Nat.reduceSub, Nat.reduceMul, Nat.reduceLT, Nat.reduceLeDiff, Nat.reduceEqDiff, Nat.reduceBEq, Int.reduceLE, Int.reduceLT, Int.reduceEq, Int.reduceNe, Int.reduceAdd, Int.reduceSub, Int.reduceMul, Int.reduceNeg, Int.reduceToNat, Int.reduceNatCast, reduceCtorEq, eq_self, h0, h1, h7, hw]
  · rintro s H' ⟨rfl, hp, h0, h1, h7, h8⟩
    simp (implicitDefEqProofs := false) only [↓reduceIte, go_sem, oread, owrite, Nat.reduceAdd, Nat.reduceSub, Nat.reduceMul, Nat.reduceLT, Nat.reduceLeDiff, Nat.reduceEqDiff, Nat.reduceBEq, Int.reduceLE, Int.reduceLT, Int.reduceEq, Int.reduceNe, Int.reduceAdd, Int.reduceSub, Int.reduceMul, Int.reduceNeg, Int.reduceToNat, Int.reduceNatCast, reduceCtorEq, eq_self, h7, h8]
    refine AEnd.ret0 ?_
    simp (implicitDefEqProofs := false) only [↓reduceIte, go_sem, oread, owrite, Nat.reduceAdd, Nat.reduceSub, Nat.reduceMul, Nat.reduceLT, Nat.reduceLeDiff, Nat.reduceEqDiff, Nat.reduceBEq, Int.reduceLE, Int.reduceLT, Int.reduceEq, Int.reduceNe, Int.reduceAdd, Int.reduceSub, Int.reduceMul, Int.reduceNeg, Int.reduceToNat, Int.reduceNatCast, reduceCtorEq, eq_self, idxP_none fun i hi => hp i hi hi]
set_option maxRecDepth 10000 in
theorem containsS_does (l : List Span) (p : Span → Bool) (g : FuncId) (caps : List AV) (n1 : Bool) (H : AHeap) (hl : l.length ≤ 9223372036854775807) (hf : ∀ v ∈ l, Does Try.prog g ([avS v] ++ caps) H (.ok (bA (p v))) H) :
    Does Try.prog 30 [.d (.list n1 (l.map encS)), .fn g caps] H (.ok (bA (l.any p))) H := by
  refine Does.of_awp (hint := (fun _ => false)) Try.func30 (by kernel_rfl) rfl [4] (by kernel_rfl) (by decide) (by simp [Try.ntmps30]) ?_
  rw [Try.ntmps30]
  simp (implicitDefEqProofs := false) only [↓reduceIte, go_sem, oread, owrite, Nat.reduceAdd, Nat.reduceSub, Nat.reduceMul, Nat.reduceLT, Nat.reduceLeDiff, Nat.reduceEqDiff, Nat.reduceBEq, Int.reduceLE, Int.reduceLT, Int.reduceEq, Int.reduceNe, Int.reduceAdd, Int.reduceSub, Int.reduceMul, Int.reduceNeg, Int.reduceToNat, Int.reduceNatCast, reduceCtorEq, eq_self]
  refine KCall.ok (indexS_does l p g caps n1 H hl hf) ?_
  simp (implicitDefEqProofs := false) only [↓reduceIte, go_sem, oread, owrite, Nat.reduceAdd, Nat.reduceSub, Nat.reduceMul, Nat.reduceLT, Nat.reduceLeDiff, Nat.reduceEqDiff, Nat.reduceBEq, Int.reduceLE, Int.reduceLT, Int.reduceEq, Int.reduceNe, Int.reduceAdd, Int.reduceSub, Int.reduceMul, Int.reduceNeg, Int.reduceToNat, Int.reduceNatCast, reduceCtorEq, eq_self, idxP_pos]
  refine AEnd.ret0 ?_
  simp (implicitDefEqProofs := false) only [↓reduceIte, go_sem, oread, owrite, Nat.reduceAdd, Nat.reduceSub, Nat.reduceMul, Nat.reduceLT, Nat.reduceLeDiff, Nat.reduceEqDiff, Nat.reduceBEq, Int.reduceLE, Int.reduceLT, Int.reduceEq, Int.reduceNe, Int.reduceAdd, Int.reduceSub, Int.reduceMul, Int.reduceNeg, Int.reduceToNat, Int.reduceNatCast, reduceCtorEq, eq_self, Bool.decide_eq_true]
set_option maxRecDepth 10000 in
theorem in1_does (k v : Val) (id : Nat) (H : AHeap) (hb : H[id]? = some (.box 26 3 0 1 [iA v.kind, iA v.i, sA v.s])) : Does Try.prog 36 [k.av, .ptr id 0 0 0] H (.ok (bA (decide (cmpV k v = 0)))) H := by
  have hlt : id < H.length := (List.getElem?_eq_some_iff.1 hb).1
  refine Does.of_awp (hint := (fun _ => false)) Try.func36 (by kernel_rfl) rfl [3] (by kernel_rfl) (by decide) (by simp [Try.ntmps36]) ?_
  rw [Try.ntmps36]
  simp (implicitDefEqProofs := false) only [↓reduceIte, go_sem, oread, owrite, Nat.reduceAdd, Nat.reduceSub, Nat.reduceMul, Nat.reduceLT, Nat.reduceLeDiff, Nat.reduceEqDiff, Nat.reduceBEq, Int.reduceLE, Int.reduceLT, Int.reduceEq, Int.reduceNe, Int.reduceAdd, Int.reduceSub, Int.reduceMul, Int.reduceNeg, Int.reduceToNat, Int.reduceNatCast, reduceCtorEq, eq_self, hb, List.getElem?_append_left hlt]
  refine KCall.ok (vcmp_does k v _) ?_
  simp (implicitDefEqProofs := false) only [↓reduceIte, go_sem, oread, owrite, Nat.reduceAdd, Nat.reduceSub, Nat.reduceMul, Nat.reduceLT, Nat.reduceLeDiff, Nat.reduceEqDiff, Nat.reduceBEq, Int.reduceLE, Int.reduceLT, Int.reduceEq, Int.reduceNe, Int.reduceAdd, Int.reduceSub, Int.reduceMul, Int.reduceNeg, Int.reduceToNat, Int.reduceNatCast, reduceCtorEq, eq_self]
  refine AEnd.ret ?_
  simp (implicitDefEqProofs := false) only [↓reduceIte, go_sem, oread, owrite, Nat.reduceAdd, Nat.reduceSub, Nat.reduceMul, Nat.reduceLT, Nat.reduceLeDiff, Nat.reduceEqDiff, Nat.reduceBEq, Int.reduceLE, Int.reduceLT, Int.reduceEq, Int.reduceNe, Int.reduceAdd, Int.reduceSub, Int.reduceMul, Int.reduceNeg, Int.reduceToNat, Int.reduceNatCast, reduceCtorEq, eq_self]
set_option maxRecDepth 10000 in
theorem in_does (keys : List Val) (v : Val) (n1 : Bool) (H : AHeap) (hl : keys.length ≤ 9223372036854775807) : Does Try.prog 15 [.d (.list n1 (keys.map Val.enc)), v.av] H (.ok (bA (inP keys v))) H := by
  refine Does.of_awp (hint := (fun _ => false)) Try.func15 (by kernel_rfl) rfl [4] (by kernel_rfl) (by decide) (by simp [Try.ntmps15]) ?_
  rw [Try.ntmps15]
  simp (implicitDefEqProofs := false) only [↓reduceIte, go_sem, oread, owrite, Nat.reduceAdd, Nat.reduceSub, Nat.reduceMul, Nat.reduceLT, Nat.reduceLeDiff, Nat.reduceEqDiff, Nat.reduceBEq, Int.reduceLE, Int.reduceLT, Int.reduceEq, Int.reduceNe, Int.reduceAdd, Int.reduceSub, Int.reduceMul, Int.reduceNeg, Int.reduceToNat, Int.reduceNatCast, reduceCtorEq, eq_self]
  by_cases h0 : v.kind = 0
  · simp (implicitDefEqProofs := false) only [↓reduceIte, go_sem, oread, owrite, Nat.reduceAdd, Nat.reduceSub, Nat.reduceMul, Nat.reduceLT, Nat.reduceLeDiff, Nat.reduceEqDiff, Nat.reduceBEq, Int.reduceLE, Int.reduceLT, Int.reduceEq, Int.reduceNe, Int.reduceAdd, Int.reduceSub, Int.reduceMul, Int.reduceNeg, Int.reduceToNat, Int.reduceNatCast, reduceCtorEq, eq_self, h0]
    refine AEnd.ret ?_
    simp (implicitDefEqProofs := false) only [↓reduceIte, go_sem, oread, owrite, Nat.reduceAdd, Nat.reduceSub, Nat.reduceMul, Nat.reduceLT, Nat.reduceLeDiff, Nat.reduceEqDiff, Nat.reduceBEq, Int.reduceLE, Int.reduceLT, Int.reduceEq, Int.reduceNe, Int.reduceAdd, Int.reduceSub, Int.reduceMul, Int.reduceNeg, Int.reduceToNat, Int.reduceNatCast, reduceCtorEq, eq_self, inP, h0]
  · simp (implicitDefEqProofs := false) only [↓reduceIte, go_sem, oread, owrite, Nat.reduceAdd, Nat.reduceSub, Nat.reduceMul, Nat.reduceLT, Nat.reduceLeDiff, Nat.reduceEqDiff, Nat.reduceBEq, Int.reduceLE, Int.reduceLT, Int.reduceEq, Int.reduceNe, Int.reduceAdd, Int.reduceSub, Int.reduceMul, Int.reduceNeg, Int.reduceToNat, Int.reduceNatCast, reduceCtorEq, eq_self, h0]
    refine KCall.ok (containsV_does keys (fun k => decide (cmpV k v = 0)) _ _ n1 _ hl fun k _ => in1_does k v _ _ (by simp)) ?_
    simp (implicitDefEqProofs := false) only [↓reduceIte, go_sem, oread, owrite, Nat.reduceAdd, Nat.reduceSub, Nat.reduceMul, Nat.reduceLT, Nat.reduceLeDiff, Nat.reduceEqDiff, Nat.reduceBEq, Int.reduceLE, Int.reduceLT, Int.reduceEq, Int.reduceNe, Int.reduceAdd, Int.reduceSub, Int.reduceMul, Int.reduceNeg, Int.reduceToNat, Int.reduceNatCast, reduceCtorEq, eq_self]
    refine AEnd.ret ?_
    simp (implicitDefEqProofs := false) only [↓reduceIte, go_sem, oread, owrite, Nat.reduceAdd, Nat.reduceSub, Nat.reduceMul, Nat.reduceLT, Nat.reduceLeDiff, Nat.reduceEqDiff, Nat.reduceBEq, Int.reduceLE, Int.reduceLT, Int.reduceEq, Int.reduceNe, Int.reduceAdd, Int.reduceSub, Int.reduceMul, Int.reduceNeg, Int.reduceToNat, Int.reduceNatCast, reduceCtorEq, eq_self, inP, h0]
set_option maxRecDepth 10000 in
theorem within1_does (x : Span) (v : Val) (id : Nat) (H : AHeap) (hb : H[id]? = some (.box 26 3 0 1 [iA v.kind, iA v.i, sA v.s])) : Does Try.prog 31 [avS x, .ptr id 0 0 0] H (.ok (bA (decide (x.1 ≤ v.i) && decide (v.i ≤ x.2)))) H := by
  have hlt : id < H.length := (List.getElem?_eq_some_iff.1 hb).1
  refine Does.of_awp (hint := (fun _ => false)) Try.func31 (by kernel_rfl) rfl [3] (by kernel_rfl) (by decide) (by simp [Try.ntmps31]) ?_
  rw [Try.ntmps31]
  by_cases h : x.1 ≤ v.i
  · simp (implicitDefEqProofs := false) only [↓reduceIte, go_sem, oread, owrite, Nat.reduceAdd, Nat.reduceSub, Nat.reduceMul, Nat.reduceLT, Nat.reduceLeDiff, Nat.reduceEqDiff, Nat.reduceBEq, Int.reduceLE, Int.reduceLT, Int.reduceEq, Int.reduceNe, Int.reduceAdd, Int.reduceSub, Int.reduceMul, Int.reduceNeg, Int.reduceToNat, Int.reduceNatCast, reduceCtorEq, eq_self, hb, List.getElem?_append_left hlt, h]
    refine AEnd.ret ?_
    simp (implicitDefEqProofs := false) only [↓reduceIte, go_sem, oread, owrite, Nat.reduceAdd, Nat.reduceSub, Nat.reduceMul, Nat.reduceLT, Nat.reduceLeDiff, Nat.reduceEqDiff, Nat.reduceBEq, Int.reduceLE, Int.reduceLT, Int.reduceEq, Int.reduceNe, Int.reduceAdd, Int.reduceSub, Int.reduceMul, Int.reduceNeg, Int.reduceToNat, Int.reduceNatCast, reduceCtorEq, eq_self, h]
  · simp (implicitDefEqProofs := false) only [↓reduceIte, go_sem, oread, owrite, Nat.reduceAdd, Nat.reduceSub, Nat.reduceMul, Nat.reduceLT, Nat.reduceLeDiff, Nat.reduceEqDiff, Nat.reduceBEq, Int.reduceLE, Int.reduceLT, Int.reduceEq, Int.reduceNe, Int.reduceAdd, Int.reduceSub, Int.reduceMul, Int.reduceNeg, Int.reduceToNat, Int.reduceNatCast, reduceCtorEq, eq_self, hb, List.getElem?_append_left hlt, h]
    refine AEnd.ret ?_
    simp (implicitDefEqProofs := false) only [↓reduceIte, go_sem, oread, owrite, Nat.reduceAdd, Nat.reduceSub, Nat.reduceMul, Nat.reduceLT, Nat.reduceLeDiff, Nat.reduceEqDiff, Nat.reduceBEq, Int.reduceLE, Int.reduceLT, Int.reduceEq, Int.reduceNe, Int.reduceAdd, Int.reduceSub, Int.reduceMul, Int.reduceNeg, Int.reduceToNat, Int.reduceNatCast, reduceCtorEq, eq_self, h]
set_option maxRecDepth 10000 in
theorem within_does (spans : List Span) (v : Val) (n1 : Bool) (H : AHeap) (hl : spans.length ≤ 9223372036854775807) : Does Try.prog 12 [.d (.list n1 (spans.map encS)), v.av] H (.ok (bA (withinP spans v))) H := by
  refine Does.of_awp (hint := (fun _ => false)) Try.func12 (by kernel_rfl) rfl [4] (by kernel_rfl) (by decide) (by simp [Try.ntmps12]) ?_
  rw [Try.ntmps12]
  simp (implicitDefEqProofs := false) only [↓reduceIte, go_sem, oread, owrite, Nat.reduceAdd, Nat.reduceSub, Nat.reduceMul, Nat.reduceLT, Nat.reduceLeDiff, Nat.reduceEqDiff, Nat.reduceBEq, Int.reduceLE, Int.reduceLT, Int.reduceEq, Int.reduceNe, Int.reduceAdd, Int.reduceSub, Int.reduceMul, Int.reduceNeg, Int.reduceToNat, Int.reduceNatCast, reduceCtorEq, eq_self]
  by_cases h0 : v.kind = 1
  · simp (implicitDefEqProofs := false) only [↓reduceIte, go_sem, oread, owrite, Nat.reduceAdd, Nat.reduceSub, Nat.reduceMul, Nat.reduceLT, Nat.reduceLeDiff, Nat.reduceEqDiff, Nat.reduceBEq, Int.reduceLE, Int.reduceLT, Int.reduceEq, Int.reduceNe, Int.reduceAdd, Int.reduceSub, Int.reduceMul, Int.reduceNeg, Int.reduceToNat, Int.reduceNatCast, reduceCtorEq, eq_self, eq_true h0]
    refine KCall.ok (containsS_does spans (fun s => decide (s.1 ≤ v.i) && decide (v.i ≤ s.2)) _ _ n1 _ hl fun k _ => within1_does k v _ _ (by simp)) ?_
    simp (implicitDefEqProofs := false) only [↓reduceIte, go_sem, oread, owrite, Nat.reduceAdd, Nat.reduceSub, Nat.reduceMul, Nat.reduceLT, Nat.reduceLeDiff, Nat.reduceEqDiff, Nat.reduceBEq, Int.reduceLE, Int.reduceLT, Int.reduceEq, Int.reduceNe, Int.reduceAdd, Int.reduceSub, Int.reduceMul, Int.reduceNeg, Int.reduceToNat, Int.reduceNatCast, reduceCtorEq, eq_self]
    refine AEnd.ret ?_
    simp (implicitDefEqProofs := false) only [↓reduceIte, go_sem, oread, owrite, Nat.reduceAdd, Nat.reduceSub, Nat.reduceMul, Nat.reduceLT, Nat.reduceLeDiff, Nat.reduceEqDiff, Nat.reduceBEq, Int.reduceLE, Int.reduceLT, Int.reduceEq, Int.reduceNe, Int.reduceAdd, Int.reduceSub, Int.reduceMul, Int.reduceNeg, Int.reduceToNat, Int.reduceNatCast, reduceCtorEq, eq_self, withinP, h0]
  · simp (implicitDefEqProofs := false) only [↓reduceIte, go_sem, oread, owrite, Nat.reduceAdd, Nat.reduceSub, Nat.reduceMul, Nat.reduceLT, Nat.reduceLeDiff, Nat.reduceEqDiff, Nat.reduceBEq, Int.reduceLE, Int.reduceLT, Int.reduceEq, Int.reduceNe, Int.reduceAdd, Int.reduceSub, Int.reduceMul, Int.reduceNeg, Int.reduceToNat, Int.reduceNatCast, reduceCtorEq, eq_self, h0]
    refine AEnd.ret ?_
    simp (implicitDefEqProofs := false) only [↓reduceIte, go_sem, oread, owrite, Nat.reduceAdd, Nat.reduceSub, Nat.reduceMul, Nat.reduceLT, Nat.reduceLeDiff, Nat.reduceEqDiff, Nat.reduceBEq, Int.reduceLE, Int.reduceLT, Int.reduceEq, Int.reduceNe, Int.reduceAdd, Int.reduceSub, Int.reduceMul, Int.reduceNeg, Int.reduceToNat, Int.reduceNatCast, reduceCtorEq, eq_self, withinP, h0]
end Go.Proofs.Ytfmmemboakdeiaa
namespace Go.Proofs.Ytfmmemboakdeiaa
open Go.Proofs.YtfmmemboakdeiaaAw Go.RowKit
set_option linter.unusedVariables false
set_option linter.unusedSimpArgs false
set_option maxRecDepth 10000 in
set_option maxHeartbeats 1000000 in
theorem in19_does (keys : List Val) (v : Val) (n1 : Bool) (H : AHeap) (hl : keys.length ≤ 9223372036854775807) (hs : ∀ k ∈ keys, k.s.size ≤ 9223372036854775807) : Does Try.prog 42 [.d (.list n1 (keys.map Val.enc)), v.av] H (.ok (bA (inP keys v))) H := by
  refine Does.of_awp (hint := (fun _ => false)) Try.func42 (by kernel_rfl) rfl [4] (by kernel_rfl) (by decide) (by simp [Try.ntmps42]) ?_
  rw [Try.ntmps42]
  simp (implicitDefEqProofs := false) only [↓reduceIte, go_sem, oread, owrite, Nat.reduceAdd, Nat.reduceSub, Nat.reduceMul, Nat.reduceLT, Nat.reduceLeDiff, Nat.reduceEqDiff, Nat.reduceBEq, Int.reduceLE, Int.reduceLT, Int.reduceEq, Int.reduceNe, Int.reduceAdd, Int.reduceSub, Int.reduceMul, Int.reduceNeg, Int.reduceToNat, Int.reduceNatCast, reduceCtorEq, eq_self]
  by_cases h0 : v.kind = 0
  · refine awp_for3 (fun k s H' => H' = H ++ [.box 26 3 0 1 [iA v.kind, iA v.i, sA v.s]] ∧ s 0 = .d (.list n1 (keys.map Val.enc)) ∧ s 3 = .ptr H.length 0 0 0 ∧ s 5 = iA k) keys.length hl (Weak.refl _ _) ?_ ?_ ?_
    · simp (implicitDefEqProofs := false) only [↓reduceIte, go_sem, oread, owrite, Nat.reduceAdd, Nat.reduceSub, Nat.reduceMul, Nat.reduceLT, Nat.reduceLeDiff, Nat.reduceEqDiff, Nat.reduceBEq, Int.reduceLE, Int.reduceLT, Int.reduceEq, Int.reduceNe, Int.reduceAdd, Int.reduceSub, Int.reduceMul, Int.reduceNeg, Int.reduceToNat, Int.reduceNatCast, reduceCtorEq, eq_self]
    · rintro k s H' hk hw ⟨rfl, t0, t3, t5⟩
      simp (implicitDefEqProofs := false) only [↓reduceIte, go_sem, oread, owrite, Nat.reduceAdd, Nat.reduceSub, Nat.reduceMul, Nat.reduceLT, Nat.reduceLeDiff, Nat.reduceEqDiff, Nat.reduceBEq, Int.reduceLE, Int.reduceLT, Int.reduceEq, Int.reduceNe, Int.reduceAdd, Int.reduceSub, Int.reduceMul, Int.reduceNeg, Int.reduceToNat, Int.reduceNatCast, reduceCtorEq, eq_self, t0, t3, t5, hk]
      refine awp_draw K.mixed (by kernel_rfl) ?_
      simp (implicitDefEqProofs := false) only [↓reduceIte, go_sem, oread, owrite, Nat.reduceAdd, Nat.reduceSub, Nat.reduceMul, Nat.reduceLT, Nat.reduceLeDiff, Nat.reduceEqDiff, Nat.reduceBEq, Int.reduceLE, Int.reduceLT, Int.reduceEq, Int.reduceNe, Int.reduceAdd, Int.reduceSub, Int.reduceMul, Int.reduceNeg, Int.reduceToNat, Int.reduceNatCast, reduceCtorEq, eq_self, t0, t3, t5, h0]
      refine Rnd.same ⟨?_, ?_⟩
      · simp (implicitDefEqProofs := false) only [↓reduceIte, go_sem, oread, owrite, Nat.reduceAdd, Nat.reduceSub, Nat.reduceMul, Nat.reduceLT, Nat.reduceLeDiff, Nat.reduceEqDiff, Nat.reduceBEq, Int.reduceLE, Int.reduceLT, Int.reduceEq, Int.reduceNe, Int.reduceAdd, Int.reduceSub, Int.reduceMul, Int.reduceNeg, Int.reduceToNat, Int.reduceNatCast, reduceCtorEq, eq_self, h0]
      · simp (implicitDefEqProofs := false) only [↓reduceIte, go_sem, oread, owrite, Nat.reduceAdd, Nat.reduceSub, Nat.reduceMul, Nat.reduceLT, Nat.reduceLeDiff, Nat.reduceEqDiff, Nat.reduceBEq, Int.reduceLE, Int.reduceLT, Int.reduceEq, Int.reduceNe, Int.reduceAdd, Int.reduceSub, Int.reduceMul, Int.reduceNeg, Int.reduceToNat, Int.reduceNatCast, reduceCtorEq, eq_self, t0, t3, hw]
    · rintro s H' ⟨rfl, t0, t3, t5⟩
      simp (implicitDefEqProofs := false) only [↓reduceIte, go_sem, oread, owrite, Nat.reduceAdd, Nat.reduceSub, Nat.reduceMul, Nat.reduceLT, Nat.reduceLeDiff, Nat.reduceEqDiff, Nat.reduceBEq, Int.reduceLE, Int.reduceLT, Int.reduceEq, Int.reduceNe, Int.reduceAdd, Int.reduceSub, Int.reduceMul, Int.reduceNeg, Int.reduceToNat, Int.reduceNatCast, reduceCtorEq, eq_self, t0, t5]
      refine AEnd.ret ?_
      simp (implicitDefEqProofs := false) only [↓reduceIte, go_sem, oread, owrite, Nat.reduceAdd, Nat.reduceSub, Nat.reduceMul, Nat.reduceLT, Nat.reduceLeDiff, Nat.reduceEqDiff, Nat.reduceBEq, Int.reduceLE, Int.reduceLT, Int.reduceEq, Int.reduceNe, Int.reduceAdd, Int.reduceSub, Int.reduceMul, Int.reduceNeg, Int.reduceToNat, Int.reduceNatCast, reduceCtorEq, eq_self, inP, h0]
  · refine awp_for3 (fun k s H' => H' = H ++ [.box 26 3 0 1 [iA v.kind, iA v.i, sA v.s]] ∧ (∀ i (hi : i < k) (hl : i < keys.length), decide (cmpV keys[i] v = 0) = false) ∧ s 0 = .d (.list n1 (keys.map Val.enc)) ∧ s 3 = .ptr H.length 0 0 0 ∧ s 5 = iA k) keys.length hl (Weak.refl _ _) ?_ ?_ ?_
    · refine ⟨rfl, fun i hi => by omega, ?_⟩
      simp (implicitDefEqProofs := false) only [↓reduceIte, go_sem, oread, owrite, Nat.reduceAdd, Nat.reduceSub, Nat.reduceMul, Nat.reduceLT, Nat.reduceLeDiff, Nat.reduceEqDiff, Nat.reduceBEq, Int.reduceLE, Int.reduceLT, Int.reduceEq, Int.reduceNe, Int.reduceAdd, Int.reduceSub, Int.reduceMul, Int.reduceNeg, Int.reduceToNat, Int.reduceNatCast, reduceCtorEq, eq_self]
    · rintro k s H' hk hw ⟨rfl, hp, t0, t3, t5⟩
      have hx := List.getElem?_eq_getElem hk
      have hsz := hs keys[k] (List.getElem_mem hk)
      have hit : decide (cmpV keys[k] v = 0) = true → (keys.any fun k => decide (cmpV k v = 0)) = true := fun h => any_hit (p := fun k => decide (cmpV k v = 0)) hk h
      have hpp : decide (cmpV keys[k] v = 0) = false → ∀ i (hi : i < k + 1) (hl : i < keys.length), decide (cmpV keys[i] v = 0) = false := fun h0 i hi hl' => by
        rcases Nat.lt_or_ge i k with h | h
        · exact hp i h hl'
        · obtain rfl : i = k := by omega
          exact h0
      generalize keys[k] = x at hx hsz hit hpp
      simp (implicitDefEqProofs := false) only [↓reduceIte, go_sem, oread, owrite, Nat.reduceAdd, Nat.reduceSub, Nat.reduceMul, Nat.reduceLT, Nat.reduceLeDiff, Nat.reduceEqDiff, Nat.reduceBEq, Int.reduceLE, Int.reduceLT, Int.reduceEq, Int.reduceNe, Int.reduceAdd, Int.reduceSub, Int.reduceMul, Int.reduceNeg, Int.reduceToNat, Int.reduceNatCast, reduceCtorEq, eq_self, t0, t3, t5, hk]
      refine awp_draw K.mixed (by kernel_rfl) ?_
      simp (implicitDefEqProofs := false) only [↓reduceIte, go_sem, oread, owrite, Nat.reduceAdd, Nat.reduceSub, Nat.reduceMul, Nat.reduceLT, Nat.reduceLeDiff, Nat.reduceEqDiff, Nat.reduceBEq, Int.reduceLE, Int.reduceLT, Int.reduceEq, Int.reduceNe, Int.reduceAdd, Int.reduceSub, Int.reduceMul, Int.reduceNeg, Int.reduceToNat, Int.reduceNatCast, reduceCtorEq, eq_self, t0, t3, t5, h0, hx, Val.enc]
      refine KCall.ok (vcmp05_does x v hsz _) ?_
      cases hc : decide (cmpV x v = 0) with
      | true =>
        simp (implicitDefEqProofs := false) only [↓reduceIte, go_sem, oread, owrite, Nat.reduceAdd, Nat.reduceSub, Nat.reduceMul, Nat.reduceLT, Nat.reduceLeDiff, Nat.reduceEqDiff, Nat.reduceBEq, Int.reduceLE, Int.reduceLT, Int.reduceEq, Int.reduceNe, Int.reduceAdd, Int.reduceSub, Int.reduceMul, Int.reduceNeg, Int.reduceToNat, Int.reduceNatCast, reduceCtorEq, eq_self, hc]
        refine AEnd.ret ?_
        simp (implicitDefEqProofs := false) only [↓reduceIte, go_sem, oread, owrite, Nat.reduceAdd, Nat.reduceSub, Nat.reduceMul, Nat.reduceLT, Nat.reduceLeDiff, Nat.reduceEqDiff, Nat.reduceBEq, Int.reduceLE, Int.reduceLT, Int.reduceEq, Int.reduceNe, Int.reduceAdd, Int.reduceSub, Int.reduceMul, Int.reduceNeg, Int.reduceToNat, Int.reduceNatCast, reduceCtorEq, eq_self, inP, h0, hit hc]
      | false =>
        simp (implicitDefEqProofs := false) only [↓reduceIte, go_sem, oread, owrite, Nat.reduceAdd, Nat.reduceSub, Nat.reduceMul, Nat.reduceLT, Nat.reduceLeDiff, Nat.reduceEqDiff, Nat.reduceBEq, Int.reduceLE, Int.reduceLT, Int.reduceEq, Int.reduceNe, Int.reduceAdd, Int.reduceSub, Int.reduceMul, Int.reduceNeg, Int.reduceToNat, Int.reduceNatCast, reduceCtorEq, eq_self, hc, t5]
        refine Rnd.same ⟨rfl, hpp hc, ?_⟩
        simp (implicitDefEqProofs := false) only [↓reduceIte, go_sem, oread, owrite, Nat.reduceAdd, Nat.reduceSub, Nat.reduceMul, Nat.reduceLT, Nat.reduceLeDiff, Nat.reduceEqDiff, Nat.reduceBEq, Int.reduceLE, Int.reduceLT, Int.reduceEq, Int.reduceNe, Int.reduceAdd, Int.reduceSub, Int.reduceMul, Int.reduceNeg, Int.reduceToNat, Int.reduceNatCast, reduceCtorEq, eq_self, t0, t3, hw]
    · rintro s H' ⟨rfl, hp, t0, t3, t5⟩
      simp (implicitDefEqProofs := false) only [↓reduceIte, go_sem, oread, owrite, Nat.reduceAdd, Nat.reduceSub, Nat.reduceMul, Nat.reduceLT, Nat.reduceLeDiff, Nat.reduceEqDiff, Nat.reduceBEq, Int.reduceLE, Int.reduceLT, Int.reduceEq, Int.reduceNe, Int.reduceAdd, Int.reduceSub, Int.reduceMul, Int.reduceNeg, Int.reduceToNat, Int.reduceNatCast, reduceCtorEq, eq_self, t0, t5]
      refine AEnd.ret ?_
      simp (implicitDefEqProofs := false) only [↓reduceIte, go_sem, oread, owrite, Nat.reduceAdd, Nat.reduceSub, Nat.reduceMul, Nat.reduceLT, Nat.reduceLeDiff, Nat.reduceEqDiff, Nat.reduceBEq, Int.reduceLE, Int.reduceLT, Int.reduceEq, Int.reduceNe, Int.reduceAdd, Int.reduceSub, Int.reduceMul, Int.reduceNeg, Int.reduceToNat, Int.reduceNatCast, reduceCtorEq, eq_self, inP, h0, any_none (p := fun k => decide (cmpV k v = 0)) (l := keys) fun i hi => hp i hi hi]
set_option maxRecDepth 10000 in
set_option maxHeartbeats 1000000 in
theorem within19_does (spans : List Span) (v : Val) (n1 : Bool) (H : AHeap) (hl : spans.length ≤ 9223372036854775807) : Does Try.prog 43 [.d (.list n1 (spans.map encS)), v.av] H (.ok (bA (withinP spans v))) H := by
  refine Does.of_awp (hint := (fun _ => false)) Try.func43 (by kernel_rfl) rfl [4] (by kernel_rfl) (by decide) (by simp [Try.ntmps43]) ?_
  rw [Try.ntmps43]
  simp (implicitDefEqProofs := false) only [↓reduceIte, go_sem, oread, owrite, Nat.reduceAdd, Nat.reduceSub, Nat.reduceMul, Nat.reduceLT, Nat.reduceLeDiff, Nat.reduceEqDiff, Nat.reduceBEq, Int.reduceLE, Int.reduceLT, Int.reduceEq, Int.reduceNe, Int.reduceAdd, Int.reduceSub, Int.reduceMul, Int.reduceNeg, Int.reduceToNat, Int.reduceNatCast, reduceCtorEq, eq_self]
  by_cases h0 : v.kind = 1
  · refine awp_for3 (fun k s H' => H' = H ++ [.box 26 3 0 1 [iA v.kind, iA v.i, sA v.s]] ∧ (∀ i (hi : i < k) (hl : i < spans.length), (decide (spans[i].1 ≤ v.i) && decide (v.i ≤ spans[i].2)) = false) ∧ s 0 = .d (.list n1 (spans.map encS)) ∧ s 3 = .ptr H.length 0 0 0 ∧ s 5 = iA k) spans.length hl (Weak.refl _ _) ?_ ?_ ?_
    · refine ⟨rfl, fun i hi => by omega, ?_⟩
      simp (implicitDefEqProofs := false) only [↓reduceIte, go_sem, oread, owrite, Nat.reduceAdd, Nat.reduceSub, Nat.reduceMul, Nat.reduceLT, Nat.reduceLeDiff, Nat.reduceEqDiff, Nat.reduceBEq, Int.reduceLE, Int.reduceLT, Int.reduceEq, Int.reduceNe, Int.reduceAdd, Int.reduceSub, Int.reduceMul, Int.reduceNeg, Int.reduceToNat, Int.reduceNatCast, reduceCtorEq, eq_self]
    · rintro k s H' hk hw ⟨rfl, hp, t0, t3, t5⟩
      have hx := List.getElem?_eq_getElem hk
      have hit : (decide (spans[k].1 ≤ v.i) && decide (v.i ≤ spans[k].2)) = true → (spans.any fun s => decide (s.1 ≤ v.i) && decide (v.i ≤ s.2)) = true := fun h => any_hit (p := fun s : Span => decide (s.1 ≤ v.i) && decide (v.i ≤ s.2)) hk h
      have hpp : (decide (spans[k].1 ≤ v.i) && decide (v.i ≤ spans[k].2)) = false → ∀ i (hi : i < k + 1) (hl : i < spans.length), (decide (spans[i].1 ≤ v.i) && decide (v.i ≤ spans[i].2)) = false := fun h0 i hi hl' => by
        rcases Nat.lt_or_ge i k with h | h
        · exact hp i h hl'
        · obtain rfl : i = k := by omega
          exact h0
      generalize spans[k] = x at hx hit hpp
      simp (implicitDefEqProofs := false) only [↓reduceIte, go_sem, oread, owrite, Nat.reduceAdd, Nat.reduceSub, Nat.reduceMul, Nat.reduceLT, Nat.reduceLeDiff, Nat.reduceEqDiff, Nat.reduceBEq, Int.reduceLE, Int.reduceLT, Int.reduceEq, Int.reduceNe, Int.reduceAdd, Int.reduceSub, Int.reduceMul, Int.reduceNeg, Int.reduceToNat, Int.reduceNatCast, reduceCtorEq, eq_self, t0, t3, t5, hk]
      refine awp_draw K.mixed (by kernel_rfl) ?_
      by_cases h1 : x.1 ≤ v.i
      · by_cases h2 : v.i ≤ x.2
        · simp (implicitDefEqProofs := false) only [↓reduceIte, go_sem, oread, owrite, Nat.reduceAdd, Nat.reduceSub, Nat.reduceMul, Nat.reduceLT, Nat.reduceLeDiff, Nat.reduceEqDiff, Nat.reduceBEq, Int.reduceLE, Int.reduceLT, Int.reduceEq, Int.reduceNe, Int.reduceAdd, Int.reduceSub, Int.reduceMul, Int.reduceNeg, Int.reduceToNat, Int.reduceNatCast, reduceCtorEq, eq_self, t0, t3, t5, eq_true h0, hx, encS, h1, h2]
          refine AEnd.ret ?_
          simp (implicitDefEqProofs := false) only [↓reduceIte, go_sem, oread, owrite, Nat.reduceAdd, Nat.reduceSub, Nat.reduceMul, Nat.reduceLT, Nat.reduceLeDiff, Nat.reduceEqDiff, Nat.reduceBEq, Int.reduceLE, Int.reduceLT, Int.reduceEq, Int.reduceNe, Int.reduceAdd, Int.reduceSub, Int.reduceMul, Int.reduceNeg, Int.reduceToNat, Int.reduceNatCast, reduceCtorEq, eq_self, withinP, h0, hit (by simp [h1, h2])]
        · simp (implicitDefEqProofs := false) only [↓reduceIte, go_sem, oread, owrite, Nat.reduceAdd, Nat.reduceSub, Nat.reduceMul, Nat.reduceLT, Nat.reduceLeDiff, Nat.reduceEqDiff, Nat.reduceBEq, Int.reduceLE, Int.reduceLT, Int.reduceEq, Int.reduceNe, Int.reduceAdd, Int.reduceSub, Int.reduceMul, Int.reduceNeg, Int.reduceToNat, Int.reduceNatCast, reduceCtorEq, eq_self, t0, t3, t5, eq_true h0, hx, encS, h1, h2]
          refine Rnd.same ⟨rfl, hpp (by simp [h2]), ?_⟩
          simp (implicitDefEqProofs := false) only [↓reduceIte, go_sem, oread, owrite, Nat.reduceAdd, Nat.reduceSub, Nat.reduceMul, Nat.reduceLT, Nat.reduceLeDiff, Nat.reduceEqDiff, Nat.reduceBEq, Int.reduceLE, Int.reduceLT, Int.reduceEq, Int.reduceNe, Int.reduceAdd, Int.reduceSub, Int.reduceMul, Int.reduceNeg, Int.reduceToNat, Int.reduceNatCast, reduceCtorEq, eq_self, t0, t3, hw]
      · simp (implicitDefEqProofs := false) only [↓reduceIte, go_sem, oread, owrite, Nat.reduceAdd, Nat.reduceSub, Nat.reduceMul, Nat.reduceLT, Nat.reduceLeDiff, Nat.reduceEqDiff, Nat.reduceBEq, Int.reduceLE, Int.reduceLT, Int.reduceEq, Int.reduceNe, Int.reduceAdd, Int.reduceSub, Int.reduceMul, Int.reduceNeg, Int.reduceToNat, Int.reduceNatCast, reduceCtorEq, eq_self, t0, t3, t5, eq_true h0, hx, encS, h1]
        refine Rnd.same ⟨rfl, hpp (by simp [h1]), ?_⟩
        simp (implicitDefEqProofs := false) only [↓reduceIte, go_sem, oread, owrite, Nat.reduceAdd, Nat.reduceSub, Nat.reduceMul, Nat.reduceLT, Nat.reduceLeDiff, Nat.reduceEqDiff, Nat.reduceBEq, Int.reduceLE, Int.reduceLT, Int.reduceEq, Int.reduceNe, Int.reduceAdd, Int.reduceSub, Int.reduceMul, Int.reduceNeg, Int.reduceToNat, Int.reduceNatCast, reduceCtorEq, eq_self, t0, t3, hw]
    · rintro s H' ⟨rfl, hp, t0, t3, t5⟩
      simp (implicitDefEqProofs := false) only [↓reduceIte, go_sem, oread, owrite, Nat.reduceAdd, Nat.reduceSub, Nat.reduceMul, Nat.reduceLT, Nat.reduceLeDiff, Nat.reduceEqDiff, Nat.reduceBEq, Int.reduceLE, Int.reduceLT, Int.reduceEq, Int.reduceNe, Int.reduceAdd, Int.reduceSub, Int.reduceMul, Int.reduceNeg, Int.reduceToNat, Int.reduceNatCast, reduceCtorEq, eq_self, t0, t5]
      refine AEnd.ret ?_
      simp (implicitDefEqProofs := false) only [↓reduceIte, go_sem, oread, owrite, Nat.reduceAdd, Nat.reduceSub, Nat.reduceMul, Nat.reduceLT, Nat.reduceLeDiff, Nat.reduceEqDiff, Nat.reduceBEq, Int.reduceLE, Int.reduceLT, Int.reduceEq, Int.reduceNe, Int.reduceAdd, Int.reduceSub, Int.reduceMul, Int.reduceNeg, Int.reduceToNat, Int.reduceNatCast, reduceCtorEq, eq_self, withinP, h0, any_none (p := fun s : Span => decide (s.1 ≤ v.i) && decide (v.i ≤ s.2)) (l := spans) fun i hi => hp i hi hi]
  · refine awp_for3 (fun k s H' => H' = H ++ [.box 26 3 0 1 [iA v.kind, iA v.i, sA v.s]] ∧ s 0 = .d (.list n1 (spans.map encS)) ∧ s 3 = .ptr H.length 0 0 0 ∧ s 5 = iA k) spans.length hl (Weak.refl _ _) ?_ ?_ ?_
    · simp (implicitDefEqProofs := false) only [↓reduceIte, go_sem, oread, owrite, Nat.reduceAdd, Nat.reduceSub, Nat.reduceMul, Nat.reduceLT, Nat.reduceLeDiff, Nat.reduceEqDiff, Nat.reduceBEq, Int.reduceLE, Int.reduceLT, Int.reduceEq, Int.reduceNe, Int.reduceAdd, Int.reduceSub, Int.reduceMul, Int.reduceNeg, Int.reduceToNat, Int.reduceNatCast, reduceCtorEq, eq_self]
    · rintro k s H' hk hw ⟨rfl, t0, t3, t5⟩
      simp (implicitDefEqProofs := false) only [↓reduceIte, go_sem, oread, owrite, Nat.reduceAdd, Nat.reduceSub, Nat.reduceMul, Nat.reduceLT, Nat.reduceLeDiff, Nat.reduceEqDiff, Nat.reduceBEq, Int.reduceLE, Int.reduceLT, Int.reduceEq, Int.reduceNe, Int.reduceAdd, Int.reduceSub, Int.reduceMul, Int.reduceNeg, Int.reduceToNat, Int.reduceNatCast, reduceCtorEq, eq_self, t0, t3, t5, hk]
      refine awp_draw K.mixed (by kernel_rfl) ?_
      simp (implicitDefEqProofs := false) only [↓reduceIte, go_sem, oread, owrite, Nat.reduceAdd, Nat.reduceSub, Nat.reduceMul, Nat.reduceLT, Nat.reduceLeDiff, Nat.reduceEqDiff, Nat.reduceBEq, Int.reduceLE, Int.reduceLT, Int.reduceEq, Int.reduceNe, Int.reduceAdd, Int.reduceSub, Int.reduceMul, Int.reduceNeg, Int.reduceToNat, Int.reduceNatCast, reduceCtorEq, eq_self, t0, t3, t5, h0]
      refine Rnd.same ⟨rfl, ?_⟩
      simp (implicitDefEqProofs := false) only [↓reduceIte, go_sem, oread, owrite, Nat.reduceAdd, Nat.reduceSub, Nat.reduceMul, Nat.reduceLT, Nat.reduceLeDiff, Nat.reduceEqDiff, Nat.reduceBEq, Int.reduceLE, Int.reduceLT, Int.reduceEq, Int.reduceNe, Int.reduceAdd, Int.reduceSub, Int.reduceMul, Int.reduceNeg, Int.reduceToNat, Int.reduceNatCast, reduceCtorEq, eq_self, t0, t3, hw]
    · rintro s H' ⟨rfl, t0, t3, t5⟩
      simp (implicitDefEqProofs := false) only [↓reduceIte, go_sem, oread, owrite, Nat.reduceAdd, Nat.reduceSub, Nat.reduceMul, Nat.reduceLT, Nat.reduceLeDiff, Nat.reduceEqDiff, Nat.reduceBEq, Int.reduceLE, Int.reduceLT, Int.reduceEq, Int.reduceNe, Int.reduceAdd, Int.reduceSub, Int.reduceMul, Int.reduceNeg, Int.reduceToNat, Int.reduceNatCast, reduceCtorEq, eq_self, t0, t5]
      refine AEnd.ret ?_
      simp (implicitDefEqProofs := false) only [↓reduceIte, go_sem, oread, owrite, Nat.reduceAdd, Nat.reduceSub, Nat.reduceMul, Nat.reduceLT, Nat.reduceLeDiff, Nat.reduceEqDiff, Nat.reduceBEq, Int.reduceLE, Int.reduceLT, Int.reduceEq, Int.reduceNe, Int.reduceAdd, Int.reduceSub, Int.reduceMul, Int.reduceNeg, Int.reduceToNat, Int.reduceNatCast, reduceCtorEq, eq_self, withinP, h0]
end Go.Proofs.Ytfmmemboakdeiaa
namespace Go.Proofs.Ytfmmemboakdeiaa
open Go.Proofs.YtfmmemboakdeiaaAw Go.RowKit
set_option linter.unusedVariables false
def I64 (n : Int) : Prop := -9223372036854775808 ≤ n ∧ n ≤ 9223372036854775807
theorem I64.of {n : Int} (h : (Lit.int .i64 n).wf = true) : I64 n := by
  have h : IntKind.i64.min ≤ n ∧ n ≤ IntKind.i64.max := by simpa [Lit.wf] using h
  have h0 : IntKind.i64.min = -9223372036854775808 := by decide
  have h1 : IntKind.i64.max = 9223372036854775807 := by decide
  exact ⟨by omega, by omega⟩
theorem FitsL.nil_inv {xs : List D} (h : FitsL [] xs) : xs = [] := by cases h; rfl
theorem FitsL.cons_inv {s : Sh} {ss : List Sh} {xs : List D} (h : FitsL (s :: ss) xs) : ∃ x xs', xs = x :: xs' ∧ Fits s x ∧ FitsL ss xs' := by cases h with | cons h t => exact ⟨_, _, rfl, h, t⟩
theorem Fits.int_inv {k : IntKind} {d : D} (h : Fits (.int k) d) : ∃ n, d = .v (.int k n) ∧ (Lit.int k n).wf = true := by cases h with | int k n h => exact ⟨n, rfl, h⟩
theorem Fits.i64_inv {d : D} (h : Fits (.int .i64) d) : ∃ n, d = .v (.int .i64 n) ∧ I64 n := by obtain ⟨n, rfl, g⟩ := Fits.int_inv h; exact ⟨n, rfl, .of g⟩
theorem Fits.bool_inv {d : D} (h : Fits .bool d) : ∃ b, d = .v (.bool b) := by cases h with | bool b => exact ⟨b, rfl⟩
theorem Fits.str_inv {d : D} (h : Fits .str d) : ∃ s, d = .v (.string s) ∧ s.size ≤ 140737488351232 := by cases h with | str s h => exact ⟨s, rfl, h⟩
theorem Fits.slice_inv {b : Nat} {es : List Sh} {d : D} (h : Fits (.slice b es) d) : ∃ l, d = .list false l ∧ l.length * b ≤ 140737488351232 ∧ ∀ e ∈ l, FitsL es e := by cases h with | slice b es l h1 h2 h => exact ⟨l, rfl, h1, h⟩
theorem map_inv {α : Type} {enc : α → List D} {p : α → Prop} : ∀ {l : List (List D)}, (∀ e ∈ l, ∃ a, e = enc a ∧ p a) → ∃ la : List α, l = la.map enc ∧ ∀ a ∈ la, p a
  | [], _ => ⟨[], rfl, fun a h => by simp at h⟩
  | e :: l, h => by
    obtain ⟨a, rfl, ha⟩ := h e (List.mem_cons_self ..)
    obtain ⟨la, rfl, hl⟩ := map_inv (l := l) fun e he => h e (by simp [he])
    exact ⟨a :: la, rfl, fun b hb => by rcases List.mem_cons.1 hb with rfl | hb; exact ha; exact hl b hb⟩
structure Val.Ok (v : Val) : Prop where
  kind : I64 v.kind
  i : I64 v.i
  s : v.s.size ≤ 140737488351232
structure Atom.Ok (a : Atom) : Prop where
  col : I64 a.col
  op : I64 a.op
  val : a.val.Ok
def shVal : List Sh := [.int .i64, .int .i64, .str]
def shAtom : List Sh := [.int .i64, .int .i64, .int .i64, .int .i64, .str]
theorem val_inv {ds : List D} (h : FitsL shVal ds) : ∃ v : Val, ds = v.enc ∧ v.Ok := by
  obtain ⟨x, xs, rfl, hx, h⟩ := FitsL.cons_inv h
  obtain ⟨y, xs, rfl, hy, h⟩ := FitsL.cons_inv h
  obtain ⟨z, xs, rfl, hz, h⟩ := FitsL.cons_inv h
  cases FitsL.nil_inv h
  obtain ⟨k, rfl, hk⟩ := Fits.i64_inv hx
  obtain ⟨i, rfl, hi⟩ := Fits.i64_inv hy
  obtain ⟨s, rfl, hs⟩ := Fits.str_inv hz
  exact ⟨⟨k, i, s⟩, rfl, hk, hi, hs⟩
theorem atom_inv {ds : List D} (h : FitsL shAtom ds) : ∃ a : Atom, ds = a.enc ∧ a.Ok := by
  obtain ⟨c, xs, rfl, hc, h⟩ := FitsL.cons_inv h
  obtain ⟨o, xs, rfl, ho, h⟩ := FitsL.cons_inv h
  obtain ⟨v, rfl, hv⟩ := val_inv h
  obtain ⟨k, rfl, hk⟩ := Fits.i64_inv hc
  obtain ⟨i, rfl, hi⟩ := Fits.i64_inv ho
  exact ⟨⟨k, i, v⟩, rfl, hk, hi, hv⟩
theorem ints_inv {b : Nat} {d : D} (h : Fits (.slice b [.int .i64]) d) : ∃ l : List Int, d = .list false (ints l) ∧ l.length * b ≤ 140737488351232 ∧ ∀ n ∈ l, I64 n := by
  obtain ⟨l, rfl, h1, h2⟩ := Fits.slice_inv h
  obtain ⟨la, rfl, h3⟩ := map_inv (enc := fun n : Int => [.v (.int .i64 n)]) (p := I64) fun e he => by
    obtain ⟨x, xs, rfl, hx, h⟩ := FitsL.cons_inv (h2 e he)
    cases FitsL.nil_inv h
    obtain ⟨n, rfl, hn⟩ := Fits.i64_inv hx
    exact ⟨n, rfl, hn⟩
  exact ⟨la, rfl, by simpa using h1, h3⟩
theorem vals_inv {b : Nat} {d : D} (h : Fits (.slice b shVal) d) : ∃ l : List Val, d = .list false (l.map Val.enc) ∧ l.length * b ≤ 140737488351232 ∧ ∀ v ∈ l, v.Ok := by
  obtain ⟨l, rfl, h1, h2⟩ := Fits.slice_inv h
  obtain ⟨la, rfl, h3⟩ := map_inv (enc := Val.enc) (p := Val.Ok) fun e he => val_inv (h2 e he)
  exact ⟨la, rfl, by simpa using h1, h3⟩
theorem atoms_inv {b : Nat} {d : D} (h : Fits (.slice b shAtom) d) : ∃ l : List Atom, d = .list false (l.map Atom.enc) ∧ l.length * b ≤ 140737488351232 ∧ ∀ v ∈ l, v.Ok := by
  obtain ⟨l, rfl, h1, h2⟩ := Fits.slice_inv h
  obtain ⟨la, rfl, h3⟩ := map_inv (enc := Atom.enc) (p := Atom.Ok) fun e he => atom_inv (h2 e he)
  exact ⟨la, rfl, by simpa using h1, h3⟩
theorem arg_one {P : Program} {t : TypeId} {x : AV} {sh : Sh} (h : ArgOk P t x) (hg : agB P t = some false) (hs : shOf P 9 t = some [sh]) : ∃ d, x = .d d ∧ Fits sh d := by
  rcases h with ⟨_, sh', d, hs', hf, rfl⟩ | ⟨hg', _⟩
  · rw [hs] at hs'; cases hs'; exact ⟨d, rfl, hf⟩
  · rw [hg] at hg'; cases hg'
theorem arg_agg {P : Program} {t : TypeId} {x : AV} {shs : List Sh} (h : ArgOk P t x) (hg : agB P t = some true) (hs : shOf P 9 t = some shs) : ∃ ds : List D, x = .agg (ds.map .d) ∧ FitsL shs ds := by
  rcases h with ⟨hg', _⟩ | ⟨_, shs', ds, hs', hf, rfl⟩
  · rw [hg] at hg'; cases hg'
  · rw [hs] at hs'; cases hs'; exact ⟨ds, rfl, hf⟩
end Go.Proofs.Ytfmmemboakdeiaa
namespace Go.Proofs.Ytfmmemboakdeiaa
open Go.Proofs.YtfmmemboakdeiaaAw Go.RowKit
set_option linter.unusedVariables false
set_option linter.unusedSimpArgs false
/-- The last span is made longer. -/
def longer (L : List Span) (n : Int) : List Span := L.set (L.length - 1) ((L[L.length - 1]?.getD (0, 0)).1, n)
def joins (m n : Int) : Bool := decide (m < n) && decide (n - 1 = m)
def stepS (L : List Span) (prev : Option Val) (n : Int) : List Span := match prev with
  | some m => if joins m.i n then longer L n else L ++ [(n, n)]
  | none => L ++ [(n, n)]
def spansK (keys : List Val) : Nat → List Span
  | 0 => []
  | k + 1 => stepS (spansK keys k) (if k = 0 then none else keys[k - 1]?) ((keys[k]?.map (·.i)).getD 0)
theorem longer_len (L : List Span) (n : Int) : (longer L n).length = L.length := by simp [longer]
theorem spansK_le (keys : List Val) : ∀ k, (spansK keys k).length ≤ k
  | 0 => by simp [spansK]
  | k + 1 => by
    have := spansK_le keys k
    simp only [spansK, stepS]
    split
    · split
      · rw [longer_len]; omega
      · simp; omega
    · simp; omega
theorem spansK_pos (keys : List Val) : ∀ k, 0 < k → 0 < (spansK keys k).length
  | 0, h => by omega
  | k + 1, _ => by
    simp only [spansK, stepS]
    split
    · rename_i m hm
      split
      · rw [longer_len]
        refine spansK_pos keys k ?_
        by_cases h : k = 0
        · simp [h] at hm
        · omega
      · simp
    · simp
theorem spansK_succ {keys : List Val} {k : Nat} {v : Val} (h : keys[k]? = some v) : spansK keys (k + 1) = stepS (spansK keys k) (if k = 0 then none else keys[k - 1]?) v.i := by simp [spansK, h]
def allNum (keys : List Val) : Bool := keys.all fun k => decide (k.kind = 1)
def spansR (keys : List Val) : AV := if allNum keys then .tup [.d (.list false ((spansK keys keys.length).map encS)), bA true] else .tup [.d (.v (.slice none 0 0)), bA false]
theorem encS_set (L : List Span) (i : Nat) (s : Span) : (L.set i s).map encS = (L.map encS).set i (encS s) := List.map_set ..
theorem allNum_false {keys : List Val} {k : Nat} (hk : k < keys.length) (h : ¬ (keys[k]).kind = 1) : allNum keys = false := by
  unfold allNum
  rw [List.all_eq_false]
  exact ⟨keys[k], List.getElem_mem hk, by simp [h]⟩
theorem allNum_true {keys : List Val} (h : ∀ i (hi : i < keys.length), (keys[i]).kind = 1) : allNum keys = true := by
  unfold allNum
  rw [List.all_eq_true]
  intro x hx
  obtain ⟨i, hi, rfl⟩ := List.mem_iff_getElem.1 hx
  simp [h i hi]
theorem joins_wrap {m n : Int} (hm : I64 m) (hn : I64 n) (h : m < n) : IntKind.i64.wrap (n - 1) = n - 1 := by
  obtain ⟨a, b⟩ := hm
  obtain ⟨c, d⟩ := hn
  exact wrap64_in _ (by omega) (by omega)
set_option maxRecDepth 10000 in
set_option maxHeartbeats 2000000 in
theorem spans_does (keys : List Val) (n1 : Bool) (H : AHeap) (hl : keys.length ≤ 1000000000000) (hok : ∀ k ∈ keys, I64 k.i) : Does Try.prog 11 [.d (.list n1 (keys.map Val.enc))] H (.ok (spansR keys)) H := by
  refine Does.of_awp (hint := (fun _ => false)) Try.func11 (by kernel_rfl) rfl [2, 3] (by kernel_rfl) (by decide) (by simp [Try.ntmps11]) ?_
  rw [Try.ntmps11]
  simp (implicitDefEqProofs := false) only [↓reduceIte, go_sem, oread, owrite, Nat.reduceAdd, Nat.reduceSub, Nat.reduceMul, Nat.reduceLT, Nat.reduceLeDiff, Nat.reduceEqDiff, Nat.reduceBEq, Int.reduceLE, Int.reduceLT, Int.reduceEq, Int.reduceNe, Int.reduceAdd, Int.reduceSub, Int.reduceMul, Int.reduceNeg, Int.reduceToNat, Int.reduceNatCast, reduceCtorEq, eq_self]
  refine awp_for (fun k s H' => ∃ ver, H' = H ++ [.arr 33 2 ver ((spansK keys k).map encS)] ∧ (∀ i (hi : i < k) (hl : i < keys.length), (keys[i]).kind = 1) ∧ s 0 = .d (.list n1 (keys.map Val.enc)) ∧ s 4 = .sl H.length ver 0 (spansK keys k).length ∧ s 7 = .d (.list n1 (keys.map Val.enc)) ∧ s 8 = iA keys.length ∧ s 9 = iA k) keys.length (by omega)
    (Weak.virt1 _ _ 4 33 2 (by decide) (by simp (implicitDefEqProofs := false) only [↓reduceIte, go_sem, oread, owrite, Nat.reduceAdd, Nat.reduceSub, Nat.reduceMul, Nat.reduceLT, Nat.reduceLeDiff, Nat.reduceEqDiff, Nat.reduceBEq, Int.reduceLE, Int.reduceLT, Int.reduceEq, Int.reduceNe, Int.reduceAdd, Int.reduceSub, Int.reduceMul, Int.reduceNeg, Int.reduceToNat, Int.reduceNatCast, reduceCtorEq, eq_self]) _) ?_ ?_ ?_
  · refine ⟨0, rfl, fun i hi => by omega, ?_⟩
    simp (implicitDefEqProofs := false) only [↓reduceIte, go_sem, oread, owrite, Nat.reduceAdd, Nat.reduceSub, Nat.reduceMul, Nat.reduceLT, Nat.reduceLeDiff, Nat.reduceEqDiff, Nat.reduceBEq, Int.reduceLE, Int.reduceLT, Int.reduceEq, Int.reduceNe, Int.reduceAdd, Int.reduceSub, Int.reduceMul, Int.reduceNeg, Int.reduceToNat, Int.reduceNatCast, reduceCtorEq, eq_self, show (spansK keys 0) = [] from rfl, List.length_nil]
  · rintro k s H' hk hw ⟨ver, rfl, hp, t0, t4, t7, t8, t9⟩
    have hx := List.getElem?_eq_getElem hk
    have hle := spansK_le keys k
    have hpos := spansK_pos keys k
    have hsucc := spansK_succ hx
    have hbad := allNum_false hk
    have hi1 := hok keys[k] (List.getElem_mem hk)
    have hpp : (keys[k]).kind = 1 → ∀ i (hi : i < k + 1) (hl : i < keys.length), (keys[i]).kind = 1 := fun h0 i hi hl' => by
      rcases Nat.lt_or_ge i k with h | h
      · exact hp i h hl'
      · obtain rfl : i = k := by omega
        exact h0
    generalize keys[k] = x at hx hsucc hbad hi1 hpp
    have hL : ∀ L : List Span, spansK keys k = L → True := fun _ _ => trivial
    generalize hLe : spansK keys k = L at hle hpos hsucc t4 ⊢
    simp (implicitDefEqProofs := false) only [↓reduceIte, go_sem, oread, owrite, Nat.reduceAdd, Nat.reduceSub, Nat.reduceMul, Nat.reduceLT, Nat.reduceLeDiff, Nat.reduceEqDiff, Nat.reduceBEq, Int.reduceLE, Int.reduceLT, Int.reduceEq, Int.reduceNe, Int.reduceAdd, Int.reduceSub, Int.reduceMul, Int.reduceNeg, Int.reduceToNat, Int.reduceNatCast, reduceCtorEq, eq_self, t0, t4, t7, t8, t9, hk, hx, Val.enc]
    by_cases h1 : x.kind = 1
    · simp (implicitDefEqProofs := false) only [↓reduceIte, go_sem, oread, owrite, Nat.reduceAdd, Nat.reduceSub, Nat.reduceMul, Nat.reduceLT, Nat.reduceLeDiff, Nat.reduceEqDiff, Nat.reduceBEq, Int.reduceLE, Int.reduceLT, Int.reduceEq, Int.reduceNe, Int.reduceAdd, Int.reduceSub, Int.reduceMul, Int.reduceNeg, Int.reduceToNat, Int.reduceNatCast, reduceCtorEq, eq_self, h1]
      by_cases hk0 : k = 0
      · have e2 : (0 < k) = False := eq_false (by omega)
        rw [if_pos hk0] at hsucc
        refine awp_draw K.mixed (by kernel_rfl) ?_
        have e2i : ((0 : Int) < (k : Int)) = False := eq_false (by omega)
        simp (implicitDefEqProofs := false) only [↓reduceIte, go_sem, oread, owrite, Nat.reduceAdd, Nat.reduceSub, Nat.reduceMul, Nat.reduceLT, Nat.reduceLeDiff, Nat.reduceEqDiff, Nat.reduceBEq, Int.reduceLE, Int.reduceLT, Int.reduceEq, Int.reduceNe, Int.reduceAdd, Int.reduceSub, Int.reduceMul, Int.reduceNeg, Int.reduceToNat, Int.reduceNatCast, reduceCtorEq, eq_self, t0, t4, t9, e2, e2i]
        refine ⟨by omega, by omega, ?_⟩
        refine Rnd.cut [.arr 33 2 (ver + 1) ((spansK keys (k + 1)).map encS)] [.box 26 3 0 1 [iA 1, iA x.i, sA x.s]] 1 rfl ?_ (by simp (implicitDefEqProofs := false) only [↓reduceIte, go_sem, oread, owrite, Nat.reduceAdd, Nat.reduceSub, Nat.reduceMul, Nat.reduceLT, Nat.reduceLeDiff, Nat.reduceEqDiff, Nat.reduceBEq, Int.reduceLE, Int.reduceLT, Int.reduceEq, Int.reduceNe, Int.reduceAdd, Int.reduceSub, Int.reduceMul, Int.reduceNeg, Int.reduceToNat, Int.reduceNatCast, reduceCtorEq, eq_self]) ?_
        · rw [hsucc]
          simp (implicitDefEqProofs := false) only [↓reduceIte, go_sem, oread, owrite, Nat.reduceAdd, Nat.reduceSub, Nat.reduceMul, Nat.reduceLT, Nat.reduceLeDiff, Nat.reduceEqDiff, Nat.reduceBEq, Int.reduceLE, Int.reduceLT, Int.reduceEq, Int.reduceNe, Int.reduceAdd, Int.reduceSub, Int.reduceMul, Int.reduceNeg, Int.reduceToNat, Int.reduceNatCast, reduceCtorEq, eq_self, stepS, List.map_append, encS]
        · refine ⟨ver + 1, rfl, hpp h1, ?_⟩
          simp (implicitDefEqProofs := false) only [↓reduceIte, go_sem, oread, owrite, Nat.reduceAdd, Nat.reduceSub, Nat.reduceMul, Nat.reduceLT, Nat.reduceLeDiff, Nat.reduceEqDiff, Nat.reduceBEq, Int.reduceLE, Int.reduceLT, Int.reduceEq, Int.reduceNe, Int.reduceAdd, Int.reduceSub, Int.reduceMul, Int.reduceNeg, Int.reduceToNat, Int.reduceNatCast, reduceCtorEq, eq_self, t0, t7, t8, hw, hsucc, stepS, List.length_append]
      · obtain ⟨m, hm⟩ : ∃ m, keys[k - 1]? = some m := ⟨_, List.getElem?_eq_getElem (show k - 1 < keys.length by omega)⟩
        have hm1 : I64 m.i := hok m (List.mem_of_getElem? hm)
        have e1 : IntKind.i64.wrap ((k : Int) - 1) = ((k - 1 : Nat) : Int) := by rw [wrap64_in _ (by omega) (by omega)]; omega
        have e2 : (0 : Int) < (k : Int) := by omega
        have e3 : 0 < k := by omega
        rw [if_neg hk0, hm] at hsucc
        by_cases hlt : m.i < x.i
        · have e4 := joins_wrap hm1 hi1 hlt
          by_cases heq : x.i - 1 = m.i
          · have hj : joins m.i x.i = true := by simp [joins, hlt, heq]
            refine awp_draw K.mixed (by kernel_rfl) ?_
            simp (implicitDefEqProofs := false) only [↓reduceIte, go_sem, oread, owrite, Nat.reduceAdd, Nat.reduceSub, Nat.reduceMul, Nat.reduceLT, Nat.reduceLeDiff, Nat.reduceEqDiff, Nat.reduceBEq, Int.reduceLE, Int.reduceLT, Int.reduceEq, Int.reduceNe, Int.reduceAdd, Int.reduceSub, Int.reduceMul, Int.reduceNeg, Int.reduceToNat, Int.reduceNatCast, reduceCtorEq, eq_self, t0, t4, t9, e1, e2, e3, hm, hlt, e4, eq_true heq, Val.enc]
            have hLp := hpos e3
            obtain ⟨w, hw1⟩ : ∃ w, L[L.length - 1]? = some w := ⟨_, List.getElem?_eq_getElem (by omega)⟩
            have e5 : IntKind.i64.wrap ((L.length : Int) - 1) = ((L.length - 1 : Nat) : Int) := by rw [wrap64_in _ (by omega) (by omega)]; omega
            have e6 : L.length - 1 < L.length := by omega
            refine awp_drawK 7 K.mixed (by kernel_rfl) (by kernel_rfl) ?_
            simp (implicitDefEqProofs := false) only [↓reduceIte, go_sem, oread, owrite, Nat.reduceAdd, Nat.reduceSub, Nat.reduceMul, Nat.reduceLT, Nat.reduceLeDiff, Nat.reduceEqDiff, Nat.reduceBEq, Int.reduceLE, Int.reduceLT, Int.reduceEq, Int.reduceNe, Int.reduceAdd, Int.reduceSub, Int.reduceMul, Int.reduceNeg, Int.reduceToNat, Int.reduceNatCast, reduceCtorEq, eq_self, t4, t9, e5, e6, hw1, encS]
            have hset : (longer L x.i).map encS = (L.map encS).set (L.length - 1) (encS (w.1, x.i)) := by
              unfold longer
              rw [hw1, encS_set]
              rfl
            refine Rnd.cut [.arr 33 2 ver ((spansK keys (k + 1)).map encS)] [.box 26 3 0 1 [iA 1, iA x.i, sA x.s]] 1 rfl ?_ (by simp (implicitDefEqProofs := false) only [↓reduceIte, go_sem, oread, owrite, Nat.reduceAdd, Nat.reduceSub, Nat.reduceMul, Nat.reduceLT, Nat.reduceLeDiff, Nat.reduceEqDiff, Nat.reduceBEq, Int.reduceLE, Int.reduceLT, Int.reduceEq, Int.reduceNe, Int.reduceAdd, Int.reduceSub, Int.reduceMul, Int.reduceNeg, Int.reduceToNat, Int.reduceNatCast, reduceCtorEq, eq_self]) ?_
            · rw [hsucc]
              simp (implicitDefEqProofs := false) only [↓reduceIte, go_sem, oread, owrite, Nat.reduceAdd, Nat.reduceSub, Nat.reduceMul, Nat.reduceLT, Nat.reduceLeDiff, Nat.reduceEqDiff, Nat.reduceBEq, Int.reduceLE, Int.reduceLT, Int.reduceEq, Int.reduceNe, Int.reduceAdd, Int.reduceSub, Int.reduceMul, Int.reduceNeg, Int.reduceToNat, Int.reduceNatCast, reduceCtorEq, eq_self, stepS, hj, hset, encS]
            · refine ⟨ver, rfl, hpp h1, ?_⟩
              simp (implicitDefEqProofs := false) only [↓reduceIte, go_sem, oread, owrite, Nat.reduceAdd, Nat.reduceSub, Nat.reduceMul, Nat.reduceLT, Nat.reduceLeDiff, Nat.reduceEqDiff, Nat.reduceBEq, Int.reduceLE, Int.reduceLT, Int.reduceEq, Int.reduceNe, Int.reduceAdd, Int.reduceSub, Int.reduceMul, Int.reduceNeg, Int.reduceToNat, Int.reduceNatCast, reduceCtorEq, eq_self, t0, t4, t7, t8, hw, hsucc, stepS, longer_len, hj]
          · have hj : joins m.i x.i = false := by simp [joins, hlt, heq]
            refine awp_draw K.mixed (by kernel_rfl) ?_
            simp (implicitDefEqProofs := false) only [↓reduceIte, go_sem, oread, owrite, Nat.reduceAdd, Nat.reduceSub, Nat.reduceMul, Nat.reduceLT, Nat.reduceLeDiff, Nat.reduceEqDiff, Nat.reduceBEq, Int.reduceLE, Int.reduceLT, Int.reduceEq, Int.reduceNe, Int.reduceAdd, Int.reduceSub, Int.reduceMul, Int.reduceNeg, Int.reduceToNat, Int.reduceNatCast, reduceCtorEq, eq_self, t0, t4, t9, e1, e2, e3, hm, hlt, e4, heq, Val.enc]
            refine ⟨by omega, by omega, ?_⟩
            refine Rnd.cut [.arr 33 2 (ver + 1) ((spansK keys (k + 1)).map encS)] [.box 26 3 0 1 [iA 1, iA x.i, sA x.s]] 1 rfl ?_ (by simp (implicitDefEqProofs := false) only [↓reduceIte, go_sem, oread, owrite, Nat.reduceAdd, Nat.reduceSub, Nat.reduceMul, Nat.reduceLT, Nat.reduceLeDiff, Nat.reduceEqDiff, Nat.reduceBEq, Int.reduceLE, Int.reduceLT, Int.reduceEq, Int.reduceNe, Int.reduceAdd, Int.reduceSub, Int.reduceMul, Int.reduceNeg, Int.reduceToNat, Int.reduceNatCast, reduceCtorEq, eq_self]) ?_
            · rw [hsucc]
              simp (implicitDefEqProofs := false) only [↓reduceIte, go_sem, oread, owrite, Nat.reduceAdd, Nat.reduceSub, Nat.reduceMul, Nat.reduceLT, Nat.reduceLeDiff, Nat.reduceEqDiff, Nat.reduceBEq, Int.reduceLE, Int.reduceLT, Int.reduceEq, Int.reduceNe, Int.reduceAdd, Int.reduceSub, Int.reduceMul, Int.reduceNeg, Int.reduceToNat, Int.reduceNatCast, reduceCtorEq, eq_self, stepS, List.map_append, encS, hj, Bool.false_eq_true]
            · refine ⟨ver + 1, rfl, hpp h1, ?_⟩
              simp (implicitDefEqProofs := false) only [↓reduceIte, go_sem, oread, owrite, Nat.reduceAdd, Nat.reduceSub, Nat.reduceMul, Nat.reduceLT, Nat.reduceLeDiff, Nat.reduceEqDiff, Nat.reduceBEq, Int.reduceLE, Int.reduceLT, Int.reduceEq, Int.reduceNe, Int.reduceAdd, Int.reduceSub, Int.reduceMul, Int.reduceNeg, Int.reduceToNat, Int.reduceNatCast, reduceCtorEq, eq_self, t0, t7, t8, hw, hsucc, stepS, List.length_append, hj, Bool.false_eq_true]
        · have hj : joins m.i x.i = false := by simp [joins, hlt]
          refine awp_draw K.mixed (by kernel_rfl) ?_
          simp (implicitDefEqProofs := false) only [↓reduceIte, go_sem, oread, owrite, Nat.reduceAdd, Nat.reduceSub, Nat.reduceMul, Nat.reduceLT, Nat.reduceLeDiff, Nat.reduceEqDiff, Nat.reduceBEq, Int.reduceLE, Int.reduceLT, Int.reduceEq, Int.reduceNe, Int.reduceAdd, Int.reduceSub, Int.reduceMul, Int.reduceNeg, Int.reduceToNat, Int.reduceNatCast, reduceCtorEq, eq_self, t0, t4, t9, e1, e2, e3, hm, hlt, Val.enc]
          refine ⟨by omega, by omega, ?_⟩
          refine Rnd.cut [.arr 33 2 (ver + 1) ((spansK keys (k + 1)).map encS)] [.box 26 3 0 1 [iA 1, iA x.i, sA x.s]] 1 rfl ?_ (by simp (implicitDefEqProofs := false) only [↓reduceIte, go_sem, oread, owrite, Nat.reduceAdd, Nat.reduceSub, Nat.reduceMul, Nat.reduceLT, Nat.reduceLeDiff, Nat.reduceEqDiff, Nat.reduceBEq, Int.reduceLE, Int.reduceLT, Int.reduceEq, Int.reduceNe, Int.reduceAdd, Int.reduceSub, Int.reduceMul, Int.reduceNeg, Int.reduceToNat, Int.reduceNatCast, reduceCtorEq, eq_self]) ?_
          · rw [hsucc]
            simp (implicitDefEqProofs := false) only [↓reduceIte, go_sem, oread, owrite, Nat.reduceAdd, Nat.reduceSub, Nat.reduceMul, Nat.reduceLT, Nat.reduceLeDiff, Nat.reduceEqDiff, Nat.reduceBEq, Int.reduceLE, Int.reduceLT, Int.reduceEq, Int.reduceNe, Int.reduceAdd, Int.reduceSub, Int.reduceMul, Int.reduceNeg, Int.reduceToNat, Int.reduceNatCast, reduceCtorEq, eq_self, stepS, List.map_append, encS, hj, Bool.false_eq_true]
          · refine ⟨ver + 1, rfl, hpp h1, ?_⟩
            simp (implicitDefEqProofs := false) only [↓reduceIte, go_sem, oread, owrite, Nat.reduceAdd, Nat.reduceSub, Nat.reduceMul, Nat.reduceLT, Nat.reduceLeDiff, Nat.reduceEqDiff, Nat.reduceBEq, Int.reduceLE, Int.reduceLT, Int.reduceEq, Int.reduceNe, Int.reduceAdd, Int.reduceSub, Int.reduceMul, Int.reduceNeg, Int.reduceToNat, Int.reduceNatCast, reduceCtorEq, eq_self, t0, t7, t8, hw, hsucc, stepS, List.length_append, hj, Bool.false_eq_true]
    · simp (implicitDefEqProofs := false) only [↓reduceIte, go_sem, oread, owrite, Nat.reduceAdd, Nat.reduceSub, Nat.reduceMul, Nat.reduceLT, Nat.reduceLeDiff, Nat.reduceEqDiff, Nat.reduceBEq, Int.reduceLE, Int.reduceLT, Int.reduceEq, Int.reduceNe, Int.reduceAdd, Int.reduceSub, Int.reduceMul, Int.reduceNeg, Int.reduceToNat, Int.reduceNatCast, reduceCtorEq, eq_self, h1]
      refine AEnd.ret ?_
      simp (implicitDefEqProofs := false) only [↓reduceIte, go_sem, oread, owrite, Nat.reduceAdd, Nat.reduceSub, Nat.reduceMul, Nat.reduceLT, Nat.reduceLeDiff, Nat.reduceEqDiff, Nat.reduceBEq, Int.reduceLE, Int.reduceLT, Int.reduceEq, Int.reduceNe, Int.reduceAdd, Int.reduceSub, Int.reduceMul, Int.reduceNeg, Int.reduceToNat, Int.reduceNatCast, reduceCtorEq, eq_self, spansR, hbad h1, Bool.false_eq_true]
  · rintro s H' ⟨ver, rfl, hp, t0, t4, t7, t8, t9⟩
    simp (implicitDefEqProofs := false) only [↓reduceIte, go_sem, oread, owrite, Nat.reduceAdd, Nat.reduceSub, Nat.reduceMul, Nat.reduceLT, Nat.reduceLeDiff, Nat.reduceEqDiff, Nat.reduceBEq, Int.reduceLE, Int.reduceLT, Int.reduceEq, Int.reduceNe, Int.reduceAdd, Int.reduceSub, Int.reduceMul, Int.reduceNeg, Int.reduceToNat, Int.reduceNatCast, reduceCtorEq, eq_self, t4, t8, t9]
    refine AEnd.ret ?_
    simp (implicitDefEqProofs := false) only [↓reduceIte, go_sem, oread, owrite, Nat.reduceAdd, Nat.reduceSub, Nat.reduceMul, Nat.reduceLT, Nat.reduceLeDiff, Nat.reduceEqDiff, Nat.reduceBEq, Int.reduceLE, Int.reduceLT, Int.reduceEq, Int.reduceNe, Int.reduceAdd, Int.reduceSub, Int.reduceMul, Int.reduceNeg, Int.reduceToNat, Int.reduceNatCast, reduceCtorEq, eq_self, spansR, allNum_true fun i hi => hp i hi hi, List.take_of_length_le]
end Go.Proofs.Ytfmmemboakdeiaa
namespace Go.Proofs.Ytfmmemboakdeiaa
open Go.Proofs.YtfmmemboakdeiaaAw Go.RowKit
set_option linter.unusedVariables false
set_option linter.unusedSimpArgs false
set_option maxRecDepth 10000 in
set_option maxHeartbeats 1000000 in
theorem rkeys_does (R : List (List Val)) (c : Int) (l : List Atom) (n1 n2 : Bool) (hR : R.length ≤ 1000000000) (hr : ∀ r ∈ R, r.length ≤ 1000000000000) (hs : ∀ r ∈ R, ∀ v ∈ r, v.s.size ≤ 9223372036854775807) (hl : l.length ≤ 1000000000000) (H : AHeap) :
    Does Try.prog 18 [.d (.list n1 (rowsD R)), iA c, .d (.list n2 (l.map Atom.enc))] H (.ok (.d (.list false ((keysP R c l).map Val.enc)))) H := by
  refine Does.of_awp (hint := (fun _ => false)) Try.func18 (by kernel_rfl) rfl [6] (by kernel_rfl) (by decide) (by simp [Try.ntmps18]) ?_
  rw [Try.ntmps18]
  simp (implicitDefEqProofs := false) only [↓reduceIte, go_sem, oread, owrite, Nat.reduceAdd, Nat.reduceSub, Nat.reduceMul, Nat.reduceLT, Nat.reduceLeDiff, Nat.reduceEqDiff, Nat.reduceBEq, Int.reduceLE, Int.reduceLT, Int.reduceEq, Int.reduceNe, Int.reduceAdd, Int.reduceSub, Int.reduceMul, Int.reduceNeg, Int.reduceToNat, Int.reduceNatCast, reduceCtorEq, eq_self]
  refine awp_for3 (fun k s H' => H' = H ++ [.arr 26 3 (keyF (R.take k) c l).length ((keyF (R.take k) c l).map Val.enc)] ∧ s 0 = .d (.list n1 (rowsD R)) ∧ s 1 = iA c ∧ s 2 = .d (.list n2 (l.map Atom.enc)) ∧ s 7 = .sl H.length (keyF (R.take k) c l).length 0 (keyF (R.take k) c l).length ∧ s 8 = iA k) R.length (by omega) (Weak.virt1 _ _ 7 26 3 (by decide) (by simp (implicitDefEqProofs := false) only [↓reduceIte, go_sem, oread, owrite, Nat.reduceAdd, Nat.reduceSub, Nat.reduceMul, Nat.reduceLT, Nat.reduceLeDiff, Nat.reduceEqDiff, Nat.reduceBEq, Int.reduceLE, Int.reduceLT, Int.reduceEq, Int.reduceNe, Int.reduceAdd, Int.reduceSub, Int.reduceMul, Int.reduceNeg, Int.reduceToNat, Int.reduceNatCast, reduceCtorEq, eq_self]) _) ?_ ?_ ?_
  · refine ⟨rfl, ?_⟩
    simp (implicitDefEqProofs := false) only [↓reduceIte, go_sem, oread, owrite, Nat.reduceAdd, Nat.reduceSub, Nat.reduceMul, Nat.reduceLT, Nat.reduceLeDiff, Nat.reduceEqDiff, Nat.reduceBEq, Int.reduceLE, Int.reduceLT, Int.reduceEq, Int.reduceNe, Int.reduceAdd, Int.reduceSub, Int.reduceMul, Int.reduceNeg, Int.reduceToNat, Int.reduceNatCast, reduceCtorEq, eq_self]
    rfl
  · rintro k s H' hk hw ⟨rfl, t0, t1, t2, t7, t8⟩
    have hx := rowsD_get R k hk
    have hF := keyF_snoc (R.take k) R[k] c l
    rw [← List.take_succ_eq_append_getElem hk] at hF
    have hFl := keyF_le (R.take k) c l
    rw [List.length_take] at hFl
    rw [hF]
    have hrl := hr _ (List.getElem_mem hk)
    have hrs := hs _ (List.getElem_mem hk)
    generalize keyF (R.take k) c l = F at *
    generalize R[k] = r at *
    have hat := fun H => at16_does r c false (by omega) H
    generalize atP r c = v at *
    simp (implicitDefEqProofs := false) only [↓reduceIte, go_sem, oread, owrite, Nat.reduceAdd, Nat.reduceSub, Nat.reduceMul, Nat.reduceLT, Nat.reduceLeDiff, Nat.reduceEqDiff, Nat.reduceBEq, Int.reduceLE, Int.reduceLT, Int.reduceEq, Int.reduceNe, Int.reduceAdd, Int.reduceSub, Int.reduceMul, Int.reduceNeg, Int.reduceToNat, Int.reduceNatCast, reduceCtorEq, eq_self, t0, t1, t8, rowsD_len, hk, hx]
    refine KCall.ok (hat _) ?_
    by_cases h0 : v.kind = 0
    · have e : (!decide (v.kind = 0) && allP l r) = false := by simp [h0]
      simp only [e, Bool.false_eq_true, if_false]
      simp (implicitDefEqProofs := false) only [↓reduceIte, go_sem, oread, owrite, Nat.reduceAdd, Nat.reduceSub, Nat.reduceMul, Nat.reduceLT, Nat.reduceLeDiff, Nat.reduceEqDiff, Nat.reduceBEq, Int.reduceLE, Int.reduceLT, Int.reduceEq, Int.reduceNe, Int.reduceAdd, Int.reduceSub, Int.reduceMul, Int.reduceNeg, Int.reduceToNat, Int.reduceNatCast, reduceCtorEq, eq_self, h0, t8]
      refine Rnd.cut [.arr 26 3 F.length (F.map Val.enc)] [.box 26 3 0 1 [iA v.kind, iA v.i, sA v.s]] 1 rfl ?_ (by simp (implicitDefEqProofs := false) only [↓reduceIte, go_sem, oread, owrite, Nat.reduceAdd, Nat.reduceSub, Nat.reduceMul, Nat.reduceLT, Nat.reduceLeDiff, Nat.reduceEqDiff, Nat.reduceBEq, Int.reduceLE, Int.reduceLT, Int.reduceEq, Int.reduceNe, Int.reduceAdd, Int.reduceSub, Int.reduceMul, Int.reduceNeg, Int.reduceToNat, Int.reduceNatCast, reduceCtorEq, eq_self]) ?_
      · simp (implicitDefEqProofs := false) only [↓reduceIte, go_sem, oread, owrite, Nat.reduceAdd, Nat.reduceSub, Nat.reduceMul, Nat.reduceLT, Nat.reduceLeDiff, Nat.reduceEqDiff, Nat.reduceBEq, Int.reduceLE, Int.reduceLT, Int.reduceEq, Int.reduceNe, Int.reduceAdd, Int.reduceSub, Int.reduceMul, Int.reduceNeg, Int.reduceToNat, Int.reduceNatCast, reduceCtorEq, eq_self, h0]
      refine ⟨rfl, ?_⟩
      simp (implicitDefEqProofs := false) only [↓reduceIte, go_sem, oread, owrite, Nat.reduceAdd, Nat.reduceSub, Nat.reduceMul, Nat.reduceLT, Nat.reduceLeDiff, Nat.reduceEqDiff, Nat.reduceBEq, Int.reduceLE, Int.reduceLT, Int.reduceEq, Int.reduceNe, Int.reduceAdd, Int.reduceSub, Int.reduceMul, Int.reduceNeg, Int.reduceToNat, Int.reduceNatCast, reduceCtorEq, eq_self, t0, t1, t2, t7, hw]
    · simp (implicitDefEqProofs := false) only [↓reduceIte, go_sem, oread, owrite, Nat.reduceAdd, Nat.reduceSub, Nat.reduceMul, Nat.reduceLT, Nat.reduceLeDiff, Nat.reduceEqDiff, Nat.reduceBEq, Int.reduceLE, Int.reduceLT, Int.reduceEq, Int.reduceNe, Int.reduceAdd, Int.reduceSub, Int.reduceMul, Int.reduceNeg, Int.reduceToNat, Int.reduceNatCast, reduceCtorEq, eq_self, h0, t0, t1, t2, t7, t8, rowsD_len, hk, hx]
      refine KCall.ok (rall_does l r n2 false _ hl hrs) ?_
      cases hA : allP l r
      · simp only [Bool.and_false, Bool.false_eq_true, if_false]
        simp (implicitDefEqProofs := false) only [↓reduceIte, go_sem, oread, owrite, Nat.reduceAdd, Nat.reduceSub, Nat.reduceMul, Nat.reduceLT, Nat.reduceLeDiff, Nat.reduceEqDiff, Nat.reduceBEq, Int.reduceLE, Int.reduceLT, Int.reduceEq, Int.reduceNe, Int.reduceAdd, Int.reduceSub, Int.reduceMul, Int.reduceNeg, Int.reduceToNat, Int.reduceNatCast, reduceCtorEq, eq_self, t8]
        refine Rnd.cut [.arr 26 3 F.length (F.map Val.enc)] [.box 26 3 0 1 [iA v.kind, iA v.i, sA v.s]] 1 rfl rfl (by simp (implicitDefEqProofs := false) only [↓reduceIte, go_sem, oread, owrite, Nat.reduceAdd, Nat.reduceSub, Nat.reduceMul, Nat.reduceLT, Nat.reduceLeDiff, Nat.reduceEqDiff, Nat.reduceBEq, Int.reduceLE, Int.reduceLT, Int.reduceEq, Int.reduceNe, Int.reduceAdd, Int.reduceSub, Int.reduceMul, Int.reduceNeg, Int.reduceToNat, Int.reduceNatCast, reduceCtorEq, eq_self]) ?_
        refine ⟨rfl, ?_⟩
        simp (implicitDefEqProofs := false) only [↓reduceIte, go_sem, oread, owrite, Nat.reduceAdd, Nat.reduceSub, Nat.reduceMul, Nat.reduceLT, Nat.reduceLeDiff, Nat.reduceEqDiff, Nat.reduceBEq, Int.reduceLE, Int.reduceLT, Int.reduceEq, Int.reduceNe, Int.reduceAdd, Int.reduceSub, Int.reduceMul, Int.reduceNeg, Int.reduceToNat, Int.reduceNatCast, reduceCtorEq, eq_self, t0, t1, t2, t7, hw]
      · have e : (!decide (v.kind = 0) && true) = true := by simp [h0]
        simp only [e, if_true]
        have q : F.map Val.enc ++ [v.enc] = (F ++ [v]).map Val.enc := by simp
        simp only [Val.enc] at q
        simp (implicitDefEqProofs := false) only [↓reduceIte, go_sem, oread, owrite, Nat.reduceAdd, Nat.reduceSub, Nat.reduceMul, Nat.reduceLT, Nat.reduceLeDiff, Nat.reduceEqDiff, Nat.reduceBEq, Int.reduceLE, Int.reduceLT, Int.reduceEq, Int.reduceNe, Int.reduceAdd, Int.reduceSub, Int.reduceMul, Int.reduceNeg, Int.reduceToNat, Int.reduceNatCast, reduceCtorEq, eq_self, t7, t8, List.length_map, q]
        refine ⟨by omega, by omega, ?_⟩
        refine Rnd.cut [.arr 26 3 (F.length + 1) ((F ++ [v]).map Val.enc)] [.box 26 3 0 1 [iA v.kind, iA v.i, sA v.s]] 1 rfl rfl (by simp (implicitDefEqProofs := false) only [↓reduceIte, go_sem, oread, owrite, Nat.reduceAdd, Nat.reduceSub, Nat.reduceMul, Nat.reduceLT, Nat.reduceLeDiff, Nat.reduceEqDiff, Nat.reduceBEq, Int.reduceLE, Int.reduceLT, Int.reduceEq, Int.reduceNe, Int.reduceAdd, Int.reduceSub, Int.reduceMul, Int.reduceNeg, Int.reduceToNat, Int.reduceNatCast, reduceCtorEq, eq_self]) ?_
        refine ⟨rfl, ?_⟩
        simp (implicitDefEqProofs := false) only [↓reduceIte, go_sem, oread, owrite, Nat.reduceAdd, Nat.reduceSub, Nat.reduceMul, Nat.reduceLT, Nat.reduceLeDiff, Nat.reduceEqDiff, Nat.reduceBEq, Int.reduceLE, Int.reduceLT, Int.reduceEq, Int.reduceNe, Int.reduceAdd, Int.reduceSub, Int.reduceMul, Int.reduceNeg, Int.reduceToNat, Int.reduceNatCast, reduceCtorEq, eq_self, t0, t1, t2, hw, List.length_append, List.length_singleton]
  · rintro s H' ⟨rfl, t0, t1, t2, t7, t8⟩
    rw [show R.take R.length = R from List.take_length] at t7 ⊢
    have hFl := keyF_le R c l
    have hFs : ∀ v ∈ keyF R c l, v.s.size ≤ 9223372036854775807 := fun v hv => by
      unfold keyF at hv
      obtain ⟨r, hr1, rfl⟩ := List.mem_map.1 hv
      obtain ⟨hr2, h3⟩ := List.mem_filter.1 hr1
      refine hs r hr2 _ ?_
      unfold atP at h3 ⊢
      split
      · rename_i h; rw [if_pos h] at h3; simp at h3
      · rename_i h
        rw [if_neg h] at h3
        rcases Nat.lt_or_ge c.toNat r.length with h2 | h2
        · rw [List.getD_eq_getElem?_getD, List.getElem?_eq_getElem h2]; exact List.getElem_mem h2
        · rw [List.getD_eq_getElem?_getD, List.getElem?_eq_none h2] at h3; simp at h3
    have hk : keysP R c l = wordsP cmpV (keyF R c l) := rfl
    have hwd := fun H => words09_does (keyF R c l) false (by omega) hFs H
    rw [← hk] at hwd
    generalize keysP R c l = K2 at *
    generalize keyF R c l = F at *
    have htk : ((F.map Val.enc).drop 0).take F.length = F.map Val.enc := by rw [List.drop_zero]; exact take_len2 _ _ (by simp)
    simp (implicitDefEqProofs := false) only [↓reduceIte, go_sem, oread, owrite, Nat.reduceAdd, Nat.reduceSub, Nat.reduceMul, Nat.reduceLT, Nat.reduceLeDiff, Nat.reduceEqDiff, Nat.reduceBEq, Int.reduceLE, Int.reduceLT, Int.reduceEq, Int.reduceNe, Int.reduceAdd, Int.reduceSub, Int.reduceMul, Int.reduceNeg, Int.reduceToNat, Int.reduceNatCast, reduceCtorEq, eq_self, t0, t7, t8, rowsD_len]
    refine KCall.frz [] (e := 26) (k := 3) (ver := F.length) (es := F.map Val.enc) (by simp) (by rw [htk]; exact hwd _) ?_
    simp (implicitDefEqProofs := false) only [↓reduceIte, go_sem, oread, owrite, Nat.reduceAdd, Nat.reduceSub, Nat.reduceMul, Nat.reduceLT, Nat.reduceLeDiff, Nat.reduceEqDiff, Nat.reduceBEq, Int.reduceLE, Int.reduceLT, Int.reduceEq, Int.reduceNe, Int.reduceAdd, Int.reduceSub, Int.reduceMul, Int.reduceNeg, Int.reduceToNat, Int.reduceNatCast, reduceCtorEq, eq_self]
    refine AEnd.ret' (T := [.arr 26 3 (F.length + 1) []]) (by simp) ?_
    simp (implicitDefEqProofs := false) only [↓reduceIte, go_sem, oread, owrite, Nat.reduceAdd, Nat.reduceSub, Nat.reduceMul, Nat.reduceLT, Nat.reduceLeDiff, Nat.reduceEqDiff, Nat.reduceBEq, Int.reduceLE, Int.reduceLT, Int.reduceEq, Int.reduceNe, Int.reduceAdd, Int.reduceSub, Int.reduceMul, Int.reduceNeg, Int.reduceToNat, Int.reduceNatCast, reduceCtorEq, eq_self]
theorem spans_new {keys : List Val} {k : Nat} {v : Val} (hv : keys[k]? = some v) (h : k = 0 ∨ ∃ u, keys[k - 1]? = some u ∧ joins u.i v.i = false) : spansK keys (k + 1) = spansK keys k ++ [(v.i, v.i)] := by
  rw [spansK_succ hv]
  rcases h with h | ⟨u, hu, hj⟩
  · rw [if_pos h]; rfl
  · by_cases h0 : k = 0
    · rw [if_pos h0]; rfl
    · rw [if_neg h0, hu]
      simp [stepS, hj]
theorem spans_more {keys : List Val} {k : Nat} {u v : Val} {L : List Span} {a : Int} (hu : keys[k]? = some u) (hv : keys[k + 1]? = some v) (hj : joins u.i v.i = true) (h : spansK keys (k + 1) = L ++ [(a, u.i)]) : spansK keys (k + 1 + 1) = L ++ [(a, v.i)] := by
  rw [spansK_succ hv, if_neg (by omega), show k + 1 - 1 = k from rfl, hu, h]
  simp only [stepS, hj, if_true]
  unfold longer
  simp
theorem joins_eq {m n : Int} (hm : I64 m) (hn : I64 n) : joins m n = if m < 9223372036854775807 then decide (n = IntKind.i64.wrap (m + 1)) else false := by
  obtain ⟨a, b⟩ := hm
  obtain ⟨c, d⟩ := hn
  unfold joins
  rw [Bool.eq_iff_iff]
  by_cases h : m < 9223372036854775807
  · rw [if_pos h, wrap64_in _ (by omega) (by omega)]
    simp only [Bool.and_eq_true, decide_eq_true_eq]
    omega
  · rw [if_neg h]
    simp only [Bool.and_eq_true, decide_eq_true_eq, Bool.false_eq_true, iff_false]
    omega
set_option maxRecDepth 10000 in
set_option maxHeartbeats 4000000 in
theorem rspans_does (keys : List Val) (n1 : Bool) (hl : keys.length ≤ 1000000000000) (hok : ∀ k ∈ keys, I64 k.i) (H : AHeap) : Does Try.prog 16 [.d (.list n1 (keys.map Val.enc))] H (.ok (spansR keys)) H := by
  refine Does.of_awp (hint := (fun _ => false)) Try.func16 (by kernel_rfl) rfl [2, 3] (by kernel_rfl) (by decide) (by simp [Try.ntmps16]) ?_
  rw [Try.ntmps16]
  simp (implicitDefEqProofs := false) only [↓reduceIte, go_sem, oread, owrite, Nat.reduceAdd, Nat.reduceSub, Nat.reduceMul, Nat.reduceLT, Nat.reduceLeDiff, Nat.reduceEqDiff, Nat.reduceBEq, Int.reduceLE, Int.reduceLT, Int.reduceEq, Int.reduceNe, Int.reduceAdd, Int.reduceSub, Int.reduceMul, Int.reduceNeg, Int.reduceToNat, Int.reduceNatCast, reduceCtorEq, eq_self]
  refine awp_for3 (fun k s H' => H' = H ∧ (∀ i (hi : i < k) (hl : i < keys.length), (keys[i]).kind = 1) ∧ s 0 = .d (.list n1 (keys.map Val.enc)) ∧ s 4 = iA k) keys.length (by omega) (Weak.refl _ _) ?_ ?_ ?_
  · refine ⟨rfl, fun i hi => by omega, ?_⟩
    simp (implicitDefEqProofs := false) only [↓reduceIte, go_sem, oread, owrite, Nat.reduceAdd, Nat.reduceSub, Nat.reduceMul, Nat.reduceLT, Nat.reduceLeDiff, Nat.reduceEqDiff, Nat.reduceBEq, Int.reduceLE, Int.reduceLT, Int.reduceEq, Int.reduceNe, Int.reduceAdd, Int.reduceSub, Int.reduceMul, Int.reduceNeg, Int.reduceToNat, Int.reduceNatCast, reduceCtorEq, eq_self]
  · rintro k s H' hk hw ⟨rfl, hp, t0, t4⟩
    have hx := List.getElem?_eq_getElem hk
    have hbad := allNum_false hk
    have hpp : (keys[k]).kind = 1 → ∀ i (hi : i < k + 1) (hl : i < keys.length), (keys[i]).kind = 1 := fun h0 i hi hl' => by
      rcases Nat.lt_or_ge i k with h | h
      · exact hp i h hl'
      · obtain rfl : i = k := by omega
        exact h0
    generalize keys[k] = x at hx hbad hpp
    by_cases h1 : x.kind = 1
    · simp (implicitDefEqProofs := false) only [↓reduceIte, go_sem, oread, owrite, Nat.reduceAdd, Nat.reduceSub, Nat.reduceMul, Nat.reduceLT, Nat.reduceLeDiff, Nat.reduceEqDiff, Nat.reduceBEq, Int.reduceLE, Int.reduceLT, Int.reduceEq, Int.reduceNe, Int.reduceAdd, Int.reduceSub, Int.reduceMul, Int.reduceNeg, Int.reduceToNat, Int.reduceNatCast, reduceCtorEq, eq_self, t0, t4, hk, List.length_map, hx, Val.enc, eq_true h1]
      refine Rnd.same ⟨rfl, hpp h1, ?_⟩
      simp (implicitDefEqProofs := false) only [↓reduceIte, go_sem, oread, owrite, Nat.reduceAdd, Nat.reduceSub, Nat.reduceMul, Nat.reduceLT, Nat.reduceLeDiff, Nat.reduceEqDiff, Nat.reduceBEq, Int.reduceLE, Int.reduceLT, Int.reduceEq, Int.reduceNe, Int.reduceAdd, Int.reduceSub, Int.reduceMul, Int.reduceNeg, Int.reduceToNat, Int.reduceNatCast, reduceCtorEq, eq_self, t0, hw]
    · simp (implicitDefEqProofs := false) only [↓reduceIte, go_sem, oread, owrite, Nat.reduceAdd, Nat.reduceSub, Nat.reduceMul, Nat.reduceLT, Nat.reduceLeDiff, Nat.reduceEqDiff, Nat.reduceBEq, Int.reduceLE, Int.reduceLT, Int.reduceEq, Int.reduceNe, Int.reduceAdd, Int.reduceSub, Int.reduceMul, Int.reduceNeg, Int.reduceToNat, Int.reduceNatCast, reduceCtorEq, eq_self, t0, t4, hk, List.length_map, hx, Val.enc, h1]
      refine AEnd.ret0 ?_
      simp (implicitDefEqProofs := false) only [↓reduceIte, go_sem, oread, owrite, Nat.reduceAdd, Nat.reduceSub, Nat.reduceMul, Nat.reduceLT, Nat.reduceLeDiff, Nat.reduceEqDiff, Nat.reduceBEq, Int.reduceLE, Int.reduceLT, Int.reduceEq, Int.reduceNe, Int.reduceAdd, Int.reduceSub, Int.reduceMul, Int.reduceNeg, Int.reduceToNat, Int.reduceNatCast, reduceCtorEq, eq_self, spansR, hbad h1, Bool.false_eq_true]
  · rintro s H' ⟨rfl, hp, t0, t4⟩
    have hA := allNum_true fun i hi => hp i hi hi
    simp (implicitDefEqProofs := false) only [↓reduceIte, go_sem, oread, owrite, Nat.reduceAdd, Nat.reduceSub, Nat.reduceMul, Nat.reduceLT, Nat.reduceLeDiff, Nat.reduceEqDiff, Nat.reduceBEq, Int.reduceLE, Int.reduceLT, Int.reduceEq, Int.reduceNe, Int.reduceAdd, Int.reduceSub, Int.reduceMul, Int.reduceNeg, Int.reduceToNat, Int.reduceNatCast, reduceCtorEq, eq_self, t0, t4, List.length_map]
    refine awp_loop _ _ _ _ (fun (at_ : Nat) s H2 => ∃ ver, H2 = H' ++ [.arr 33 2 ver ((spansK keys at_).map encS)] ∧ ver ≤ at_ ∧ at_ ≤ keys.length ∧ (∀ v, keys[at_]? = some v → at_ = 0 ∨ ∃ u, keys[at_ - 1]? = some u ∧ joins u.i v.i = false) ∧ s 0 = .d (.list n1 (keys.map Val.enc)) ∧ s 5 = .sl H'.length ver 0 (spansK keys at_).length ∧ s 6 = iA at_) (fun at_ => keys.length - at_) 0 (Weak.virt1 _ _ 5 33 2 (by decide) (by simp (implicitDefEqProofs := false) only [↓reduceIte, go_sem, oread, owrite, Nat.reduceAdd, Nat.reduceSub, Nat.reduceMul, Nat.reduceLT, Nat.reduceLeDiff, Nat.reduceEqDiff, Nat.reduceBEq, Int.reduceLE, Int.reduceLT, Int.reduceEq, Int.reduceNe, Int.reduceAdd, Int.reduceSub, Int.reduceMul, Int.reduceNeg, Int.reduceToNat, Int.reduceNatCast, reduceCtorEq, eq_self]) _) ?_ ?_
    · refine ⟨0, rfl, Nat.le_refl _, by omega, fun v h => .inl rfl, ?_⟩
      simp (implicitDefEqProofs := false) only [↓reduceIte, go_sem, oread, owrite, Nat.reduceAdd, Nat.reduceSub, Nat.reduceMul, Nat.reduceLT, Nat.reduceLeDiff, Nat.reduceEqDiff, Nat.reduceBEq, Int.reduceLE, Int.reduceLT, Int.reduceEq, Int.reduceNe, Int.reduceAdd, Int.reduceSub, Int.reduceMul, Int.reduceNeg, Int.reduceToNat, Int.reduceNatCast, reduceCtorEq, eq_self, t0, show (spansK keys 0) = [] from rfl, List.length_nil]
    · rintro at_ s H2 ⟨ver, rfl, hva, hal, hst, t0, t5, t6⟩
      by_cases hlt : at_ < keys.length
      · have hx := List.getElem?_eq_getElem hlt
        have hnew := spans_new hx (hst _ hx)
        have hle := spansK_le keys at_
        generalize keys[at_] = x at hx hnew
        generalize spansK keys at_ = L at *
        simp (implicitDefEqProofs := false) only [↓reduceIte, go_sem, oread, owrite, Nat.reduceAdd, Nat.reduceSub, Nat.reduceMul, Nat.reduceLT, Nat.reduceLeDiff, Nat.reduceEqDiff, Nat.reduceBEq, Int.reduceLE, Int.reduceLT, Int.reduceEq, Int.reduceNe, Int.reduceAdd, Int.reduceSub, Int.reduceMul, Int.reduceNeg, Int.reduceToNat, Int.reduceNatCast, reduceCtorEq, eq_self, t0, t6, hlt, List.length_map]
        refine awp_cutB (fun s H3 => H3 = H' ++ [.arr 33 2 ver (L.map encS)] ∧ ∃ (to : Nat) (u : Val), at_ ≤ to ∧ keys[to]? = some u ∧ spansK keys (to + 1) = L ++ [(x.i, u.i)] ∧ (∀ v, keys[to + 1]? = some v → joins u.i v.i = false) ∧ s 0 = .d (.list n1 (keys.map Val.enc)) ∧ s 5 = .sl H'.length ver 0 L.length ∧ s 6 = iA at_ ∧ s 7 = iA to) rfl ?_ ?_
        · refine awp_loop _ _ _ _ (fun (to : Nat) s H3 => H3 = H' ++ [.arr 33 2 ver (L.map encS)] ∧ ∃ (u : Val), at_ ≤ to ∧ keys[to]? = some u ∧ spansK keys (to + 1) = L ++ [(x.i, u.i)] ∧ s 0 = .d (.list n1 (keys.map Val.enc)) ∧ s 5 = .sl H'.length ver 0 L.length ∧ s 6 = iA at_ ∧ s 7 = iA to) (fun to => keys.length - to) at_ (Weak.refl _ _) ?_ ?_
          · refine ⟨rfl, x, Nat.le_refl _, hx, hnew, ?_⟩
            simp (implicitDefEqProofs := false) only [↓reduceIte, go_sem, oread, owrite, Nat.reduceAdd, Nat.reduceSub, Nat.reduceMul, Nat.reduceLT, Nat.reduceLeDiff, Nat.reduceEqDiff, Nat.reduceBEq, Int.reduceLE, Int.reduceLT, Int.reduceEq, Int.reduceNe, Int.reduceAdd, Int.reduceSub, Int.reduceMul, Int.reduceNeg, Int.reduceToNat, Int.reduceNatCast, reduceCtorEq, eq_self, t0, t5, t6]
          · rintro to s H3 ⟨rfl, u, hat, hu, hsp, t0, t5, t6, t7⟩
            have htl := (List.getElem?_eq_some_iff.1 hu).1
            have hui := hok u (List.mem_of_getElem? hu)
            have hwt : IntKind.i64.wrap ((to : Int) + 1) = ((to + 1 : Nat) : Int) := by rw [wrap64_in _ (by omega) (by omega)]; omega
            simp (implicitDefEqProofs := false) only [↓reduceIte, go_sem, oread, owrite, Nat.reduceAdd, Nat.reduceSub, Nat.reduceMul, Nat.reduceLT, Nat.reduceLeDiff, Nat.reduceEqDiff, Nat.reduceBEq, Int.reduceLE, Int.reduceLT, Int.reduceEq, Int.reduceNe, Int.reduceAdd, Int.reduceSub, Int.reduceMul, Int.reduceNeg, Int.reduceToNat, Int.reduceNatCast, reduceCtorEq, eq_self]
            by_cases hn : to + 1 < keys.length
            · have hy := List.getElem?_eq_getElem hn
              have hyi := hok _ (List.getElem_mem hn)
              have hje := joins_eq hui hyi
              have hmore := fun h => spans_more hu hy h hsp
              have hyy : ∀ v, keys[to + 1]? = some v → v = keys[to + 1] := fun v hv => by rw [hy] at hv; cases hv; rfl
              generalize keys[to + 1] = y at *
              generalize hto : to + 1 = to1 at *
              refine awp_draw K.mixed (by kernel_rfl) ?_
              by_cases hm : u.i < 9223372036854775807
              · rw [if_pos hm] at hje
                by_cases hj : y.i = IntKind.i64.wrap (u.i + 1)
                · have hjt : joins u.i y.i = true := by rw [hje]; simp [hj]
                  simp (implicitDefEqProofs := false) only [↓reduceIte, go_sem, oread, owrite, Nat.reduceAdd, Nat.reduceSub, Nat.reduceMul, Nat.reduceLT, Nat.reduceLeDiff, Nat.reduceEqDiff, Nat.reduceBEq, Int.reduceLE, Int.reduceLT, Int.reduceEq, Int.reduceNe, Int.reduceAdd, Int.reduceSub, Int.reduceMul, Int.reduceNeg, Int.reduceToNat, Int.reduceNatCast, reduceCtorEq, eq_self, t0, t7, hwt, List.length_map, hn, htl, hu, hy, Val.enc, hm, eq_true hj]
                  refine ⟨_, _, to1, .refl _ _, ⟨rfl, y, by omega, hy, hmore hjt, ?_⟩, by omega⟩
                  simp (implicitDefEqProofs := false) only [↓reduceIte, go_sem, oread, owrite, Nat.reduceAdd, Nat.reduceSub, Nat.reduceMul, Nat.reduceLT, Nat.reduceLeDiff, Nat.reduceEqDiff, Nat.reduceBEq, Int.reduceLE, Int.reduceLT, Int.reduceEq, Int.reduceNe, Int.reduceAdd, Int.reduceSub, Int.reduceMul, Int.reduceNeg, Int.reduceToNat, Int.reduceNatCast, reduceCtorEq, eq_self, t0, t5, t6]
                · have hjf : joins u.i y.i = false := by rw [hje]; simp [hj]
                  simp (implicitDefEqProofs := false) only [↓reduceIte, go_sem, oread, owrite, Nat.reduceAdd, Nat.reduceSub, Nat.reduceMul, Nat.reduceLT, Nat.reduceLeDiff, Nat.reduceEqDiff, Nat.reduceBEq, Int.reduceLE, Int.reduceLT, Int.reduceEq, Int.reduceNe, Int.reduceAdd, Int.reduceSub, Int.reduceMul, Int.reduceNeg, Int.reduceToNat, Int.reduceNatCast, reduceCtorEq, eq_self, t0, t5, t6, t7, hwt, List.length_map, hn, htl, hu, hy, Val.enc, hm, hj]
                  exact ⟨to, u, hat, hu, by rw [hto]; exact hsp, fun v hv => by rw [hto] at hv; rw [hyy v hv]; exact hjf, rfl⟩
              · rw [if_neg hm] at hje
                simp (implicitDefEqProofs := false) only [↓reduceIte, go_sem, oread, owrite, Nat.reduceAdd, Nat.reduceSub, Nat.reduceMul, Nat.reduceLT, Nat.reduceLeDiff, Nat.reduceEqDiff, Nat.reduceBEq, Int.reduceLE, Int.reduceLT, Int.reduceEq, Int.reduceNe, Int.reduceAdd, Int.reduceSub, Int.reduceMul, Int.reduceNeg, Int.reduceToNat, Int.reduceNatCast, reduceCtorEq, eq_self, t0, t5, t6, t7, hwt, List.length_map, hn, htl, hu, hy, Val.enc, hm]
                exact ⟨to, u, hat, hu, by rw [hto]; exact hsp, fun v hv => by rw [hto] at hv; rw [hyy v hv]; exact hje, rfl⟩
            · generalize hto : to + 1 = to1 at *
              refine awp_draw K.mixed (by kernel_rfl) ?_
              simp (implicitDefEqProofs := false) only [↓reduceIte, go_sem, oread, owrite, Nat.reduceAdd, Nat.reduceSub, Nat.reduceMul, Nat.reduceLT, Nat.reduceLeDiff, Nat.reduceEqDiff, Nat.reduceBEq, Int.reduceLE, Int.reduceLT, Int.reduceEq, Int.reduceNe, Int.reduceAdd, Int.reduceSub, Int.reduceMul, Int.reduceNeg, Int.reduceToNat, Int.reduceNatCast, reduceCtorEq, eq_self, t0, t5, t6, t7, hwt, List.length_map, show ((to1 : Int) < (keys.length : Int)) = False from eq_false (by omega)]
              exact ⟨to, u, hat, hu, by rw [hto]; exact hsp, fun v hv => (by rw [hto, List.getElem?_eq_none (by omega)] at hv; cases hv), rfl⟩
        · rintro s H3 ⟨rfl, to, u, hat, hu, hsp, hnj, t0, t5, t6, t7⟩
          have htl := (List.getElem?_eq_some_iff.1 hu).1
          have hwt : IntKind.i64.wrap ((to : Int) + 1) = ((to + 1 : Nat) : Int) := by rw [wrap64_in _ (by omega) (by omega)]; omega
          simp (implicitDefEqProofs := false) only [↓reduceIte, go_sem, oread, owrite, Nat.reduceAdd, Nat.reduceSub, Nat.reduceMul, Nat.reduceLT, Nat.reduceLeDiff, Nat.reduceEqDiff, Nat.reduceBEq, Int.reduceLE, Int.reduceLT, Int.reduceEq, Int.reduceNe, Int.reduceAdd, Int.reduceSub, Int.reduceMul, Int.reduceNeg, Int.reduceToNat, Int.reduceNatCast, reduceCtorEq, eq_self]
          refine awp_drawK 13 K.mixed (by kernel_rfl) (by kernel_rfl) ?_
          simp (implicitDefEqProofs := false) only [↓reduceIte, go_sem, oread, owrite, Nat.reduceAdd, Nat.reduceSub, Nat.reduceMul, Nat.reduceLT, Nat.reduceLeDiff, Nat.reduceEqDiff, Nat.reduceBEq, Int.reduceLE, Int.reduceLT, Int.reduceEq, Int.reduceNe, Int.reduceAdd, Int.reduceSub, Int.reduceMul, Int.reduceNeg, Int.reduceToNat, Int.reduceNatCast, reduceCtorEq, eq_self, t0, t5, t6, t7, hx, hu, hlt, htl, Val.enc, List.length_map]
          refine ⟨by omega, by omega, ?_⟩
          refine ⟨_, _, to + 1, .refl _ _, ⟨ver + 1, ?_, by omega, by omega, fun v hv => .inr ⟨u, hu, hnj v hv⟩, ?_⟩, by omega⟩
          · simp (implicitDefEqProofs := false) only [↓reduceIte, go_sem, oread, owrite, Nat.reduceAdd, Nat.reduceSub, Nat.reduceMul, Nat.reduceLT, Nat.reduceLeDiff, Nat.reduceEqDiff, Nat.reduceBEq, Int.reduceLE, Int.reduceLT, Int.reduceEq, Int.reduceNe, Int.reduceAdd, Int.reduceSub, Int.reduceMul, Int.reduceNeg, Int.reduceToNat, Int.reduceNatCast, reduceCtorEq, eq_self, hsp, List.map_append, encS]
          · simp (implicitDefEqProofs := false) only [↓reduceIte, go_sem, oread, owrite, Nat.reduceAdd, Nat.reduceSub, Nat.reduceMul, Nat.reduceLT, Nat.reduceLeDiff, Nat.reduceEqDiff, Nat.reduceBEq, Int.reduceLE, Int.reduceLT, Int.reduceEq, Int.reduceNe, Int.reduceAdd, Int.reduceSub, Int.reduceMul, Int.reduceNeg, Int.reduceToNat, Int.reduceNatCast, reduceCtorEq, eq_self, t0, hwt, hsp, List.length_append]
      · simp (implicitDefEqProofs := false) only [↓reduceIte, go_sem, oread, owrite, Nat.reduceAdd, Nat.reduceSub, Nat.reduceMul, Nat.reduceLT, Nat.reduceLeDiff, Nat.reduceEqDiff, Nat.reduceBEq, Int.reduceLE, Int.reduceLT, Int.reduceEq, Int.reduceNe, Int.reduceAdd, Int.reduceSub, Int.reduceMul, Int.reduceNeg, Int.reduceToNat, Int.reduceNatCast, reduceCtorEq, eq_self, t0, t5, t6, show ((at_ : Int) < (keys.length : Int)) = False from eq_false (by omega), List.length_map]
        have : at_ = keys.length := by omega
        subst this
        refine AEnd.ret ?_
        simp (implicitDefEqProofs := false) only [↓reduceIte, go_sem, oread, owrite, Nat.reduceAdd, Nat.reduceSub, Nat.reduceMul, Nat.reduceLT, Nat.reduceLeDiff, Nat.reduceEqDiff, Nat.reduceBEq, Int.reduceLE, Int.reduceLT, Int.reduceEq, Int.reduceNe, Int.reduceAdd, Int.reduceSub, Int.reduceMul, Int.reduceNeg, Int.reduceToNat, Int.reduceNatCast, reduceCtorEq, eq_self, spansR, hA, List.take_of_length_le]
/-! ### Filter -/
def staysP (keys : List Val) (ranges : Bool) (v : Val) : Bool := if allNum keys && ranges then withinP (spansK keys keys.length) v else inP keys v
def filterP (R : List (List Val)) (c : Int) (keys : List Val) (ranges : Bool) : List (List Val) := R.filter fun r => staysP keys ranges (atP r c)
theorem filterP_snoc (R : List (List Val)) (r : List Val) (c : Int) (keys : List Val) (ranges : Bool) : filterP (R ++ [r]) c keys ranges = if staysP keys ranges (atP r c) then filterP R c keys ranges ++ [r] else filterP R c keys ranges := by
  unfold filterP
  rw [List.filter_append]
  split <;> rename_i h <;> simp [h]
theorem filterP_le (R : List (List Val)) (c : Int) (keys : List Val) (ranges : Bool) : (filterP R c keys ranges).length ≤ R.length := List.length_filter_le _ _
set_option maxRecDepth 10000 in
set_option maxHeartbeats 2000000 in
theorem rfilter_does (R : List (List Val)) (c : Int) (keys : List Val) (ranges : Bool) (n1 n2 : Bool) (hR : R.length ≤ 1000000000) (hr : ∀ r ∈ R, r.length ≤ 1000000000000) (hk : keys.length ≤ 1000000000000) (hok : ∀ k ∈ keys, I64 k.i) (hks : ∀ k ∈ keys, k.s.size ≤ 9223372036854775807) (H : AHeap) :
    Does Try.prog 22 [.d (.list n1 (rowsD R)), iA c, .d (.list n2 (keys.map Val.enc)), bA ranges] H (.ok (.d (.list false (rowsD (filterP R c keys ranges))))) H := by
  have hsl := spansK_le keys keys.length
  have hsp := fun H => rspans_does keys n2 hk hok H
  have hst : ∀ v, staysP keys ranges v = if allNum keys && ranges then withinP (spansK keys keys.length) v else inP keys v := fun _ => rfl
  have hsr : spansR keys = if allNum keys then .tup [.d (.list false ((spansK keys keys.length).map encS)), bA true] else .tup [.d (.v (.slice none 0 0)), bA false] := rfl
  generalize spansK keys keys.length = S at *
  obtain ⟨x9, hx9⟩ : ∃ x9 : AV, spansR keys = .tup [x9, bA (allNum keys)] ∧ (allNum keys = true → x9 = .d (.list false (S.map encS))) ∧ (allNum keys = false → x9 = .d (.v (.slice none 0 0))) := by
    rw [hsr]
    cases allNum keys with
    | true => exact ⟨_, rfl, fun _ => rfl, fun h => (by cases h)⟩
    | false => exact ⟨_, rfl, fun h => (by cases h), fun _ => rfl⟩
  obtain ⟨hx9, hx9t, hx9f⟩ := hx9
  rw [hx9] at hsp
  clear hsr hx9
  generalize allNum keys = an at *
  obtain ⟨z, hz⟩ : ∃ z : D, x9 = .d z := by cases an with | true => exact ⟨_, hx9t rfl⟩ | false => exact ⟨_, hx9f rfl⟩
  subst hz
  refine Does.of_awp (hint := (fun _ => false)) Try.func22 (by kernel_rfl) rfl [8] (by kernel_rfl) (by decide) (by simp [Try.ntmps22]) ?_
  rw [Try.ntmps22]
  simp (implicitDefEqProofs := false) only [↓reduceIte, go_sem, oread, owrite, Nat.reduceAdd, Nat.reduceSub, Nat.reduceMul, Nat.reduceLT, Nat.reduceLeDiff, Nat.reduceEqDiff, Nat.reduceBEq, Int.reduceLE, Int.reduceLT, Int.reduceEq, Int.reduceNe, Int.reduceAdd, Int.reduceSub, Int.reduceMul, Int.reduceNeg, Int.reduceToNat, Int.reduceNatCast, reduceCtorEq, eq_self]
  refine KCall.ok (hsp _) ?_
  simp (implicitDefEqProofs := false) only [↓reduceIte, go_sem, oread, owrite, Nat.reduceAdd, Nat.reduceSub, Nat.reduceMul, Nat.reduceLT, Nat.reduceLeDiff, Nat.reduceEqDiff, Nat.reduceBEq, Int.reduceLE, Int.reduceLT, Int.reduceEq, Int.reduceNe, Int.reduceAdd, Int.reduceSub, Int.reduceMul, Int.reduceNeg, Int.reduceToNat, Int.reduceNatCast, reduceCtorEq, eq_self]
  refine awp_for3 (fun k s H' => H' = H ++ [.arr 28 1 (filterP (R.take k) c keys ranges).length (rowsD (filterP (R.take k) c keys ranges))] ∧ s 0 = .d (.list n1 (rowsD R)) ∧ s 1 = iA c ∧ s 2 = .d (.list n2 (keys.map Val.enc)) ∧ s 3 = bA ranges ∧ s 9 = .d z ∧ s 10 = bA an ∧ s 11 = .sl H.length (filterP (R.take k) c keys ranges).length 0 (filterP (R.take k) c keys ranges).length ∧ s 12 = iA k) R.length (by omega) (Weak.virt1 _ _ 11 28 1 (by decide) (by simp (implicitDefEqProofs := false) only [↓reduceIte, go_sem, oread, owrite, Nat.reduceAdd, Nat.reduceSub, Nat.reduceMul, Nat.reduceLT, Nat.reduceLeDiff, Nat.reduceEqDiff, Nat.reduceBEq, Int.reduceLE, Int.reduceLT, Int.reduceEq, Int.reduceNe, Int.reduceAdd, Int.reduceSub, Int.reduceMul, Int.reduceNeg, Int.reduceToNat, Int.reduceNatCast, reduceCtorEq, eq_self]) _) ?_ ?_ ?_
  · refine ⟨rfl, ?_⟩
    simp (implicitDefEqProofs := false) only [↓reduceIte, go_sem, oread, owrite, Nat.reduceAdd, Nat.reduceSub, Nat.reduceMul, Nat.reduceLT, Nat.reduceLeDiff, Nat.reduceEqDiff, Nat.reduceBEq, Int.reduceLE, Int.reduceLT, Int.reduceEq, Int.reduceNe, Int.reduceAdd, Int.reduceSub, Int.reduceMul, Int.reduceNeg, Int.reduceToNat, Int.reduceNatCast, reduceCtorEq, eq_self]
    rfl
  · rintro k s H' hk2 hw ⟨rfl, t0, t1, t2, t3, t9, t10, t11, t12⟩
    have hx := rowsD_get R k hk2
    have hF := filterP_snoc (R.take k) R[k] c keys ranges
    rw [← List.take_succ_eq_append_getElem hk2] at hF
    have hFl := filterP_le (R.take k) c keys ranges
    rw [List.length_take] at hFl
    have hrl := hr _ (List.getElem_mem hk2)
    rw [hF]
    generalize filterP (R.take k) c keys ranges = F at *
    generalize R[k] = r at *
    have hat := fun H => at16_does r c false (by omega) H
    generalize atP r c = v at *
    have hin := fun H => in19_does keys v n2 H (by omega) hks
    have hwi := fun H => within19_does S v false H (by omega)
    have hst := hst v
    have q := rowsD_snoc F r
    generalize inP keys v = b1 at *
    generalize withinP S v = b2 at *
    have tailT : ∀ b, staysP keys ranges v = b → (if staysP keys ranges v = true then F ++ [r] else F) = if b = true then F ++ [r] else F := fun b h => by rw [h]
    simp (implicitDefEqProofs := false) only [↓reduceIte, go_sem, oread, owrite, Nat.reduceAdd, Nat.reduceSub, Nat.reduceMul, Nat.reduceLT, Nat.reduceLeDiff, Nat.reduceEqDiff, Nat.reduceBEq, Int.reduceLE, Int.reduceLT, Int.reduceEq, Int.reduceNe, Int.reduceAdd, Int.reduceSub, Int.reduceMul, Int.reduceNeg, Int.reduceToNat, Int.reduceNatCast, reduceCtorEq, eq_self, t0, t1, t12, rowsD_len, hk2, hx]
    refine KCall.ok (hat _) ?_
    simp (implicitDefEqProofs := false) only [↓reduceIte, go_sem, oread, owrite, Nat.reduceAdd, Nat.reduceSub, Nat.reduceMul, Nat.reduceLT, Nat.reduceLeDiff, Nat.reduceEqDiff, Nat.reduceBEq, Int.reduceLE, Int.reduceLT, Int.reduceEq, Int.reduceNe, Int.reduceAdd, Int.reduceSub, Int.reduceMul, Int.reduceNeg, Int.reduceToNat, Int.reduceNatCast, reduceCtorEq, eq_self, t2]
    refine KCall.ok (hin _) ?_
    by_cases har : (an && ranges) = true
    · rw [if_pos har] at hst
      rw [tailT _ hst]
      obtain ⟨rfl, rfl⟩ : an = true ∧ ranges = true := by simpa using har
      have hx9 := hx9t rfl
      cases hx9
      simp (implicitDefEqProofs := false) only [↓reduceIte, go_sem, oread, owrite, Nat.reduceAdd, Nat.reduceSub, Nat.reduceMul, Nat.reduceLT, Nat.reduceLeDiff, Nat.reduceEqDiff, Nat.reduceBEq, Int.reduceLE, Int.reduceLT, Int.reduceEq, Int.reduceNe, Int.reduceAdd, Int.reduceSub, Int.reduceMul, Int.reduceNeg, Int.reduceToNat, Int.reduceNatCast, reduceCtorEq, eq_self, t3, t9, t10]
      refine KCall.ok (hwi _) ?_
      cases b2 with
      | true =>
        simp (implicitDefEqProofs := false) only [↓reduceIte, go_sem, oread, owrite, Nat.reduceAdd, Nat.reduceSub, Nat.reduceMul, Nat.reduceLT, Nat.reduceLeDiff, Nat.reduceEqDiff, Nat.reduceBEq, Int.reduceLE, Int.reduceLT, Int.reduceEq, Int.reduceNe, Int.reduceAdd, Int.reduceSub, Int.reduceMul, Int.reduceNeg, Int.reduceToNat, Int.reduceNatCast, reduceCtorEq, eq_self, t0, t11, t12, rowsD_len, hk2, hx, q]
        refine ⟨by omega, by omega, ?_⟩
        refine Rnd.cut [.arr 28 1 (F.length + 1) (rowsD (F ++ [r]))] [.box 26 3 0 1 [iA v.kind, iA v.i, sA v.s]] 1 rfl rfl (by simp (implicitDefEqProofs := false) only [↓reduceIte, go_sem, oread, owrite, Nat.reduceAdd, Nat.reduceSub, Nat.reduceMul, Nat.reduceLT, Nat.reduceLeDiff, Nat.reduceEqDiff, Nat.reduceBEq, Int.reduceLE, Int.reduceLT, Int.reduceEq, Int.reduceNe, Int.reduceAdd, Int.reduceSub, Int.reduceMul, Int.reduceNeg, Int.reduceToNat, Int.reduceNatCast, reduceCtorEq, eq_self]) ?_
        refine ⟨by simp (implicitDefEqProofs := false) only [↓reduceIte, go_sem, oread, owrite, Nat.reduceAdd, Nat.reduceSub, Nat.reduceMul, Nat.reduceLT, Nat.reduceLeDiff, Nat.reduceEqDiff, Nat.reduceBEq, Int.reduceLE, Int.reduceLT, Int.reduceEq, Int.reduceNe, Int.reduceAdd, Int.reduceSub, Int.reduceMul, Int.reduceNeg, Int.reduceToNat, Int.reduceNatCast, reduceCtorEq, eq_self, List.length_append, List.length_singleton], ?_⟩
        simp (implicitDefEqProofs := false) only [↓reduceIte, go_sem, oread, owrite, Nat.reduceAdd, Nat.reduceSub, Nat.reduceMul, Nat.reduceLT, Nat.reduceLeDiff, Nat.reduceEqDiff, Nat.reduceBEq, Int.reduceLE, Int.reduceLT, Int.reduceEq, Int.reduceNe, Int.reduceAdd, Int.reduceSub, Int.reduceMul, Int.reduceNeg, Int.reduceToNat, Int.reduceNatCast, reduceCtorEq, eq_self, t0, t1, t2, t3, t9, t10, hw, List.length_append, List.length_singleton]
      | false =>
        simp (implicitDefEqProofs := false) only [↓reduceIte, go_sem, oread, owrite, Nat.reduceAdd, Nat.reduceSub, Nat.reduceMul, Nat.reduceLT, Nat.reduceLeDiff, Nat.reduceEqDiff, Nat.reduceBEq, Int.reduceLE, Int.reduceLT, Int.reduceEq, Int.reduceNe, Int.reduceAdd, Int.reduceSub, Int.reduceMul, Int.reduceNeg, Int.reduceToNat, Int.reduceNatCast, reduceCtorEq, eq_self, t12]
        refine Rnd.cut [.arr 28 1 F.length (rowsD F)] [.box 26 3 0 1 [iA v.kind, iA v.i, sA v.s]] 1 rfl rfl (by simp (implicitDefEqProofs := false) only [↓reduceIte, go_sem, oread, owrite, Nat.reduceAdd, Nat.reduceSub, Nat.reduceMul, Nat.reduceLT, Nat.reduceLeDiff, Nat.reduceEqDiff, Nat.reduceBEq, Int.reduceLE, Int.reduceLT, Int.reduceEq, Int.reduceNe, Int.reduceAdd, Int.reduceSub, Int.reduceMul, Int.reduceNeg, Int.reduceToNat, Int.reduceNatCast, reduceCtorEq, eq_self]) ?_
        refine ⟨rfl, ?_⟩
        simp (implicitDefEqProofs := false) only [↓reduceIte, go_sem, oread, owrite, Nat.reduceAdd, Nat.reduceSub, Nat.reduceMul, Nat.reduceLT, Nat.reduceLeDiff, Nat.reduceEqDiff, Nat.reduceBEq, Int.reduceLE, Int.reduceLT, Int.reduceEq, Int.reduceNe, Int.reduceAdd, Int.reduceSub, Int.reduceMul, Int.reduceNeg, Int.reduceToNat, Int.reduceNatCast, reduceCtorEq, eq_self, t0, t1, t2, t3, t9, t10, t11, hw, Bool.false_eq_true]
    · rw [if_neg har] at hst
      rw [tailT _ hst]
      have har2 : an = false ∨ (an = true ∧ ranges = false) := by cases an <;> cases ranges <;> simp_all
      rcases har2 with rfl | ⟨rfl, rfl⟩
      all_goals
        cases b1 with
        | true =>
          simp (implicitDefEqProofs := false) only [↓reduceIte, go_sem, oread, owrite, Nat.reduceAdd, Nat.reduceSub, Nat.reduceMul, Nat.reduceLT, Nat.reduceLeDiff, Nat.reduceEqDiff, Nat.reduceBEq, Int.reduceLE, Int.reduceLT, Int.reduceEq, Int.reduceNe, Int.reduceAdd, Int.reduceSub, Int.reduceMul, Int.reduceNeg, Int.reduceToNat, Int.reduceNatCast, reduceCtorEq, eq_self, t0, t3, t10, t11, t12, rowsD_len, hk2, hx, q]
          refine ⟨by omega, by omega, ?_⟩
          refine Rnd.cut [.arr 28 1 (F.length + 1) (rowsD (F ++ [r]))] [.box 26 3 0 1 [iA v.kind, iA v.i, sA v.s]] 1 rfl rfl (by simp (implicitDefEqProofs := false) only [↓reduceIte, go_sem, oread, owrite, Nat.reduceAdd, Nat.reduceSub, Nat.reduceMul, Nat.reduceLT, Nat.reduceLeDiff, Nat.reduceEqDiff, Nat.reduceBEq, Int.reduceLE, Int.reduceLT, Int.reduceEq, Int.reduceNe, Int.reduceAdd, Int.reduceSub, Int.reduceMul, Int.reduceNeg, Int.reduceToNat, Int.reduceNatCast, reduceCtorEq, eq_self]) ?_
          refine ⟨by simp (implicitDefEqProofs := false) only [↓reduceIte, go_sem, oread, owrite, Nat.reduceAdd, Nat.reduceSub, Nat.reduceMul, Nat.reduceLT, Nat.reduceLeDiff, Nat.reduceEqDiff, Nat.reduceBEq, Int.reduceLE, Int.reduceLT, Int.reduceEq, Int.reduceNe, Int.reduceAdd, Int.reduceSub, Int.reduceMul, Int.reduceNeg, Int.reduceToNat, Int.reduceNatCast, reduceCtorEq, eq_self, List.length_append, List.length_singleton], ?_⟩
          simp (implicitDefEqProofs := false) only [↓reduceIte, go_sem, oread, owrite, Nat.reduceAdd, Nat.reduceSub, Nat.reduceMul, Nat.reduceLT, Nat.reduceLeDiff, Nat.reduceEqDiff, Nat.reduceBEq, Int.reduceLE, Int.reduceLT, Int.reduceEq, Int.reduceNe, Int.reduceAdd, Int.reduceSub, Int.reduceMul, Int.reduceNeg, Int.reduceToNat, Int.reduceNatCast, reduceCtorEq, eq_self, t0, t1, t2, t3, t9, t10, hw, List.length_append, List.length_singleton]
        | false =>
          simp (implicitDefEqProofs := false) only [↓reduceIte, go_sem, oread, owrite, Nat.reduceAdd, Nat.reduceSub, Nat.reduceMul, Nat.reduceLT, Nat.reduceLeDiff, Nat.reduceEqDiff, Nat.reduceBEq, Int.reduceLE, Int.reduceLT, Int.reduceEq, Int.reduceNe, Int.reduceAdd, Int.reduceSub, Int.reduceMul, Int.reduceNeg, Int.reduceToNat, Int.reduceNatCast, reduceCtorEq, eq_self, t3, t10, t12]
          refine Rnd.cut [.arr 28 1 F.length (rowsD F)] [.box 26 3 0 1 [iA v.kind, iA v.i, sA v.s]] 1 rfl rfl (by simp (implicitDefEqProofs := false) only [↓reduceIte, go_sem, oread, owrite, Nat.reduceAdd, Nat.reduceSub, Nat.reduceMul, Nat.reduceLT, Nat.reduceLeDiff, Nat.reduceEqDiff, Nat.reduceBEq, Int.reduceLE, Int.reduceLT, Int.reduceEq, Int.reduceNe, Int.reduceAdd, Int.reduceSub, Int.reduceMul, Int.reduceNeg, Int.reduceToNat, Int.reduceNatCast, reduceCtorEq, eq_self]) ?_
          refine ⟨rfl, ?_⟩
          simp (implicitDefEqProofs := false) only [↓reduceIte, go_sem, oread, owrite, Nat.reduceAdd, Nat.reduceSub, Nat.reduceMul, Nat.reduceLT, Nat.reduceLeDiff, Nat.reduceEqDiff, Nat.reduceBEq, Int.reduceLE, Int.reduceLT, Int.reduceEq, Int.reduceNe, Int.reduceAdd, Int.reduceSub, Int.reduceMul, Int.reduceNeg, Int.reduceToNat, Int.reduceNatCast, reduceCtorEq, eq_self, t0, t1, t2, t3, t9, t10, t11, hw, Bool.false_eq_true]
  · rintro s H' ⟨rfl, t0, t1, t2, t3, t9, t10, t11, t12⟩
    rw [show R.take R.length = R from List.take_length] at *
    simp (implicitDefEqProofs := false) only [↓reduceIte, go_sem, oread, owrite, Nat.reduceAdd, Nat.reduceSub, Nat.reduceMul, Nat.reduceLT, Nat.reduceLeDiff, Nat.reduceEqDiff, Nat.reduceBEq, Int.reduceLE, Int.reduceLT, Int.reduceEq, Int.reduceNe, Int.reduceAdd, Int.reduceSub, Int.reduceMul, Int.reduceNeg, Int.reduceToNat, Int.reduceNatCast, reduceCtorEq, eq_self, t0, t11, t12, rowsD_len]
    refine AEnd.ret ?_
    simp (implicitDefEqProofs := false) only [↓reduceIte, go_sem, oread, owrite, Nat.reduceAdd, Nat.reduceSub, Nat.reduceMul, Nat.reduceLT, Nat.reduceLeDiff, Nat.reduceEqDiff, Nat.reduceBEq, Int.reduceLE, Int.reduceLT, Int.reduceEq, Int.reduceNe, Int.reduceAdd, Int.reduceSub, Int.reduceMul, Int.reduceNeg, Int.reduceToNat, Int.reduceNatCast, reduceCtorEq, eq_self, take_len2 (rowsD (filterP R c keys ranges)) _ (rowsD_len _)]
end Go.Proofs.Ytfmmemboakdeiaa
namespace Go.Proofs.Ytfmmemboakdeiaa
open Go.Proofs.YtfmmemboakdeiaaAw Go.RowKit
set_option linter.unusedVariables false
set_option linter.unusedSimpArgs false
namespace SV
theorem encK (l : List Val) : (∀ c ∈ l.map Val.enc, c.length = 3) = True := eq_true fun c hc => by obtain ⟨a, _, rfl⟩ := List.mem_map.1 hc; rfl
theorem nilnil (K : Value → Prop) : binK Try.prog .eql 28 (.slice none 0 0) (.slice none 0 0) K = K (.bool true) := nilEq_bin (e := 26) (by kernel_rfl) K
set_option maxRecDepth 10000 in
theorem cloneNil_does (H : AHeap) : Does Try.prog 41 [.d (.v (.slice none 0 0))] H (.ok (.d (.v (.slice none 0 0)))) H := by
  refine Does.of_awp (hint := (fun _ => false)) Try.func41 (by kernel_rfl) rfl [2] (by kernel_rfl) (by decide) (by simp [Try.ntmps41]) ?_
  rw [Try.ntmps41]
  simp (implicitDefEqProofs := false) only [↓reduceIte, go_sem, oread, owrite, Nat.reduceAdd, Nat.reduceSub, Nat.reduceMul, Nat.reduceLT, Nat.reduceLeDiff, Nat.reduceEqDiff, Nat.reduceBEq, Int.reduceLE, Int.reduceLT, Int.reduceEq, Int.reduceNe, Int.reduceAdd, Int.reduceSub, Int.reduceMul, Int.reduceNeg, Int.reduceToNat, Int.reduceNatCast, reduceCtorEq, eq_self, nilnil]
  refine AEnd.ret0 ?_
  simp (implicitDefEqProofs := false) only [↓reduceIte, go_sem, oread, owrite, Nat.reduceAdd, Nat.reduceSub, Nat.reduceMul, Nat.reduceLT, Nat.reduceLeDiff, Nat.reduceEqDiff, Nat.reduceBEq, Int.reduceLE, Int.reduceLT, Int.reduceEq, Int.reduceNe, Int.reduceAdd, Int.reduceSub, Int.reduceMul, Int.reduceNeg, Int.reduceToNat, Int.reduceNatCast, reduceCtorEq, eq_self]
set_option maxRecDepth 10000 in
theorem cloneK_does (l : List Val) (nn : Bool) (H : AHeap) (h0 : nn = true ∨ l ≠ []) (hl : l.length ≤ 1000000000000) : Does Try.prog 41 [.d (.list nn (l.map Val.enc))] H (.ok (.sl H.length 1 0 l.length)) (H ++ [.arr 26 3 1 (l.map Val.enc)]) := by
  have e1 : (nn || !(l.map Val.enc).isEmpty) = true := by
    rcases h0 with h | h
    · simp [h]
    · cases l with
      | nil => exact absurd rfl h
      | cons a l => simp
  refine Does.of_awp (hint := (fun _ => false)) Try.func41 (by kernel_rfl) rfl [2] (by kernel_rfl) (by decide) (by simp [Try.ntmps41]) ?_
  rw [Try.ntmps41]
  simp (implicitDefEqProofs := false) only [↓reduceIte, go_sem, oread, owrite, Nat.reduceAdd, Nat.reduceSub, Nat.reduceMul, Nat.reduceLT, Nat.reduceLeDiff, Nat.reduceEqDiff, Nat.reduceBEq, Int.reduceLE, Int.reduceLT, Int.reduceEq, Int.reduceNe, Int.reduceAdd, Int.reduceSub, Int.reduceMul, Int.reduceNeg, Int.reduceToNat, Int.reduceNatCast, reduceCtorEq, eq_self, e1, encK]
  refine ⟨by omega, by omega, _, Weak.refl _ _, ?_⟩
  simp (implicitDefEqProofs := false) only [↓reduceIte, go_sem, oread, owrite, Nat.reduceAdd, Nat.reduceSub, Nat.reduceMul, Nat.reduceLT, Nat.reduceLeDiff, Nat.reduceEqDiff, Nat.reduceBEq, Int.reduceLE, Int.reduceLT, Int.reduceEq, Int.reduceNe, Int.reduceAdd, Int.reduceSub, Int.reduceMul, Int.reduceNeg, Int.reduceToNat, Int.reduceNatCast, reduceCtorEq, eq_self]
/-- A copy of one's own. -/
theorem clone_does (l : List Val) (nn : Bool) (H : AHeap) (hl : l.length ≤ 1000000000000) : Does Try.prog 41 [.d (.list nn (l.map Val.enc))] H (.ok (.sl H.length 1 0 l.length)) (H ++ [.arr 26 3 1 (l.map Val.enc)]) := by
  cases nn with
  | true => exact cloneK_does l true H (.inl rfl) hl
  | false =>
    cases l with
    | cons a l => exact cloneK_does _ false H (.inr (by simp)) hl
    | nil =>
      refine Does.splitNil [] [] ?_ (cloneK_does [] true H (.inl rfl) (by simp))
      have := (cloneNil_does H).weak (Weak.virtV (sOne _) H 0 26 3 1 (by decide) rfl)
      simpa [sOne] using this
end SV
end Go.Proofs.Ytfmmemboakdeiaa

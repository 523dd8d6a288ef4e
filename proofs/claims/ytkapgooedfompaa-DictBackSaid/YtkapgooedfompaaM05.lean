/- slices' symMerge over Val: what it does. slices' symMerge over Val, the general case: what it does. Blocks that are sorted one by one. slices.SortStableFunc over Val: what it does. slices.CompactFunc over Val: what it does. The document's Same for values. ref01.Same, ref05.Same: what they do. Arguments of the laws, as Lean's data. dict.Words, the laws' few and shown: what they do. Words, codes and places: in plain Lean. A slot that is nil may be taken for an empty list. dict.width, dict.Bytes: what they do. plain.Of of nothing, dict.used: what they do. Functions that defer a call; deferred functions that recover. -/
import Derived.Recover
import Derived.Test.YtkapgooedfompaaM04
namespace Go.Proofs.Ytkapgooedfompaa
open Go.Proofs.YtkapgooedfompaaAw Go.RowKit
set_option linter.unusedVariables false
set_option linter.unusedSimpArgs false
namespace SV
theorem half_eq (n : Nat) (h : n ≤ 2000000000000) : IntKind.i64.wrap (shrI .u64 (IntKind.u64.wrap (n : Int)) 1) = ((n / 2 : Nat) : Int) := by
  rw [wrapU64N n (by omega)]
  have := shrU n 1 (by decide)
  rw [show ((1 : Nat) : Int) = 1 from rfl] at this
  rw [this]
  exact wrapI _ (by omega)
theorem swap_next {L P R : List Val} {x y : Val} (h : L = P ++ x :: y :: R) {i : Nat} (hi : P.length = i) : L[i]? = some x ∧ L[i + 1]? = some y ∧ (L.set i y)[i + 1]? = some y ∧ (L.set (i + 1) x)[i]? = some x ∧ (L.set i y).set (i + 1) x = P ++ y :: x :: R ∧ (L.set (i + 1) x).set i y = P ++ y :: x :: R := by
  subst h hi
  have e : P ++ x :: y :: R = (P ++ [x]) ++ y :: R := by simp
  have e2 : ∀ z : Val, P ++ z :: y :: R = (P ++ [z]) ++ y :: R := by simp
  have h1 : ∀ z : Val, (P ++ [z]).length = P.length + 1 := by simp
  refine ⟨get_at rfl, by rw [e]; exact get_at (h1 x), ?_, ?_, ?_, ?_⟩
  · rw [set_at rfl, e2]; exact get_at (h1 y)
  · rw [e, set_at (h1 x)]
    have : P ++ [x] ++ x :: R = P ++ x :: (x :: R) := by simp
    rw [this]; exact get_at rfl
  · rw [set_at rfl, e2, set_at (h1 y)]; simp
  · rw [e, set_at (h1 x)]
    have : P ++ [x] ++ x :: R = P ++ x :: (x :: R) := by simp
    rw [this, set_at rfl]
theorem memX {P X Y Q L : List Val} {a : Nat} (hL : L = P ++ X ++ Y ++ Q) (ha : P.length = a) : ∀ i x, X[i]? = some x → L[a + i]? = some x := fun i x hx => by
  have := (List.getElem?_eq_some_iff.1 hx).1
  rw [hL, List.append_assoc, List.append_assoc, ← ha, List.getElem?_append_right (by omega), List.getElem?_append_left (by omega), Nat.add_sub_cancel_left]
  exact hx
theorem memY {P X Y Q L : List Val} {m : Nat} (hL : L = P ++ X ++ Y ++ Q) (hm : P.length + X.length = m) : ∀ i y, Y[i]? = some y → L[m + i]? = some y := fun i y hy => by
  have := (List.getElem?_eq_some_iff.1 hy).1
  rw [hL, List.append_assoc (P ++ X), ← hm, List.getElem?_append_right (by simp), List.getElem?_append_left (by simp; omega)]
  simpa [Nat.add_sub_cancel_left] using hy
set_option maxRecDepth 10000 in
set_option maxHeartbeats 4000000 in
theorem sym1_does (H : AHeap) (id ver : Nat) (hid : id < H.length) (g : FuncId) (caps : List AV) (c : Val → Val → Int) (ho : St.Ord (ltC c)) (hc : CmpOk g caps c H id) (n : Nat) (hbig : n ≤ 1000000000000) (P X Y Q L L' : List Val) (a m b : Nat)
    (hL : L = P ++ X ++ Y ++ Q) (hL' : L' = P ++ St.sortS (ltC c) (X ++ Y) ++ Q) (ha : P.length = a) (hm : P.length + X.length = m) (hb : P.length + X.length + Y.length = b) (hX0 : 0 < X.length) (hY0 : 0 < Y.length) (hX : St.Sorted (ltC c) X) (hY : St.Sorted (ltC c) Y) (hn : L.length = n) (h1 : X.length = 1) :
    Does Try.prog 63 [.sl id ver 0 n, iA a, iA m, iA b, .fn g caps] (aH H id ver L) (.ok (.tup [])) (aH H id ver L') := by
  have hnl : P.length + X.length + Y.length + Q.length = n := by rw [← hn, hL]; simp; omega
  have w1 : IntKind.i64.wrap ((m : Int) - (a : Int)) = ((X.length : Nat) : Int) := by rw [wrap64_in _ (by omega) (by omega)]; omega
  have w2 : IntKind.i64.wrap ((b : Int) - (m : Int)) = ((Y.length : Nat) : Int) := by rw [wrap64_in _ (by omega) (by omega)]; omega
  have hLX := memX hL ha
  have hLY := memY hL hm
  generalize hE0 : aH H id ver L = E0
  have gh := aH_get hid ver L
  rw [hE0] at gh
  have hcE : ∀ x y : Val, Does Try.prog g ([.agg (x.enc.map .d), .agg (y.enc.map .d)] ++ caps) E0 (.ok (iA (c x y))) E0 := fun x y => by rw [← hE0]; exact hc.at ver L x y
  refine Does.of_awp (hint := (fun _ => false)) Try.func63 (by kernel_rfl) rfl [] (by kernel_rfl) (by decide) (by simp [Try.ntmps63]) ?_
  rw [Try.ntmps63]
  obtain ⟨x, rfl⟩ : ∃ x, X = [x] := List.length_eq_one_iff.1 h1
  simp (implicitDefEqProofs := false) only [↓reduceIte, go_sem, oread, owrite, Nat.reduceAdd, Nat.reduceSub, Nat.reduceMul, Nat.reduceLT, Nat.reduceLeDiff, Nat.reduceEqDiff, Nat.reduceBEq, Int.reduceLE, Int.reduceLT, Int.reduceEq, Int.reduceNe, Int.reduceAdd, Int.reduceSub, Int.reduceMul, Int.reduceNeg, Int.reduceToNat, Int.reduceNatCast, reduceCtorEq, eq_self, w1, h1, List.length_singleton]
  refine awp_loop _ _ _ _ (fun (z : Nat × Nat) s H' => H' = E0 ∧ z.1 ≤ z.2 ∧ z.2 ≤ Y.length ∧ (z.1 = 0 ∨ ∃ y, Y[z.1 - 1]? = some y ∧ ltC c y x = true) ∧ (z.2 = Y.length ∨ ∃ y, Y[z.2]? = some y ∧ ltC c y x = false) ∧
    s 0 = .sl id ver 0 n ∧ s 1 = iA a ∧ s 4 = .fn g caps ∧ s 10 = iA ((m + z.1 : Nat) : Int) ∧ s 11 = iA ((m + z.2 : Nat) : Int)) (fun z => z.2 - z.1) (0, Y.length) (Weak.refl _ _) ?_ ?_
  · refine ⟨rfl, Nat.zero_le _, Nat.le_refl _, .inl rfl, .inl rfl, ?_⟩
    simp (implicitDefEqProofs := false) only [↓reduceIte, go_sem, oread, owrite, Nat.reduceAdd, Nat.reduceSub, Nat.reduceMul, Nat.reduceLT, Nat.reduceLeDiff, Nat.reduceEqDiff, Nat.reduceBEq, Int.reduceLE, Int.reduceLT, Int.reduceEq, Int.reduceNe, Int.reduceAdd, Int.reduceSub, Int.reduceMul, Int.reduceNeg, Int.reduceToNat, Int.reduceNatCast, reduceCtorEq, eq_self, show m + Y.length = b by omega, Nat.add_zero]
  · rintro ⟨i, j⟩ s H' ⟨rfl, hij, hj, hlo, hhi, t0, t1, t4, t10, t11⟩
    simp only at hij hj hlo hhi t10 t11
    obtain ⟨i', hi'⟩ : ∃ i', i' = m + i := ⟨_, rfl⟩
    obtain ⟨j', hj'⟩ : ∃ j', j' = m + j := ⟨_, rfl⟩
    rw [← hi'] at t10
    rw [← hj'] at t11
    have f1 : ((m : Int) + (i : Int)) = (i' : Int) := by omega
    have f2 : ((m : Int) + (j : Int)) = (j' : Int) := by omega
    by_cases hlt : i < j
    · obtain ⟨q, hq⟩ : ∃ q, q = i' + j' := ⟨_, rfl⟩
      have w3 : IntKind.i64.wrap ((i' : Int) + (j' : Int)) = (q : Int) := by rw [wrap64_in _ (by omega) (by omega)]; omega
      have w4 := half_eq q (by omega)
      obtain ⟨h, hh⟩ : ∃ h, h = q / 2 := ⟨_, rfl⟩
      rw [← hh] at w4
      obtain ⟨y, hy⟩ : ∃ y, Y[h - m]? = some y := ⟨_, List.getElem?_eq_getElem (show h - m < Y.length by omega)⟩
      have gy := get_enc (hLY _ _ hy)
      rw [show m + (h - m) = h by omega] at gy
      have gx := get_enc (hLX 0 x rfl)
      rw [Nat.add_zero] at gx
      have hd := hcE y x
      simp only [Val.enc] at gx gy
      simp only [Val.enc, List.map_cons, List.map_nil] at hd
      have hln : h < n := by omega
      have han : a < n := by omega
      simp (implicitDefEqProofs := false) only [↓reduceIte, go_sem, oread, owrite, Nat.reduceAdd, Nat.reduceSub, Nat.reduceMul, Nat.reduceLT, Nat.reduceLeDiff, Nat.reduceEqDiff, Nat.reduceBEq, Int.reduceLE, Int.reduceLT, Int.reduceEq, Int.reduceNe, Int.reduceAdd, Int.reduceSub, Int.reduceMul, Int.reduceNeg, Int.reduceToNat, Int.reduceNatCast, reduceCtorEq, eq_self, t10, t11, show ((i' : Int) < (j' : Int)) = True from eq_true (by omega), w3, w4]
      refine awp_draw K.mixed (by kernel_rfl) ?_
      simp (implicitDefEqProofs := false) only [↓reduceIte, go_sem, oread, owrite, Nat.reduceAdd, Nat.reduceSub, Nat.reduceMul, Nat.reduceLT, Nat.reduceLeDiff, Nat.reduceEqDiff, Nat.reduceBEq, Int.reduceLE, Int.reduceLT, Int.reduceEq, Int.reduceNe, Int.reduceAdd, Int.reduceSub, Int.reduceMul, Int.reduceNeg, Int.reduceToNat, Int.reduceNatCast, reduceCtorEq, eq_self, t0, t1, t4, gh, gx, gy, hln, han]
      refine KCall.ok hd ?_
      by_cases hcc : c y x < 0
      · have hw5 : IntKind.i64.wrap ((h : Int) + 1) = ((m + (h - m + 1) : Nat) : Int) := by rw [wrap64_in _ (by omega) (by omega)]; omega
        obtain ⟨h2, hh2⟩ : ∃ h2, h2 = m + (h - m + 1) := ⟨_, rfl⟩
        rw [← hh2] at hw5
        simp (implicitDefEqProofs := false) only [↓reduceIte, go_sem, oread, owrite, Nat.reduceAdd, Nat.reduceSub, Nat.reduceMul, Nat.reduceLT, Nat.reduceLeDiff, Nat.reduceEqDiff, Nat.reduceBEq, Int.reduceLE, Int.reduceLT, Int.reduceEq, Int.reduceNe, Int.reduceAdd, Int.reduceSub, Int.reduceMul, Int.reduceNeg, Int.reduceToNat, Int.reduceNatCast, reduceCtorEq, eq_self, hcc, hw5]
        refine ⟨_, _, (h - m + 1, j), Weak.refl _ _, ⟨rfl, by simp only; omega, hj, .inr ⟨y, by simpa using hy, by simp [ltC, hcc]⟩, hhi, ?_⟩, by simp only; omega⟩
        simp (implicitDefEqProofs := false) only [↓reduceIte, go_sem, oread, owrite, Nat.reduceAdd, Nat.reduceSub, Nat.reduceMul, Nat.reduceLT, Nat.reduceLeDiff, Nat.reduceEqDiff, Nat.reduceBEq, Int.reduceLE, Int.reduceLT, Int.reduceEq, Int.reduceNe, Int.reduceAdd, Int.reduceSub, Int.reduceMul, Int.reduceNeg, Int.reduceToNat, Int.reduceNatCast, reduceCtorEq, eq_self, t0, t1, t4, t11, show ((m : Int) + (((h - m : Nat) : Int) + 1)) = (h2 : Int) by omega, f2]
      · simp (implicitDefEqProofs := false) only [↓reduceIte, go_sem, oread, owrite, Nat.reduceAdd, Nat.reduceSub, Nat.reduceMul, Nat.reduceLT, Nat.reduceLeDiff, Nat.reduceEqDiff, Nat.reduceBEq, Int.reduceLE, Int.reduceLT, Int.reduceEq, Int.reduceNe, Int.reduceAdd, Int.reduceSub, Int.reduceMul, Int.reduceNeg, Int.reduceToNat, Int.reduceNatCast, reduceCtorEq, eq_self, hcc]
        refine ⟨_, _, (i, h - m), Weak.refl _ _, ⟨rfl, by simp only; omega, by simp only; omega, hlo, .inr ⟨y, hy, by simp [ltC, hcc]⟩, ?_⟩, by simp only; omega⟩
        simp (implicitDefEqProofs := false) only [↓reduceIte, go_sem, oread, owrite, Nat.reduceAdd, Nat.reduceSub, Nat.reduceMul, Nat.reduceLT, Nat.reduceLeDiff, Nat.reduceEqDiff, Nat.reduceBEq, Int.reduceLE, Int.reduceLT, Int.reduceEq, Int.reduceNe, Int.reduceAdd, Int.reduceSub, Int.reduceMul, Int.reduceNeg, Int.reduceToNat, Int.reduceNatCast, reduceCtorEq, eq_self, t0, t1, t4, t10, show ((m : Int) + ((h - m : Nat) : Int)) = (h : Int) by omega, f1]
    · obtain rfl : j = i := by omega
      have hmg := St.merge_one ho hY hj hlo hhi
      have hw6 : IntKind.i64.wrap ((i' : Int) - 1) = (i' : Int) - 1 := wrap64_in _ (by omega) (by omega)
      simp (implicitDefEqProofs := false) only [↓reduceIte, go_sem, oread, owrite, Nat.reduceAdd, Nat.reduceSub, Nat.reduceMul, Nat.reduceLT, Nat.reduceLeDiff, Nat.reduceEqDiff, Nat.reduceBEq, Int.reduceLE, Int.reduceLT, Int.reduceEq, Int.reduceNe, Int.reduceAdd, Int.reduceSub, Int.reduceMul, Int.reduceNeg, Int.reduceToNat, Int.reduceNatCast, reduceCtorEq, eq_self, t10, t11, show ((i' : Int) < (j' : Int)) = False from eq_false (by omega), t1]
      refine awp_for3 (fun k s H' => (∃ Lk, H' = aH H id ver Lk ∧ Lk = P ++ Y.take k ++ x :: (Y.drop k ++ Q)) ∧ s 0 = .sl id ver 0 n ∧ s 10 = iA i' ∧ s 13 = iA ((a : Int) + (k : Int))) j (by omega) (Weak.refl _ _) ?_ ?_ ?_
      · refine ⟨⟨L, hE0.symm, by rw [hL]; simp⟩, ?_⟩
        simp (implicitDefEqProofs := false) only [↓reduceIte, go_sem, oread, owrite, Nat.reduceAdd, Nat.reduceSub, Nat.reduceMul, Nat.reduceLT, Nat.reduceLeDiff, Nat.reduceEqDiff, Nat.reduceBEq, Int.reduceLE, Int.reduceLT, Int.reduceEq, Int.reduceNe, Int.reduceAdd, Int.reduceSub, Int.reduceMul, Int.reduceNeg, Int.reduceToNat, Int.reduceNatCast, reduceCtorEq, eq_self, t0, t10, Int.add_zero]
      · rintro k s H' hk hw ⟨⟨Lk, rfl, hLk⟩, t0, t10, t13⟩
        have hkY : k < Y.length := by omega
        have e1 : Y.drop k = Y[k] :: Y.drop (k + 1) := List.drop_eq_getElem_cons hkY
        have e2 : Y.take (k + 1) = Y.take k ++ [Y[k]] := List.take_succ_eq_append_getElem hkY
        rw [e1] at hLk
        rw [e2]
        have l1 : (P ++ Y.take k).length = a + k := by simp; omega
        generalize Y[k] = y at *
        generalize Y.drop (k + 1) = Y1 at *
        generalize Y.take k = Y0 at *
        obtain ⟨u, hu⟩ : ∃ u, u = a + k := ⟨_, rfl⟩
        obtain ⟨v, hv⟩ : ∃ v, v = u + 1 := ⟨_, rfl⟩
        rw [← hu] at l1
        obtain ⟨g1, g2, g3, _, g5, _⟩ := swap_next (L := Lk) (P := P ++ Y0) (x := x) (y := y) (R := Y1 ++ Q) (by rw [hLk]; simp) l1
        rw [← hv] at g2 g3 g5
        have f3 : ((a : Int) + (k : Int)) = (u : Int) := by omega
        have hw7 : IntKind.i64.wrap ((u : Int) + 1) = (v : Int) := by rw [wrap64_in _ (by omega) (by omega)]; omega
        rw [f3] at t13
        have gg := aH_get hid ver Lk
        have q1 := get_enc g1
        have q2 := get_enc g2
        have q3 := get_enc g3
        have s1 := set_enc Lk u y
        have s2 := set_enc (Lk.set u y) v x
        rw [g5] at s2
        have hun : u < n := by omega
        have hvn : v < n := by omega
        simp only [Val.enc] at q1 q2 q3 s1 s2
        simp (implicitDefEqProofs := false) only [↓reduceIte, go_sem, oread, owrite, Nat.reduceAdd, Nat.reduceSub, Nat.reduceMul, Nat.reduceLT, Nat.reduceLeDiff, Nat.reduceEqDiff, Nat.reduceBEq, Int.reduceLE, Int.reduceLT, Int.reduceEq, Int.reduceNe, Int.reduceAdd, Int.reduceSub, Int.reduceMul, Int.reduceNeg, Int.reduceToNat, Int.reduceNatCast, reduceCtorEq, eq_self, t10, t13, hw6, show ((u : Int) < (i' : Int) - 1) = True from eq_true (by omega)]
        refine awp_drawN [false, false, false, false, false, false, false, false, false, false, false, false, false, false, true, true, true, true] 14 K.mixed (by kernel_rfl) (by kernel_rfl) (by kernel_rfl) ?_
        simp (implicitDefEqProofs := false) only [↓reduceIte, go_sem, oread, owrite, Nat.reduceAdd, Nat.reduceSub, Nat.reduceMul, Nat.reduceLT, Nat.reduceLeDiff, Nat.reduceEqDiff, Nat.reduceBEq, Int.reduceLE, Int.reduceLT, Int.reduceEq, Int.reduceNe, Int.reduceAdd, Int.reduceSub, Int.reduceMul, Int.reduceNeg, Int.reduceToNat, Int.reduceNatCast, reduceCtorEq, eq_self, t0, t13, hw7, hun, hvn, gg, q1, q2, q3, s1, s2, aH_set, aH_get hid, hid, List.getElem?_set_self, List.set_set]
        refine Rnd.same ⟨⟨_, by rw [← aH_fold], by simp⟩, ?_⟩
        simp (implicitDefEqProofs := false) only [↓reduceIte, go_sem, oread, owrite, Nat.reduceAdd, Nat.reduceSub, Nat.reduceMul, Nat.reduceLT, Nat.reduceLeDiff, Nat.reduceEqDiff, Nat.reduceBEq, Int.reduceLE, Int.reduceLT, Int.reduceEq, Int.reduceNe, Int.reduceAdd, Int.reduceSub, Int.reduceMul, Int.reduceNeg, Int.reduceToNat, Int.reduceNatCast, reduceCtorEq, eq_self, t0, t10, show ((a : Int) + ((k : Int) + 1)) = (v : Int) by omega]
      · rintro s H' ⟨⟨Lk, rfl, hLk⟩, t0, t10, t13⟩
        simp (implicitDefEqProofs := false) only [↓reduceIte, go_sem, oread, owrite, Nat.reduceAdd, Nat.reduceSub, Nat.reduceMul, Nat.reduceLT, Nat.reduceLeDiff, Nat.reduceEqDiff, Nat.reduceBEq, Int.reduceLE, Int.reduceLT, Int.reduceEq, Int.reduceNe, Int.reduceAdd, Int.reduceSub, Int.reduceMul, Int.reduceNeg, Int.reduceToNat, Int.reduceNatCast, reduceCtorEq, eq_self, t10, t13, hw6, show ((a : Int) + (j : Int) < (i' : Int) - 1) = False from eq_false (by omega)]
        have : Lk = L' := by rw [hLk, hL', List.singleton_append, ← hmg]; simp
        rw [this]
        exact ⟨_, Weak.refl _ _, rfl⟩
set_option maxRecDepth 10000 in
set_option maxHeartbeats 4000000 in
theorem sym2_does (H : AHeap) (id ver : Nat) (hid : id < H.length) (g : FuncId) (caps : List AV) (c : Val → Val → Int) (ho : St.Ord (ltC c)) (hc : CmpOk g caps c H id) (n : Nat) (hbig : n ≤ 1000000000000) (P X Y Q L L' : List Val) (a m b : Nat)
    (hL : L = P ++ X ++ Y ++ Q) (hL' : L' = P ++ St.sortS (ltC c) (X ++ Y) ++ Q) (ha : P.length = a) (hm : P.length + X.length = m) (hb : P.length + X.length + Y.length = b) (hX0 : 0 < X.length) (hY0 : 0 < Y.length) (hX : St.Sorted (ltC c) X) (hY : St.Sorted (ltC c) Y) (hn : L.length = n) (h1 : ¬ X.length = 1) (h2 : Y.length = 1) :
    Does Try.prog 63 [.sl id ver 0 n, iA a, iA m, iA b, .fn g caps] (aH H id ver L) (.ok (.tup [])) (aH H id ver L') := by
  have hnl : P.length + X.length + Y.length + Q.length = n := by rw [← hn, hL]; simp; omega
  have w1 : IntKind.i64.wrap ((m : Int) - (a : Int)) = ((X.length : Nat) : Int) := by rw [wrap64_in _ (by omega) (by omega)]; omega
  have w2 : IntKind.i64.wrap ((b : Int) - (m : Int)) = ((Y.length : Nat) : Int) := by rw [wrap64_in _ (by omega) (by omega)]; omega
  have hLX := memX hL ha
  have hLY := memY hL hm
  generalize hE0 : aH H id ver L = E0
  have gh := aH_get hid ver L
  rw [hE0] at gh
  have hcE : ∀ x y : Val, Does Try.prog g ([.agg (x.enc.map .d), .agg (y.enc.map .d)] ++ caps) E0 (.ok (iA (c x y))) E0 := fun x y => by rw [← hE0]; exact hc.at ver L x y
  refine Does.of_awp (hint := (fun _ => false)) Try.func63 (by kernel_rfl) rfl [] (by kernel_rfl) (by decide) (by simp [Try.ntmps63]) ?_
  rw [Try.ntmps63]
  obtain ⟨y, rfl⟩ : ∃ y, Y = [y] := List.length_eq_one_iff.1 h2
  simp (implicitDefEqProofs := false) only [↓reduceIte, go_sem, oread, owrite, Nat.reduceAdd, Nat.reduceSub, Nat.reduceMul, Nat.reduceLT, Nat.reduceLeDiff, Nat.reduceEqDiff, Nat.reduceBEq, Int.reduceLE, Int.reduceLT, Int.reduceEq, Int.reduceNe, Int.reduceAdd, Int.reduceSub, Int.reduceMul, Int.reduceNeg, Int.reduceToNat, Int.reduceNatCast, reduceCtorEq, eq_self, w1, w2, show (((X.length : Nat) : Int) = 1) = False from eq_false (by omega), h2, List.length_singleton]
  refine awp_loop _ _ _ _ (fun (z : Nat × Nat) s H' => H' = E0 ∧ z.1 ≤ z.2 ∧ z.2 ≤ X.length ∧ (z.1 = 0 ∨ ∃ x, X[z.1 - 1]? = some x ∧ ltC c y x = false) ∧ (z.2 = X.length ∨ ∃ x, X[z.2]? = some x ∧ ltC c y x = true) ∧
    s 0 = .sl id ver 0 n ∧ s 2 = iA m ∧ s 4 = .fn g caps ∧ s 14 = iA ((a + z.1 : Nat) : Int) ∧ s 15 = iA ((a + z.2 : Nat) : Int)) (fun z => z.2 - z.1) (0, X.length) (Weak.refl _ _) ?_ ?_
  · refine ⟨rfl, Nat.zero_le _, Nat.le_refl _, .inl rfl, .inl rfl, ?_⟩
    simp (implicitDefEqProofs := false) only [↓reduceIte, go_sem, oread, owrite, Nat.reduceAdd, Nat.reduceSub, Nat.reduceMul, Nat.reduceLT, Nat.reduceLeDiff, Nat.reduceEqDiff, Nat.reduceBEq, Int.reduceLE, Int.reduceLT, Int.reduceEq, Int.reduceNe, Int.reduceAdd, Int.reduceSub, Int.reduceMul, Int.reduceNeg, Int.reduceToNat, Int.reduceNatCast, reduceCtorEq, eq_self, show ((a : Int) + ((X.length : Nat) : Int)) = (m : Int) by omega, Nat.add_zero]
  · rintro ⟨i, j⟩ s H' ⟨rfl, hij, hj, hlo, hhi, t0, t2, t4, t14, t15⟩
    simp only at hij hj hlo hhi t14 t15
    obtain ⟨i', hi'⟩ : ∃ i', i' = a + i := ⟨_, rfl⟩
    obtain ⟨j', hj'⟩ : ∃ j', j' = a + j := ⟨_, rfl⟩
    rw [← hi'] at t14
    rw [← hj'] at t15
    have f1 : ((a : Int) + (i : Int)) = (i' : Int) := by omega
    have f2 : ((a : Int) + (j : Int)) = (j' : Int) := by omega
    by_cases hlt : i < j
    · obtain ⟨q, hq⟩ : ∃ q, q = i' + j' := ⟨_, rfl⟩
      have w3 : IntKind.i64.wrap ((i' : Int) + (j' : Int)) = (q : Int) := by rw [wrap64_in _ (by omega) (by omega)]; omega
      have w4 := half_eq q (by omega)
      obtain ⟨h, hh⟩ : ∃ h, h = q / 2 := ⟨_, rfl⟩
      rw [← hh] at w4
      obtain ⟨x, hx⟩ : ∃ x, X[h - a]? = some x := ⟨_, List.getElem?_eq_getElem (show h - a < X.length by omega)⟩
      have gx := get_enc (hLX _ _ hx)
      rw [show a + (h - a) = h by omega] at gx
      have gy := get_enc (hLY 0 y rfl)
      rw [Nat.add_zero] at gy
      have hd := hcE y x
      simp only [Val.enc] at gx gy
      simp only [Val.enc, List.map_cons, List.map_nil] at hd
      have hln : h < n := by omega
      have hmn : m < n := by omega
      simp (implicitDefEqProofs := false) only [↓reduceIte, go_sem, oread, owrite, Nat.reduceAdd, Nat.reduceSub, Nat.reduceMul, Nat.reduceLT, Nat.reduceLeDiff, Nat.reduceEqDiff, Nat.reduceBEq, Int.reduceLE, Int.reduceLT, Int.reduceEq, Int.reduceNe, Int.reduceAdd, Int.reduceSub, Int.reduceMul, Int.reduceNeg, Int.reduceToNat, Int.reduceNatCast, reduceCtorEq, eq_self, t14, t15, show ((i' : Int) < (j' : Int)) = True from eq_true (by omega), w3, w4]
      refine awp_draw K.mixed (by kernel_rfl) ?_
      simp (implicitDefEqProofs := false) only [↓reduceIte, go_sem, oread, owrite, Nat.reduceAdd, Nat.reduceSub, Nat.reduceMul, Nat.reduceLT, Nat.reduceLeDiff, Nat.reduceEqDiff, Nat.reduceBEq, Int.reduceLE, Int.reduceLT, Int.reduceEq, Int.reduceNe, Int.reduceAdd, Int.reduceSub, Int.reduceMul, Int.reduceNeg, Int.reduceToNat, Int.reduceNatCast, reduceCtorEq, eq_self, t0, t2, t4, gh, gx, gy, hln, hmn]
      refine KCall.ok hd ?_
      by_cases hcc : c y x < 0
      · simp (implicitDefEqProofs := false) only [↓reduceIte, go_sem, oread, owrite, Nat.reduceAdd, Nat.reduceSub, Nat.reduceMul, Nat.reduceLT, Nat.reduceLeDiff, Nat.reduceEqDiff, Nat.reduceBEq, Int.reduceLE, Int.reduceLT, Int.reduceEq, Int.reduceNe, Int.reduceAdd, Int.reduceSub, Int.reduceMul, Int.reduceNeg, Int.reduceToNat, Int.reduceNatCast, reduceCtorEq, eq_self, hcc]
        refine ⟨_, _, (i, h - a), Weak.refl _ _, ⟨rfl, by simp only; omega, by simp only; omega, hlo, .inr ⟨x, hx, by simp [ltC, hcc]⟩, ?_⟩, by simp only; omega⟩
        simp (implicitDefEqProofs := false) only [↓reduceIte, go_sem, oread, owrite, Nat.reduceAdd, Nat.reduceSub, Nat.reduceMul, Nat.reduceLT, Nat.reduceLeDiff, Nat.reduceEqDiff, Nat.reduceBEq, Int.reduceLE, Int.reduceLT, Int.reduceEq, Int.reduceNe, Int.reduceAdd, Int.reduceSub, Int.reduceMul, Int.reduceNeg, Int.reduceToNat, Int.reduceNatCast, reduceCtorEq, eq_self, t0, t2, t4, t14, show ((a : Int) + ((h - a : Nat) : Int)) = (h : Int) by omega, f1]
      · have hw5 : IntKind.i64.wrap ((h : Int) + 1) = ((a + (h - a + 1) : Nat) : Int) := by rw [wrap64_in _ (by omega) (by omega)]; omega
        obtain ⟨h2, hh2⟩ : ∃ h2, h2 = a + (h - a + 1) := ⟨_, rfl⟩
        rw [← hh2] at hw5
        simp (implicitDefEqProofs := false) only [↓reduceIte, go_sem, oread, owrite, Nat.reduceAdd, Nat.reduceSub, Nat.reduceMul, Nat.reduceLT, Nat.reduceLeDiff, Nat.reduceEqDiff, Nat.reduceBEq, Int.reduceLE, Int.reduceLT, Int.reduceEq, Int.reduceNe, Int.reduceAdd, Int.reduceSub, Int.reduceMul, Int.reduceNeg, Int.reduceToNat, Int.reduceNatCast, reduceCtorEq, eq_self, hcc, hw5]
        refine ⟨_, _, (h - a + 1, j), Weak.refl _ _, ⟨rfl, by simp only; omega, hj, .inr ⟨x, by simpa using hx, by simp [ltC, hcc]⟩, hhi, ?_⟩, by simp only; omega⟩
        simp (implicitDefEqProofs := false) only [↓reduceIte, go_sem, oread, owrite, Nat.reduceAdd, Nat.reduceSub, Nat.reduceMul, Nat.reduceLT, Nat.reduceLeDiff, Nat.reduceEqDiff, Nat.reduceBEq, Int.reduceLE, Int.reduceLT, Int.reduceEq, Int.reduceNe, Int.reduceAdd, Int.reduceSub, Int.reduceMul, Int.reduceNeg, Int.reduceToNat, Int.reduceNatCast, reduceCtorEq, eq_self, t0, t2, t4, t15, show ((a : Int) + (((h - a : Nat) : Int) + 1)) = (h2 : Int) by omega, f2]
    · obtain rfl : j = i := by omega
      have hmg := St.merge_last ho hX hj hhi hlo
      simp (implicitDefEqProofs := false) only [↓reduceIte, go_sem, oread, owrite, Nat.reduceAdd, Nat.reduceSub, Nat.reduceMul, Nat.reduceLT, Nat.reduceLeDiff, Nat.reduceEqDiff, Nat.reduceBEq, Int.reduceLE, Int.reduceLT, Int.reduceEq, Int.reduceNe, Int.reduceAdd, Int.reduceSub, Int.reduceMul, Int.reduceNeg, Int.reduceToNat, Int.reduceNatCast, reduceCtorEq, eq_self, t14, t15, show ((i' : Int) < (j' : Int)) = False from eq_false (by omega), t2]
      refine awp_loop _ _ _ _ (fun (k : Nat) s H' => k ≤ X.length - j ∧ (∃ Lk, H' = aH H id ver Lk ∧ Lk = P ++ X.take (j + k) ++ y :: (X.drop (j + k) ++ Q)) ∧ s 0 = .sl id ver 0 n ∧ s 14 = iA i' ∧ s 17 = iA ((i' : Int) + (k : Int))) (fun k => k) (X.length - j) (Weak.refl _ _) ?_ ?_
      · refine ⟨Nat.le_refl _, ⟨L, hE0.symm, ?_⟩, ?_⟩
        · rw [show j + (X.length - j) = X.length by omega, List.take_length, List.drop_length, hL]; simp
        · simp (implicitDefEqProofs := false) only [↓reduceIte, go_sem, oread, owrite, Nat.reduceAdd, Nat.reduceSub, Nat.reduceMul, Nat.reduceLT, Nat.reduceLeDiff, Nat.reduceEqDiff, Nat.reduceBEq, Int.reduceLE, Int.reduceLT, Int.reduceEq, Int.reduceNe, Int.reduceAdd, Int.reduceSub, Int.reduceMul, Int.reduceNeg, Int.reduceToNat, Int.reduceNatCast, reduceCtorEq, eq_self, t0, t14, show ((i' : Int) + ((X.length - j : Nat) : Int)) = (m : Int) by omega]
      · rintro k s H' ⟨hkx, ⟨Lk, rfl, hLk⟩, t0, t14, t17⟩
        cases k with
        | zero =>
          simp (implicitDefEqProofs := false) only [↓reduceIte, go_sem, oread, owrite, Nat.reduceAdd, Nat.reduceSub, Nat.reduceMul, Nat.reduceLT, Nat.reduceLeDiff, Nat.reduceEqDiff, Nat.reduceBEq, Int.reduceLE, Int.reduceLT, Int.reduceEq, Int.reduceNe, Int.reduceAdd, Int.reduceSub, Int.reduceMul, Int.reduceNeg, Int.reduceToNat, Int.reduceNatCast, reduceCtorEq, eq_self, t14, t17, show ((i' : Int) < (i' : Int) + 0) = False from eq_false (by omega), Int.add_zero, Int.lt_irrefl]
          have : Lk = L' := by rw [hLk, hL', Nat.add_zero, ← hmg]; simp
          rw [this]
          exact ⟨_, Weak.refl _ _, rfl⟩
        | succ k =>
          have hkX : j + k < X.length := by omega
          have e1 : X.drop (j + k) = X[j + k] :: X.drop (j + k + 1) := List.drop_eq_getElem_cons hkX
          have e2 : X.take (j + k + 1) = X.take (j + k) ++ [X[j + k]] := List.take_succ_eq_append_getElem hkX
          rw [show j + (k + 1) = j + k + 1 by omega, e2] at hLk
          have l1 : (P ++ X.take (j + k)).length = i' + k := by simp; omega
          obtain ⟨u, hu⟩ : ∃ u, u = i' + k := ⟨_, rfl⟩
          obtain ⟨v, hv⟩ : ∃ v, v = u + 1 := ⟨_, rfl⟩
          rw [← hu] at l1
          have fk : ((i' : Int) + ((k + 1 : Nat) : Int)) = (v : Int) := by omega
          have fk2 : ((i' : Int) + (k : Int)) = (u : Int) := by omega
          rw [fk] at t17
          generalize X[j + k] = x at *
          generalize X.drop (j + k + 1) = X1 at *
          obtain ⟨g1, g2, _, g4, _, g6⟩ := swap_next (L := Lk) (P := P ++ X.take (j + k)) (x := x) (y := y) (R := X1 ++ Q) (by rw [hLk]; simp) l1
          rw [← hv] at g2 g4 g6
          have hw7 : IntKind.i64.wrap ((v : Int) - 1) = (u : Int) := by rw [wrap64_in _ (by omega) (by omega)]; omega
          have gg := aH_get hid ver Lk
          have q1 := get_enc g1
          have q2 := get_enc g2
          have q4 := get_enc g4
          have s1 := set_enc Lk v x
          have s2 := set_enc (Lk.set v x) u y
          rw [g6] at s2
          have hun : u < n := by omega
          have hvn : v < n := by omega
          simp only [Val.enc] at q1 q2 q4 s1 s2
          simp (implicitDefEqProofs := false) only [↓reduceIte, go_sem, oread, owrite, Nat.reduceAdd, Nat.reduceSub, Nat.reduceMul, Nat.reduceLT, Nat.reduceLeDiff, Nat.reduceEqDiff, Nat.reduceBEq, Int.reduceLE, Int.reduceLT, Int.reduceEq, Int.reduceNe, Int.reduceAdd, Int.reduceSub, Int.reduceMul, Int.reduceNeg, Int.reduceToNat, Int.reduceNatCast, reduceCtorEq, eq_self, t14, t17, show ((i' : Int) < (v : Int)) = True from eq_true (by omega)]
          refine awp_drawN [false, false, false, false, false, false, false, false, false, false, false, false, false, false, true, true, true, true] 14 K.mixed (by kernel_rfl) (by kernel_rfl) (by kernel_rfl) ?_
          simp (implicitDefEqProofs := false) only [↓reduceIte, go_sem, oread, owrite, Nat.reduceAdd, Nat.reduceSub, Nat.reduceMul, Nat.reduceLT, Nat.reduceLeDiff, Nat.reduceEqDiff, Nat.reduceBEq, Int.reduceLE, Int.reduceLT, Int.reduceEq, Int.reduceNe, Int.reduceAdd, Int.reduceSub, Int.reduceMul, Int.reduceNeg, Int.reduceToNat, Int.reduceNatCast, reduceCtorEq, eq_self, t0, t17, hw7, hun, hvn, gg, q1, q2, q4, s1, s2, aH_set, aH_get hid, hid, List.getElem?_set_self, List.set_set]
          refine ⟨_, _, k, Weak.refl _ _, ⟨by omega, ⟨_, by rw [← aH_fold], by rw [e1]; simp⟩, ?_⟩, by omega⟩
          simp (implicitDefEqProofs := false) only [↓reduceIte, go_sem, oread, owrite, Nat.reduceAdd, Nat.reduceSub, Nat.reduceMul, Nat.reduceLT, Nat.reduceLeDiff, Nat.reduceEqDiff, Nat.reduceBEq, Int.reduceLE, Int.reduceLT, Int.reduceEq, Int.reduceNe, Int.reduceAdd, Int.reduceSub, Int.reduceMul, Int.reduceNeg, Int.reduceToNat, Int.reduceNatCast, reduceCtorEq, eq_self, t0, t14, fk2]
end SV
end Go.Proofs.Ytkapgooedfompaa
namespace Go.Proofs.Ytkapgooedfompaa
open Go.Proofs.YtkapgooedfompaaAw Go.RowKit
set_option linter.unusedVariables false
set_option linter.unusedSimpArgs false
namespace SV
/-- Hidden from the arithmetic. -/
def Hid (p : Prop) : Prop := p
theorem sym_arith {a m b q mid n0 s0 r0 lx ly : Nat} (hm : a + lx = m) (hb : a + lx + ly = b) (hq : q = a + b) (hmid : mid = q / 2) (hn0 : n0 = mid + m) (hs0 : s0 = if mid < m then n0 - b else a) (hr0 : r0 = if mid < m then mid else m) (hx : 0 < lx) (hy : 0 < ly) (h1 : ¬ lx = 1) :
    (s0 ≤ r0 ∧ a ≤ s0 ∧ r0 ≤ m ∧ r0 ≤ mid) ∧ (n0 ≤ b + s0 ∧ mid < b ∧ a < mid) ∧ Hid (r0 = m ∨ n0 = m + r0) ∧ Hid (s0 = a ∨ n0 = b + s0) ∧ m + r0 ≤ n0 ∧ (mid < m → b ≤ n0) := by
  by_cases h : mid < m
  · rw [if_pos h] at hs0 hr0; unfold Hid; omega
  · rw [if_neg h] at hs0 hr0; unfold Hid; omega
set_option maxRecDepth 10000 in
set_option maxHeartbeats 4000000 in
theorem sym3_does (H : AHeap) (id ver : Nat) (hid : id < H.length) (g : FuncId) (caps : List AV) (c : Val → Val → Int) (ho : St.Ord (ltC c)) (hc : CmpOk g caps c H id) (n : Nat) (hbig : n ≤ 1000000000000) (P X Y Q L L' : List Val) (a m b : Nat)
    (hL : L = P ++ X ++ Y ++ Q) (hL' : L' = P ++ St.sortS (ltC c) (X ++ Y) ++ Q) (ha : P.length = a) (hm : P.length + X.length = m) (hb : P.length + X.length + Y.length = b) (hX0 : 0 < X.length) (hY0 : 0 < Y.length) (hX : St.Sorted (ltC c) X) (hY : St.Sorted (ltC c) Y) (hn : L.length = n) (h1 : ¬ X.length = 1) (h2 : ¬ Y.length = 1)
    (ih : ∀ (P' X' Y' Q' L1 L2 : List Val) (a' m' b' : Nat), X'.length + Y'.length < X.length + Y.length → L1 = P' ++ X' ++ Y' ++ Q' → L2 = P' ++ St.sortS (ltC c) (X' ++ Y') ++ Q' → P'.length = a' → P'.length + X'.length = m' → P'.length + X'.length + Y'.length = b' → 0 < X'.length → 0 < Y'.length →
      St.Sorted (ltC c) X' → St.Sorted (ltC c) Y' → L1.length = n → Does Try.prog 63 [.sl id ver 0 n, iA a', iA m', iA b', .fn g caps] (aH H id ver L1) (.ok (.tup [])) (aH H id ver L2)) :
    Does Try.prog 63 [.sl id ver 0 n, iA a, iA m, iA b, .fn g caps] (aH H id ver L) (.ok (.tup [])) (aH H id ver L') := by
  have hnl : P.length + X.length + Y.length + Q.length = n := by rw [← hn, hL]; simp; omega
  have w1 : IntKind.i64.wrap ((m : Int) - (a : Int)) = ((X.length : Nat) : Int) := by rw [wrap64_in _ (by omega) (by omega)]; omega
  have w2 : IntKind.i64.wrap ((b : Int) - (m : Int)) = ((Y.length : Nat) : Int) := by rw [wrap64_in _ (by omega) (by omega)]; omega
  have hLX := memX hL ha
  have hLY := memY hL hm
  generalize hE0 : aH H id ver L = E0
  have gh := aH_get hid ver L
  rw [hE0] at gh
  have hcE : ∀ x y : Val, Does Try.prog g ([.agg (x.enc.map .d), .agg (y.enc.map .d)] ++ caps) E0 (.ok (iA (c x y))) E0 := fun x y => by rw [← hE0]; exact hc.at ver L x y
  refine Does.of_awp (hint := (fun _ => false)) Try.func63 (by kernel_rfl) rfl [] (by kernel_rfl) (by decide) (by simp [Try.ntmps63]) ?_
  rw [Try.ntmps63]
  obtain ⟨q, hq⟩ : ∃ q, q = a + b := ⟨_, rfl⟩
  obtain ⟨mid, hmid⟩ : ∃ mid, mid = q / 2 := ⟨_, rfl⟩
  obtain ⟨n0, hn0⟩ : ∃ n0, n0 = mid + m := ⟨_, rfl⟩
  obtain ⟨p, hp⟩ : ∃ p, p = n0 - 1 := ⟨_, rfl⟩
  have w3 : IntKind.i64.wrap ((a : Int) + (b : Int)) = (q : Int) := by rw [wrap64_in _ (by omega) (by omega)]; omega
  have w4 := half_eq q (by omega)
  rw [← hmid] at w4
  have w5 : IntKind.i64.wrap ((mid : Int) + (m : Int)) = (n0 : Int) := by rw [wrap64_in _ (by omega) (by omega)]; omega
  have w6 : IntKind.i64.wrap ((n0 : Int) - 1) = (p : Int) := by rw [wrap64_in _ (by omega) (by omega)]; omega
  obtain ⟨s0, hs0⟩ : ∃ s0, s0 = if mid < m then n0 - b else a := ⟨_, rfl⟩
  obtain ⟨r0, hr0⟩ : ∃ r0, r0 = if mid < m then mid else m := ⟨_, rfl⟩
  obtain ⟨a1, a2, a3, a4, a5, a6⟩ := sym_arith (by omega) (by omega) hq hmid hn0 hs0 hr0 hX0 hY0 h1
  have w7 : mid < m → IntKind.i64.wrap ((n0 : Int) - (b : Int)) = (s0 : Int) := fun h => by have := a6 h; rw [if_pos h] at hs0; rw [wrap64_in _ (by omega) (by omega)]; omega
  simp (implicitDefEqProofs := false) only [↓reduceIte, go_sem, oread, owrite, Nat.reduceAdd, Nat.reduceSub, Nat.reduceMul, Nat.reduceLT, Nat.reduceLeDiff, Nat.reduceEqDiff, Nat.reduceBEq, Int.reduceLE, Int.reduceLT, Int.reduceEq, Int.reduceNe, Int.reduceAdd, Int.reduceSub, Int.reduceMul, Int.reduceNeg, Int.reduceToNat, Int.reduceNatCast, reduceCtorEq, eq_self, w1, w2, show (((X.length : Nat) : Int) = 1) = False from eq_false (by omega), show (((Y.length : Nat) : Int) = 1) = False from eq_false (by omega), w3, w4, w5]
  refine acond_cut (fun s H' => H' = E0 ∧ s 0 = .sl id ver 0 n ∧ s 1 = iA a ∧ s 2 = iA m ∧ s 3 = iA b ∧ s 4 = .fn g caps ∧ s 18 = iA mid ∧ s 19 = iA n0 ∧ s 20 = iA s0 ∧ s 21 = iA r0) rfl ?_ ?_
  · by_cases hmm : mid < m
    · simp (implicitDefEqProofs := false) only [↓reduceIte, go_sem, oread, owrite, Nat.reduceAdd, Nat.reduceSub, Nat.reduceMul, Nat.reduceLT, Nat.reduceLeDiff, Nat.reduceEqDiff, Nat.reduceBEq, Int.reduceLE, Int.reduceLT, Int.reduceEq, Int.reduceNe, Int.reduceAdd, Int.reduceSub, Int.reduceMul, Int.reduceNeg, Int.reduceToNat, Int.reduceNatCast, reduceCtorEq, eq_self, eq_true hmm, w7 hmm]
      rw [hr0, if_pos hmm]
    · simp (implicitDefEqProofs := false) only [↓reduceIte, go_sem, oread, owrite, Nat.reduceAdd, Nat.reduceSub, Nat.reduceMul, Nat.reduceLT, Nat.reduceLeDiff, Nat.reduceEqDiff, Nat.reduceBEq, Int.reduceLE, Int.reduceLT, Int.reduceEq, Int.reduceNe, Int.reduceAdd, Int.reduceSub, Int.reduceMul, Int.reduceNeg, Int.reduceToNat, Int.reduceNatCast, reduceCtorEq, eq_self, eq_false hmm]
      rw [hs0, hr0, if_neg hmm, if_neg hmm]
      exact ⟨rfl, rfl⟩
  · clear hs0 hr0 w3 w4 w5 w7 a6 hmid
    rintro s H' ⟨rfl, t0, t1, t2, t3, t4, t18, t19, t20, t21⟩
    simp (implicitDefEqProofs := false) only [↓reduceIte, go_sem, oread, owrite, Nat.reduceAdd, Nat.reduceSub, Nat.reduceMul, Nat.reduceLT, Nat.reduceLeDiff, Nat.reduceEqDiff, Nat.reduceBEq, Int.reduceLE, Int.reduceLT, Int.reduceEq, Int.reduceNe, Int.reduceAdd, Int.reduceSub, Int.reduceMul, Int.reduceNeg, Int.reduceToNat, Int.reduceNatCast, reduceCtorEq, eq_self, t19, w6]
    refine awp_cutB (fun s H1 => H1 = H' ∧ (∃ st, s0 ≤ st ∧ st ≤ r0 ∧ Hid (st = s0 ∨ ∃ x y, X[st - 1 - a]? = some x ∧ Y[n0 - st - m]? = some y ∧ ltC c y x = false) ∧ Hid (st = r0 ∨ ∃ x y, X[st - a]? = some x ∧ Y[p - st - m]? = some y ∧ ltC c y x = true) ∧ s 20 = iA st) ∧
      s 0 = .sl id ver 0 n ∧ s 1 = iA a ∧ s 2 = iA m ∧ s 3 = iA b ∧ s 4 = .fn g caps ∧ s 18 = iA mid ∧ s 19 = iA n0) rfl ?_ ?_
    · refine awp_loop _ _ _ _ (fun (z : Nat × Nat) s H1 => H1 = H' ∧ s0 ≤ z.1 ∧ z.1 ≤ z.2 ∧ z.2 ≤ r0 ∧ Hid (z.1 = s0 ∨ ∃ x y, X[z.1 - 1 - a]? = some x ∧ Y[n0 - z.1 - m]? = some y ∧ ltC c y x = false) ∧ Hid (z.2 = r0 ∨ ∃ x y, X[z.2 - a]? = some x ∧ Y[p - z.2 - m]? = some y ∧ ltC c y x = true) ∧
        s 0 = .sl id ver 0 n ∧ s 1 = iA a ∧ s 2 = iA m ∧ s 3 = iA b ∧ s 4 = .fn g caps ∧ s 18 = iA mid ∧ s 19 = iA n0 ∧ s 20 = iA z.1 ∧ s 21 = iA z.2 ∧ s 22 = iA p) (fun z => z.2 - z.1) (s0, r0) (Weak.refl _ _) ?_ ?_
      · refine ⟨rfl, Nat.le_refl _, a1.1, Nat.le_refl _, .inl rfl, .inl rfl, ?_⟩
        simp (implicitDefEqProofs := false) only [↓reduceIte, go_sem, oread, owrite, Nat.reduceAdd, Nat.reduceSub, Nat.reduceMul, Nat.reduceLT, Nat.reduceLeDiff, Nat.reduceEqDiff, Nat.reduceBEq, Int.reduceLE, Int.reduceLT, Int.reduceEq, Int.reduceNe, Int.reduceAdd, Int.reduceSub, Int.reduceMul, Int.reduceNeg, Int.reduceToNat, Int.reduceNatCast, reduceCtorEq, eq_self, t0, t1, t2, t3, t4, t18, t19, t20, t21]
      · rintro ⟨i, j⟩ s H1 ⟨rfl, hi0, hij, hj0, hlo, hhi, t0, t1, t2, t3, t4, t18, t19, t20, t21, t22⟩
        simp only at hi0 hij hj0 hlo hhi t20 t21
        by_cases hlt : i < j
        · obtain ⟨qq, hqq⟩ : ∃ qq, qq = i + j := ⟨_, rfl⟩
          have v3 : IntKind.i64.wrap ((i : Int) + (j : Int)) = (qq : Int) := by rw [wrap64_in _ (by omega) (by omega)]; omega
          have v4 := half_eq qq (by omega)
          obtain ⟨h, hh⟩ : ∃ h, h = qq / 2 := ⟨_, rfl⟩
          rw [← hh] at v4
          have hpc : m ≤ p - h ∧ p - h < b ∧ h < m ∧ a ≤ h := by omega
          obtain ⟨pc, hpc2⟩ : ∃ pc, pc = p - h := ⟨_, rfl⟩
          have v5 : IntKind.i64.wrap ((p : Int) - (h : Int)) = (pc : Int) := by rw [wrap64_in _ (by omega) (by omega)]; omega
          obtain ⟨x, hx⟩ : ∃ x, X[h - a]? = some x := ⟨_, List.getElem?_eq_getElem (show h - a < X.length by omega)⟩
          obtain ⟨y, hy⟩ : ∃ y, Y[pc - m]? = some y := ⟨_, List.getElem?_eq_getElem (show pc - m < Y.length by omega)⟩
          have gx := get_enc (hLX _ _ hx)
          rw [show a + (h - a) = h by omega] at gx
          have gy := get_enc (hLY _ _ hy)
          rw [show m + (pc - m) = pc by omega] at gy
          have hd := hcE y x
          simp only [Val.enc] at gx gy
          simp only [Val.enc, List.map_cons, List.map_nil] at hd
          have hln : h < n := by omega
          have hpn : pc < n := by omega
          simp (implicitDefEqProofs := false) only [↓reduceIte, go_sem, oread, owrite, Nat.reduceAdd, Nat.reduceSub, Nat.reduceMul, Nat.reduceLT, Nat.reduceLeDiff, Nat.reduceEqDiff, Nat.reduceBEq, Int.reduceLE, Int.reduceLT, Int.reduceEq, Int.reduceNe, Int.reduceAdd, Int.reduceSub, Int.reduceMul, Int.reduceNeg, Int.reduceToNat, Int.reduceNatCast, reduceCtorEq, eq_self, t20, t21, eq_true hlt, v3, v4]
          refine awp_draw K.mixed (by kernel_rfl) ?_
          simp (implicitDefEqProofs := false) only [↓reduceIte, go_sem, oread, owrite, Nat.reduceAdd, Nat.reduceSub, Nat.reduceMul, Nat.reduceLT, Nat.reduceLeDiff, Nat.reduceEqDiff, Nat.reduceBEq, Int.reduceLE, Int.reduceLT, Int.reduceEq, Int.reduceNe, Int.reduceAdd, Int.reduceSub, Int.reduceMul, Int.reduceNeg, Int.reduceToNat, Int.reduceNatCast, reduceCtorEq, eq_self, t0, t4, t22, gh, gx, gy, hln, hpn, v5]
          refine KCall.ok hd ?_
          by_cases hcc : c y x < 0
          · simp (implicitDefEqProofs := false) only [↓reduceIte, go_sem, oread, owrite, Nat.reduceAdd, Nat.reduceSub, Nat.reduceMul, Nat.reduceLT, Nat.reduceLeDiff, Nat.reduceEqDiff, Nat.reduceBEq, Int.reduceLE, Int.reduceLT, Int.reduceEq, Int.reduceNe, Int.reduceAdd, Int.reduceSub, Int.reduceMul, Int.reduceNeg, Int.reduceToNat, Int.reduceNatCast, reduceCtorEq, eq_self, hcc]
            refine ⟨_, _, (i, h), Weak.refl _ _, ⟨rfl, hi0, by simp only; omega, by simp only; omega, hlo, .inr ⟨x, y, hx, by rw [← hpc2]; exact hy, by simp [ltC, hcc]⟩, ?_⟩, by simp only; omega⟩
            simp (implicitDefEqProofs := false) only [↓reduceIte, go_sem, oread, owrite, Nat.reduceAdd, Nat.reduceSub, Nat.reduceMul, Nat.reduceLT, Nat.reduceLeDiff, Nat.reduceEqDiff, Nat.reduceBEq, Int.reduceLE, Int.reduceLT, Int.reduceEq, Int.reduceNe, Int.reduceAdd, Int.reduceSub, Int.reduceMul, Int.reduceNeg, Int.reduceToNat, Int.reduceNatCast, reduceCtorEq, eq_self, t0, t1, t2, t3, t4, t18, t19, t20, t22]
          · have v6 : IntKind.i64.wrap ((h : Int) + 1) = (h : Int) + 1 := wrap64_in _ (by omega) (by omega)
            simp (implicitDefEqProofs := false) only [↓reduceIte, go_sem, oread, owrite, Nat.reduceAdd, Nat.reduceSub, Nat.reduceMul, Nat.reduceLT, Nat.reduceLeDiff, Nat.reduceEqDiff, Nat.reduceBEq, Int.reduceLE, Int.reduceLT, Int.reduceEq, Int.reduceNe, Int.reduceAdd, Int.reduceSub, Int.reduceMul, Int.reduceNeg, Int.reduceToNat, Int.reduceNatCast, reduceCtorEq, eq_self, hcc, v6]
            refine ⟨_, _, (h + 1, j), Weak.refl _ _, ⟨rfl, by simp only; omega, by simp only; omega, hj0, .inr ⟨x, y, by simpa using hx, by rw [show n0 - (h + 1) - m = pc - m by omega]; exact hy, by simp [ltC, hcc]⟩, hhi, ?_⟩, by simp only; omega⟩
            simp (implicitDefEqProofs := false) only [↓reduceIte, go_sem, oread, owrite, Nat.reduceAdd, Nat.reduceSub, Nat.reduceMul, Nat.reduceLT, Nat.reduceLeDiff, Nat.reduceEqDiff, Nat.reduceBEq, Int.reduceLE, Int.reduceLT, Int.reduceEq, Int.reduceNe, Int.reduceAdd, Int.reduceSub, Int.reduceMul, Int.reduceNeg, Int.reduceToNat, Int.reduceNatCast, reduceCtorEq, eq_self, t0, t1, t2, t3, t4, t18, t19, t21, t22]
        · obtain rfl : j = i := by omega
          simp (implicitDefEqProofs := false) only [↓reduceIte, go_sem, oread, owrite, Nat.reduceAdd, Nat.reduceSub, Nat.reduceMul, Nat.reduceLT, Nat.reduceLeDiff, Nat.reduceEqDiff, Nat.reduceBEq, Int.reduceLE, Int.reduceLT, Int.reduceEq, Int.reduceNe, Int.reduceAdd, Int.reduceSub, Int.reduceMul, Int.reduceNeg, Int.reduceToNat, Int.reduceNatCast, reduceCtorEq, eq_self, t20, t21, Nat.lt_irrefl]
          exact ⟨⟨j, hi0, hj0, hlo, hhi, rfl⟩, t0, t1, t2, t3, t4, t18, t19⟩
    · rintro s H1 ⟨rfl, ⟨st, hst0, hst1, hlo, hhi, t20⟩, t0, t1, t2, t3, t4, t18, t19⟩
      clear w6
      obtain ⟨e, he⟩ : ∃ e, e = n0 - st := ⟨_, rfl⟩
      obtain ⟨sX, hsX⟩ : ∃ sX, sX = st - a := ⟨_, rfl⟩
      obtain ⟨eY, heY⟩ : ∃ eY, eY = e - m := ⟨_, rfl⟩
      have w8 : IntKind.i64.wrap ((n0 : Int) - (st : Int)) = (e : Int) := by rw [wrap64_in _ (by omega) (by omega)]; omega
      have b1 : sX ≤ X.length ∧ eY ≤ Y.length ∧ m ≤ e ∧ e ≤ b ∧ mid = st + eY ∧ e = mid + (m - st) := by omega
      have hcut := St.merge_cut ho hX hY (s := sX) (e := eY) b1.1 b1.2.1 ?_ ?_
      rotate_left
      · rcases hhi with h | ⟨x, y, hx, hy, h⟩
        · rcases a3 with h3 | h3
          · exact .inl (by omega)
          · exact .inr (.inl (by omega))
        · exact .inr (.inr ⟨x, y, by rw [hsX]; exact hx, by rw [show eY - 1 = p - st - m by omega]; exact hy, h⟩)
      · rcases hlo with h | ⟨x, y, hx, hy, h⟩
        · rcases a4 with h4 | h4
          · exact .inl (by omega)
          · exact .inr (.inl (by omega))
        · exact .inr (.inr ⟨x, y, by rw [show sX - 1 = st - 1 - a by omega]; exact hx, by rw [show eY = n0 - st - m by omega]; exact hy, h⟩)
      have hXs := hX
      have hYs := hY
      have eX : X.take sX ++ X.drop sX = X := List.take_append_drop _ _
      have eY' : Y.take eY ++ Y.drop eY = Y := List.take_append_drop _ _
      have lA : (X.take sX).length = sX := by rw [List.length_take]; omega
      have lU : (X.drop sX).length = X.length - sX := List.length_drop
      have lV : (Y.take eY).length = eY := by rw [List.length_take]; omega
      have lB : (Y.drop eY).length = Y.length - eY := List.length_drop
      rw [← eX] at hXs
      rw [← eY'] at hYs
      have sA := hXs.left
      have sU := hXs.right
      have sV := hYs.left
      have sB := hYs.right
      clear hXs hYs hlo hhi a3 a4
      generalize hA : X.take sX = A at *
      generalize hU : X.drop sX = U at *
      generalize hV : Y.take eY = V at *
      generalize hB : Y.drop eY = B at *
      have hLL : L = P ++ A ++ U ++ V ++ (B ++ Q) := by rw [hL, ← eX, ← eY']; simp
      obtain ⟨L1, hL1⟩ : ∃ L1, L1 = P ++ A ++ V ++ U ++ (B ++ Q) := ⟨_, rfl⟩
      obtain ⟨L2, hL2⟩ : ∃ L2, L2 = P ++ St.sortS (ltC c) (A ++ V) ++ U ++ B ++ Q := ⟨_, rfl⟩
      have hL3 : L' = P ++ St.sortS (ltC c) (A ++ V) ++ St.sortS (ltC c) (U ++ B) ++ Q := by rw [hL', ← hcut]; simp
      have n1 : L1.length = n := by rw [← hn, hLL, hL1]; simp; omega
      have n2 : L2.length = n := by rw [← hn, hLL, hL2]; simp [St.sortS_len]; omega
      rw [awp_seq]
      refine awp_cut (fun s H2 => H2 = aH H id ver L ∧ s 0 = .sl id ver 0 n ∧ s 1 = iA a ∧ s 2 = iA m ∧ s 3 = iA b ∧ s 4 = .fn g caps ∧ s 18 = iA mid ∧ s 20 = iA st ∧ s 24 = iA e) rfl (by simp (implicitDefEqProofs := false) only [↓reduceIte, go_sem, oread, owrite, Nat.reduceAdd, Nat.reduceSub, Nat.reduceMul, Nat.reduceLT, Nat.reduceLeDiff, Nat.reduceEqDiff, Nat.reduceBEq, Int.reduceLE, Int.reduceLT, Int.reduceEq, Int.reduceNe, Int.reduceAdd, Int.reduceSub, Int.reduceMul, Int.reduceNeg, Int.reduceToNat, Int.reduceNatCast, reduceCtorEq, eq_self, t0, t1, t2, t3, t4, t18, t19, t20, w8, hE0]) ?_
      rintro s H2 ⟨rfl, t0, t1, t2, t3, t4, t18, t20, t24⟩
      rw [awp_seq]
      refine awp_cut (fun s H2 => H2 = aH H id ver L1 ∧ s 0 = .sl id ver 0 n ∧ s 1 = iA a ∧ s 2 = iA m ∧ s 3 = iA b ∧ s 4 = .fn g caps ∧ s 18 = iA mid ∧ s 20 = iA st ∧ s 24 = iA e) rfl ?_ ?_
      · have same : U = [] ∨ V = [] → aH H id ver L = aH H id ver L1 := fun h => by
          rw [hL1, hLL]; rcases h with rfl | rfl <;> simp
        by_cases c1 : st < m
        · by_cases c2 : m < e
          · simp (implicitDefEqProofs := false) only [↓reduceIte, go_sem, oread, owrite, Nat.reduceAdd, Nat.reduceSub, Nat.reduceMul, Nat.reduceLT, Nat.reduceLeDiff, Nat.reduceEqDiff, Nat.reduceBEq, Int.reduceLE, Int.reduceLT, Int.reduceEq, Int.reduceNe, Int.reduceAdd, Int.reduceSub, Int.reduceMul, Int.reduceNeg, Int.reduceToNat, Int.reduceNatCast, reduceCtorEq, eq_self, t2, t20, t24, eq_true c1, eq_true c2]
            simp (implicitDefEqProofs := false) only [↓reduceIte, go_sem, oread, owrite, Nat.reduceAdd, Nat.reduceSub, Nat.reduceMul, Nat.reduceLT, Nat.reduceLeDiff, Nat.reduceEqDiff, Nat.reduceBEq, Int.reduceLE, Int.reduceLT, Int.reduceEq, Int.reduceNe, Int.reduceAdd, Int.reduceSub, Int.reduceMul, Int.reduceNeg, Int.reduceToNat, Int.reduceNatCast, reduceCtorEq, eq_self, t0, t2, t4, t20, t24]
            refine KCall.ok (rotate_does H id ver hid g caps (P ++ A) U V (B ++ Q) L L1 hLL (by rw [hL1]) st m e n (by simp; omega) (by simp; omega) (by simp; omega) (by omega) (by omega) hn hbig) ?_
            simp (implicitDefEqProofs := false) only [↓reduceIte, go_sem, oread, owrite, Nat.reduceAdd, Nat.reduceSub, Nat.reduceMul, Nat.reduceLT, Nat.reduceLeDiff, Nat.reduceEqDiff, Nat.reduceBEq, Int.reduceLE, Int.reduceLT, Int.reduceEq, Int.reduceNe, Int.reduceAdd, Int.reduceSub, Int.reduceMul, Int.reduceNeg, Int.reduceToNat, Int.reduceNatCast, reduceCtorEq, eq_self, t0, t1, t2, t3, t4, t18, t20, t24]
          · simp (implicitDefEqProofs := false) only [↓reduceIte, go_sem, oread, owrite, Nat.reduceAdd, Nat.reduceSub, Nat.reduceMul, Nat.reduceLT, Nat.reduceLeDiff, Nat.reduceEqDiff, Nat.reduceBEq, Int.reduceLE, Int.reduceLT, Int.reduceEq, Int.reduceNe, Int.reduceAdd, Int.reduceSub, Int.reduceMul, Int.reduceNeg, Int.reduceToNat, Int.reduceNatCast, reduceCtorEq, eq_self, t2, t20, t24, eq_true c1, eq_false c2]
            simp (implicitDefEqProofs := false) only [↓reduceIte, go_sem, oread, owrite, Nat.reduceAdd, Nat.reduceSub, Nat.reduceMul, Nat.reduceLT, Nat.reduceLeDiff, Nat.reduceEqDiff, Nat.reduceBEq, Int.reduceLE, Int.reduceLT, Int.reduceEq, Int.reduceNe, Int.reduceAdd, Int.reduceSub, Int.reduceMul, Int.reduceNeg, Int.reduceToNat, Int.reduceNatCast, reduceCtorEq, eq_self, t0, t1, t2, t3, t4, t18, t20, t24]
            exact same (.inr (List.eq_nil_of_length_eq_zero (by omega)))
        · simp (implicitDefEqProofs := false) only [↓reduceIte, go_sem, oread, owrite, Nat.reduceAdd, Nat.reduceSub, Nat.reduceMul, Nat.reduceLT, Nat.reduceLeDiff, Nat.reduceEqDiff, Nat.reduceBEq, Int.reduceLE, Int.reduceLT, Int.reduceEq, Int.reduceNe, Int.reduceAdd, Int.reduceSub, Int.reduceMul, Int.reduceNeg, Int.reduceToNat, Int.reduceNatCast, reduceCtorEq, eq_self, t2, t20, t24, eq_false c1]
          simp (implicitDefEqProofs := false) only [↓reduceIte, go_sem, oread, owrite, Nat.reduceAdd, Nat.reduceSub, Nat.reduceMul, Nat.reduceLT, Nat.reduceLeDiff, Nat.reduceEqDiff, Nat.reduceBEq, Int.reduceLE, Int.reduceLT, Int.reduceEq, Int.reduceNe, Int.reduceAdd, Int.reduceSub, Int.reduceMul, Int.reduceNeg, Int.reduceToNat, Int.reduceNatCast, reduceCtorEq, eq_self, t0, t1, t2, t3, t4, t18, t20, t24]
          exact same (.inl (List.eq_nil_of_length_eq_zero (by omega)))
      rintro s H2 ⟨rfl, t0, t1, t2, t3, t4, t18, t20, t24⟩
      rw [awp_seq]
      refine awp_cut (fun s H2 => H2 = aH H id ver L2 ∧ s 0 = .sl id ver 0 n ∧ s 3 = iA b ∧ s 4 = .fn g caps ∧ s 18 = iA mid ∧ s 24 = iA e) rfl ?_ ?_
      · have same : A = [] ∨ V = [] → aH H id ver L1 = aH H id ver L2 := fun h => by
          have : St.sortS (ltC c) (A ++ V) = A ++ V := by
            rcases h with rfl | rfl
            · simpa using St.sortS_self ho sV
            · simpa using St.sortS_self ho sA
          rw [hL1, hL2, this]; simp
        by_cases c1 : a < st
        · by_cases c2 : st < mid
          · simp (implicitDefEqProofs := false) only [↓reduceIte, go_sem, oread, owrite, Nat.reduceAdd, Nat.reduceSub, Nat.reduceMul, Nat.reduceLT, Nat.reduceLeDiff, Nat.reduceEqDiff, Nat.reduceBEq, Int.reduceLE, Int.reduceLT, Int.reduceEq, Int.reduceNe, Int.reduceAdd, Int.reduceSub, Int.reduceMul, Int.reduceNeg, Int.reduceToNat, Int.reduceNatCast, reduceCtorEq, eq_self, t1, t18, t20, eq_true c1, eq_true c2]
            simp (implicitDefEqProofs := false) only [↓reduceIte, go_sem, oread, owrite, Nat.reduceAdd, Nat.reduceSub, Nat.reduceMul, Nat.reduceLT, Nat.reduceLeDiff, Nat.reduceEqDiff, Nat.reduceBEq, Int.reduceLE, Int.reduceLT, Int.reduceEq, Int.reduceNe, Int.reduceAdd, Int.reduceSub, Int.reduceMul, Int.reduceNeg, Int.reduceToNat, Int.reduceNatCast, reduceCtorEq, eq_self, t0, t1, t4, t18, t20]
            refine KCall.ok (ih P A V (U ++ (B ++ Q)) L1 L2 a st mid (by omega) (by rw [hL1]; simp) (by rw [hL2]; simp) ha (by omega) (by omega) (by omega) (by omega) sA sV n1) ?_
            simp (implicitDefEqProofs := false) only [↓reduceIte, go_sem, oread, owrite, Nat.reduceAdd, Nat.reduceSub, Nat.reduceMul, Nat.reduceLT, Nat.reduceLeDiff, Nat.reduceEqDiff, Nat.reduceBEq, Int.reduceLE, Int.reduceLT, Int.reduceEq, Int.reduceNe, Int.reduceAdd, Int.reduceSub, Int.reduceMul, Int.reduceNeg, Int.reduceToNat, Int.reduceNatCast, reduceCtorEq, eq_self, t0, t1, t2, t3, t4, t18, t20, t24]
          · simp (implicitDefEqProofs := false) only [↓reduceIte, go_sem, oread, owrite, Nat.reduceAdd, Nat.reduceSub, Nat.reduceMul, Nat.reduceLT, Nat.reduceLeDiff, Nat.reduceEqDiff, Nat.reduceBEq, Int.reduceLE, Int.reduceLT, Int.reduceEq, Int.reduceNe, Int.reduceAdd, Int.reduceSub, Int.reduceMul, Int.reduceNeg, Int.reduceToNat, Int.reduceNatCast, reduceCtorEq, eq_self, t1, t18, t20, eq_true c1, eq_false c2]
            simp (implicitDefEqProofs := false) only [↓reduceIte, go_sem, oread, owrite, Nat.reduceAdd, Nat.reduceSub, Nat.reduceMul, Nat.reduceLT, Nat.reduceLeDiff, Nat.reduceEqDiff, Nat.reduceBEq, Int.reduceLE, Int.reduceLT, Int.reduceEq, Int.reduceNe, Int.reduceAdd, Int.reduceSub, Int.reduceMul, Int.reduceNeg, Int.reduceToNat, Int.reduceNatCast, reduceCtorEq, eq_self, t0, t1, t2, t3, t4, t18, t20, t24]
            exact same (.inr (List.eq_nil_of_length_eq_zero (by omega)))
        · simp (implicitDefEqProofs := false) only [↓reduceIte, go_sem, oread, owrite, Nat.reduceAdd, Nat.reduceSub, Nat.reduceMul, Nat.reduceLT, Nat.reduceLeDiff, Nat.reduceEqDiff, Nat.reduceBEq, Int.reduceLE, Int.reduceLT, Int.reduceEq, Int.reduceNe, Int.reduceAdd, Int.reduceSub, Int.reduceMul, Int.reduceNeg, Int.reduceToNat, Int.reduceNatCast, reduceCtorEq, eq_self, t1, t18, t20, eq_false c1]
          simp (implicitDefEqProofs := false) only [↓reduceIte, go_sem, oread, owrite, Nat.reduceAdd, Nat.reduceSub, Nat.reduceMul, Nat.reduceLT, Nat.reduceLeDiff, Nat.reduceEqDiff, Nat.reduceBEq, Int.reduceLE, Int.reduceLT, Int.reduceEq, Int.reduceNe, Int.reduceAdd, Int.reduceSub, Int.reduceMul, Int.reduceNeg, Int.reduceToNat, Int.reduceNatCast, reduceCtorEq, eq_self, t0, t1, t2, t3, t4, t18, t20, t24]
          exact same (.inl (List.eq_nil_of_length_eq_zero (by omega)))
      rintro s H2 ⟨rfl, t0, t3, t4, t18, t24⟩
      have same : U = [] ∨ B = [] → aH H id ver L2 = aH H id ver L' := fun h => by
        have : St.sortS (ltC c) (U ++ B) = U ++ B := by
          rcases h with rfl | rfl
          · simpa using St.sortS_self ho sB
          · simpa using St.sortS_self ho sU
        rw [hL2, hL3, this]; simp
      by_cases c1 : mid < e
      · by_cases c2 : e < b
        · simp (implicitDefEqProofs := false) only [↓reduceIte, go_sem, oread, owrite, Nat.reduceAdd, Nat.reduceSub, Nat.reduceMul, Nat.reduceLT, Nat.reduceLeDiff, Nat.reduceEqDiff, Nat.reduceBEq, Int.reduceLE, Int.reduceLT, Int.reduceEq, Int.reduceNe, Int.reduceAdd, Int.reduceSub, Int.reduceMul, Int.reduceNeg, Int.reduceToNat, Int.reduceNatCast, reduceCtorEq, eq_self, t3, t18, t24, eq_true c1, eq_true c2]
          simp (implicitDefEqProofs := false) only [↓reduceIte, go_sem, oread, owrite, Nat.reduceAdd, Nat.reduceSub, Nat.reduceMul, Nat.reduceLT, Nat.reduceLeDiff, Nat.reduceEqDiff, Nat.reduceBEq, Int.reduceLE, Int.reduceLT, Int.reduceEq, Int.reduceNe, Int.reduceAdd, Int.reduceSub, Int.reduceMul, Int.reduceNeg, Int.reduceToNat, Int.reduceNatCast, reduceCtorEq, eq_self, t0, t3, t4, t18, t24]
          have lS := St.sortS_len (lt := ltC c) (A ++ V)
          rw [List.length_append] at lS
          refine KCall.ok (ih (P ++ St.sortS (ltC c) (A ++ V)) U B Q L2 L' mid e b (by omega) (by rw [hL2]) (by rw [hL3]) (by simp; omega) (by simp; omega) (by simp; omega) (by omega) (by omega) sU sB n2) ?_
          simp (implicitDefEqProofs := false) only [↓reduceIte, go_sem, oread, owrite, Nat.reduceAdd, Nat.reduceSub, Nat.reduceMul, Nat.reduceLT, Nat.reduceLeDiff, Nat.reduceEqDiff, Nat.reduceBEq, Int.reduceLE, Int.reduceLT, Int.reduceEq, Int.reduceNe, Int.reduceAdd, Int.reduceSub, Int.reduceMul, Int.reduceNeg, Int.reduceToNat, Int.reduceNatCast, reduceCtorEq, eq_self]
          exact ⟨_, Weak.refl _ _, rfl⟩
        · simp (implicitDefEqProofs := false) only [↓reduceIte, go_sem, oread, owrite, Nat.reduceAdd, Nat.reduceSub, Nat.reduceMul, Nat.reduceLT, Nat.reduceLeDiff, Nat.reduceEqDiff, Nat.reduceBEq, Int.reduceLE, Int.reduceLT, Int.reduceEq, Int.reduceNe, Int.reduceAdd, Int.reduceSub, Int.reduceMul, Int.reduceNeg, Int.reduceToNat, Int.reduceNatCast, reduceCtorEq, eq_self, t3, t18, t24, eq_true c1, eq_false c2]
          rw [same (.inr (List.eq_nil_of_length_eq_zero (by omega)))]
          exact ⟨_, Weak.refl _ _, rfl⟩
      · simp (implicitDefEqProofs := false) only [↓reduceIte, go_sem, oread, owrite, Nat.reduceAdd, Nat.reduceSub, Nat.reduceMul, Nat.reduceLT, Nat.reduceLeDiff, Nat.reduceEqDiff, Nat.reduceBEq, Int.reduceLE, Int.reduceLT, Int.reduceEq, Int.reduceNe, Int.reduceAdd, Int.reduceSub, Int.reduceMul, Int.reduceNeg, Int.reduceToNat, Int.reduceNatCast, reduceCtorEq, eq_self, t3, t18, t24, eq_false c1]
        rw [same (.inl (List.eq_nil_of_length_eq_zero (by omega)))]
        exact ⟨_, Weak.refl _ _, rfl⟩
end SV
end Go.Proofs.Ytkapgooedfompaa
namespace Go.Proofs.Ytkapgooedfompaa
set_option linter.unusedVariables false
namespace St
variable {α : Type} {lt : α → α → Bool}
def blk (s j : Nat) (l : List α) : List α := (l.drop (j * s)).take s
theorem blk_front {s j k : Nat} {P R : List α} (hP : P.length = k * s) (hj : j < k) : blk s j (P ++ R) = (P.drop (j * s)).take s := by
  have h1 : (j + 1) * s ≤ k * s := Nat.mul_le_mul_right s hj
  rw [Nat.add_mul, Nat.one_mul] at h1
  unfold blk
  rw [List.drop_append_of_le_length (by omega), List.take_append_of_le_length (by rw [List.length_drop]; omega)]
theorem blk_at {s k : Nat} {P X Q : List α} (hP : P.length = k * s) (hX : X.length = s ∨ X.length ≤ s ∧ Q = []) : blk s k (P ++ X ++ Q) = X := by
  unfold blk
  rw [List.append_assoc, ← hP, List.drop_left]
  rcases hX with h | ⟨h, rfl⟩
  · rw [← h, List.take_left]
  · rw [List.append_nil, List.take_of_length_le h]
theorem drop_behind {P X Q : List α} {i : Nat} (h : P.length + X.length ≤ i) : (P ++ X ++ Q).drop i = Q.drop (i - (P.length + X.length)) := by
  rw [List.drop_append, List.drop_of_length_le (by rw [List.length_append]; exact h), List.nil_append, List.length_append]
theorem blk_behind {s j : Nat} {P X X' Q : List α} (hX : X.length = X'.length) (h : P.length + X.length ≤ j * s) : blk s j (P ++ X ++ Q) = blk s j (P ++ X' ++ Q) := by
  unfold blk
  rw [drop_behind h, drop_behind (by omega), hX]
theorem blk_out {s j : Nat} {l : List α} (h : l.length ≤ j * s) : blk s j l = [] := by
  unfold blk
  rw [List.drop_of_length_le h, List.take_nil]
/-- One block more. -/
theorem blk_more (ho : Ord lt) {s k : Nat} {P X Q : List α} (hP : P.length = k * s) (h : ∀ j, j < k → Sorted lt (blk s j (P ++ X ++ Q))) (hX : X.length = s ∨ X.length ≤ s ∧ Q = []) : ∀ j, j < k + 1 → Sorted lt (blk s j (P ++ sortS lt X ++ Q)) := by
  intro j hj
  rcases Nat.lt_or_ge j k with h1 | h1
  · have := h j h1
    rw [List.append_assoc, blk_front hP h1] at this ⊢
    exact this
  · obtain rfl : j = k := by omega
    rw [blk_at hP (by rw [sortS_len]; exact hX)]
    exact sortS_sorted ho X
theorem steq_part (ho : Ord lt) (P X Q : List α) : StEq lt (P ++ sortS lt X ++ Q) (P ++ X ++ Q) := StEq.app (StEq.app (.refl _) (sortS_steq ho X)) (.refl _)
/-- A list, cut at two places. -/
theorem cut3 (l : List α) (a s : Nat) : l.take a ++ (l.drop a).take s ++ l.drop (a + s) = l := by
  rw [List.append_assoc, ← List.drop_drop, List.take_append_drop, List.take_append_drop]
theorem cut4 (l : List α) (a s t : Nat) : l.take a ++ (l.drop a).take s ++ (l.drop (a + s)).take t ++ l.drop (a + s + t) = l := by
  have e : (l.drop (a + s)).take t ++ l.drop (a + s + t) = l.drop (a + s) := by
    have := List.take_append_drop t (l.drop (a + s))
    rwa [List.drop_drop] at this
  rw [List.append_assoc, e, cut3]
end St
end Go.Proofs.Ytkapgooedfompaa
namespace Go.Proofs.Ytkapgooedfompaa
open Go.Proofs.YtkapgooedfompaaAw Go.RowKit
set_option linter.unusedVariables false
set_option linter.unusedSimpArgs false
namespace SV
theorem symMerge_does (H : AHeap) (id ver : Nat) (hid : id < H.length) (g : FuncId) (caps : List AV) (c : Val → Val → Int) (ho : St.Ord (ltC c)) (hc : CmpOk g caps c H id) (n : Nat) (hbig : n ≤ 1000000000000) : ∀ (N : Nat) (P X Y Q L L' : List Val) (a m b : Nat), X.length + Y.length ≤ N →
    L = P ++ X ++ Y ++ Q → L' = P ++ St.sortS (ltC c) (X ++ Y) ++ Q → P.length = a → P.length + X.length = m → P.length + X.length + Y.length = b → 0 < X.length → 0 < Y.length → St.Sorted (ltC c) X → St.Sorted (ltC c) Y → L.length = n →
    Does Try.prog 63 [.sl id ver 0 n, iA a, iA m, iA b, .fn g caps] (aH H id ver L) (.ok (.tup [])) (aH H id ver L') := by
  intro N
  induction N with
  | zero => intros; omega
  | succ N ih =>
    intro P X Y Q L L' a m b hN hL hL' ha hm hb hX0 hY0 hX hY hn
    by_cases h1 : X.length = 1
    · exact sym1_does H id ver hid g caps c ho hc n hbig P X Y Q L L' a m b hL hL' ha hm hb hX0 hY0 hX hY hn h1
    · by_cases h2 : Y.length = 1
      · exact sym2_does H id ver hid g caps c ho hc n hbig P X Y Q L L' a m b hL hL' ha hm hb hX0 hY0 hX hY hn h1 h2
      · exact sym3_does H id ver hid g caps c ho hc n hbig P X Y Q L L' a m b hL hL' ha hm hb hX0 hY0 hX hY hn h1 h2 fun P' X' Y' Q' L1 L2 a' m' b' hlt => ih P' X' Y' Q' L1 L2 a' m' b' (by omega)
set_option maxRecDepth 10000 in
set_option maxHeartbeats 4000000 in
theorem stable_does (H : AHeap) (id ver : Nat) (hid : id < H.length) (g : FuncId) (caps : List AV) (c : Val → Val → Int) (ho : St.Ord (ltC c)) (hc : CmpOk g caps c H id) (n : Nat) (hbig : n ≤ 100000000000) (L : List Val) (hn : L.length = n) :
    Does Try.prog 41 [.sl id ver 0 n, iA n, .fn g caps] (aH H id ver L) (.ok (.tup [])) (aH H id ver (St.sortS (ltC c) L)) := by
  generalize hE0 : aH H id ver L = E0
  generalize hE1 : aH H id ver (St.sortS (ltC c) L) = E1
  refine Does.of_awp (hint := (fun _ => false)) Try.func41 (by kernel_rfl) rfl [] (by kernel_rfl) (by decide) (by simp [Try.ntmps41]) ?_
  rw [Try.ntmps41]
  simp (implicitDefEqProofs := false) only [↓reduceIte, go_sem, oread, owrite, Nat.reduceAdd, Nat.reduceSub, Nat.reduceMul, Nat.reduceLT, Nat.reduceLeDiff, Nat.reduceEqDiff, Nat.reduceBEq, Int.reduceLE, Int.reduceLT, Int.reduceEq, Int.reduceNe, Int.reduceAdd, Int.reduceSub, Int.reduceMul, Int.reduceNeg, Int.reduceToNat, Int.reduceNatCast, reduceCtorEq, eq_self]
  refine awp_cutB (fun s H' => (∃ Lk, H' = aH H id ver Lk ∧ St.StEq (ltC c) Lk L ∧ Lk.length = n ∧ (∃ k, k * 20 ≤ n ∧ n < (k + 1) * 20 ∧ (∀ j, j < k → St.Sorted (ltC c) (St.blk 20 j Lk)) ∧ s 7 = iA ((k * 20 : Nat) : Int))) ∧ s 0 = .sl id ver 0 n ∧ s 1 = iA n ∧ s 2 = .fn g caps ∧ s 6 = iA 20) rfl ?_ ?_
  · refine awp_loop _ _ _ _ (fun (k : Nat) s H' => k * 20 ≤ n ∧ (∃ Lk, H' = aH H id ver Lk ∧ St.StEq (ltC c) Lk L ∧ Lk.length = n ∧ ∀ j, j < k → St.Sorted (ltC c) (St.blk 20 j Lk)) ∧ s 0 = .sl id ver 0 n ∧ s 1 = iA n ∧ s 2 = .fn g caps ∧ s 6 = iA 20 ∧ s 7 = iA ((k * 20 : Nat) : Int) ∧ s 8 = iA (((k + 1) * 20 : Nat) : Int)) (fun k => n - k) 0 (Weak.refl _ _) ?_ ?_
    · refine ⟨by omega, ⟨L, hE0.symm, .refl _, hn, fun j hj => by omega⟩, ?_⟩
      simp (implicitDefEqProofs := false) only [↓reduceIte, go_sem, oread, owrite, Nat.reduceAdd, Nat.reduceSub, Nat.reduceMul, Nat.reduceLT, Nat.reduceLeDiff, Nat.reduceEqDiff, Nat.reduceBEq, Int.reduceLE, Int.reduceLT, Int.reduceEq, Int.reduceNe, Int.reduceAdd, Int.reduceSub, Int.reduceMul, Int.reduceNeg, Int.reduceToNat, Int.reduceNatCast, reduceCtorEq, eq_self]
    · rintro k s H' ⟨hk, ⟨Lk, rfl, hst, hlen, hso⟩, t0, t1, t2, t6, t7, t8⟩
      obtain ⟨a, ha⟩ : ∃ a, a = k * 20 := ⟨_, rfl⟩
      obtain ⟨b, hb⟩ : ∃ b, b = (k + 1) * 20 := ⟨_, rfl⟩
      rw [← ha] at t7
      rw [← hb] at t8
      by_cases hbn : b ≤ n
      · obtain ⟨P, hP⟩ : ∃ P, P = Lk.take a := ⟨_, rfl⟩
        obtain ⟨X, hX⟩ : ∃ X, X = (Lk.drop a).take 20 := ⟨_, rfl⟩
        obtain ⟨Q, hQ⟩ : ∃ Q, Q = Lk.drop (a + 20) := ⟨_, rfl⟩
        have hc3 : Lk = P ++ X ++ Q := by rw [hP, hX, hQ, St.cut3]
        have lP : P.length = a := by rw [hP, List.length_take]; omega
        have lX : X.length = 20 := by rw [hX, List.length_take, List.length_drop]; omega
        obtain ⟨L1, hL1⟩ : ∃ L1, L1 = P ++ St.sortS (ltC c) X ++ Q := ⟨_, rfl⟩
        have lL1 : L1.length = n := by rw [hL1, ← hlen, hc3]; simp [St.sortS_len]
        have hso1 : ∀ j, j < k + 1 → St.Sorted (ltC c) (St.blk 20 j L1) := by
          rw [hL1]; exact St.blk_more ho (by omega) (by rw [← hc3]; exact hso) (.inl lX)
        have hst1 : St.StEq (ltC c) L1 L := by
          refine St.StEq.trans ?_ hst
          rw [hL1, hc3]; exact St.steq_part ho P X Q
        have w1 : IntKind.i64.wrap ((b : Int) + 20) = (((k + 1 + 1) * 20 : Nat) : Int) := by rw [wrap64_in _ (by omega) (by omega)]; omega
        obtain ⟨b2, hb2⟩ : ∃ b2, b2 = (k + 1 + 1) * 20 := ⟨_, rfl⟩
        rw [← hb2] at w1
        simp (implicitDefEqProofs := false) only [↓reduceIte, go_sem, oread, owrite, Nat.reduceAdd, Nat.reduceSub, Nat.reduceMul, Nat.reduceLT, Nat.reduceLeDiff, Nat.reduceEqDiff, Nat.reduceBEq, Int.reduceLE, Int.reduceLT, Int.reduceEq, Int.reduceNe, Int.reduceAdd, Int.reduceSub, Int.reduceMul, Int.reduceNeg, Int.reduceToNat, Int.reduceNatCast, reduceCtorEq, eq_self, t1, t8, eq_true hbn]
        simp (implicitDefEqProofs := false) only [↓reduceIte, go_sem, oread, owrite, Nat.reduceAdd, Nat.reduceSub, Nat.reduceMul, Nat.reduceLT, Nat.reduceLeDiff, Nat.reduceEqDiff, Nat.reduceBEq, Int.reduceLE, Int.reduceLT, Int.reduceEq, Int.reduceNe, Int.reduceAdd, Int.reduceSub, Int.reduceMul, Int.reduceNeg, Int.reduceToNat, Int.reduceNatCast, reduceCtorEq, eq_self, t0, t2, t7, t8]
        refine KCall.ok (insSort_does H id ver hid g caps c ho hc P X Q Lk L1 hc3 hL1 a b n lP (by omega) hlen (by omega)) ?_
        simp (implicitDefEqProofs := false) only [↓reduceIte, go_sem, oread, owrite, Nat.reduceAdd, Nat.reduceSub, Nat.reduceMul, Nat.reduceLT, Nat.reduceLeDiff, Nat.reduceEqDiff, Nat.reduceBEq, Int.reduceLE, Int.reduceLT, Int.reduceEq, Int.reduceNe, Int.reduceAdd, Int.reduceSub, Int.reduceMul, Int.reduceNeg, Int.reduceToNat, Int.reduceNatCast, reduceCtorEq, eq_self, t6, t8, w1]
        refine ⟨_, _, k + 1, Weak.refl _ _, ⟨by omega, ⟨L1, rfl, hst1, lL1, hso1⟩, ?_⟩, by omega⟩
        rw [← hb, ← hb2]
        simp (implicitDefEqProofs := false) only [↓reduceIte, go_sem, oread, owrite, Nat.reduceAdd, Nat.reduceSub, Nat.reduceMul, Nat.reduceLT, Nat.reduceLeDiff, Nat.reduceEqDiff, Nat.reduceBEq, Int.reduceLE, Int.reduceLT, Int.reduceEq, Int.reduceNe, Int.reduceAdd, Int.reduceSub, Int.reduceMul, Int.reduceNeg, Int.reduceToNat, Int.reduceNatCast, reduceCtorEq, eq_self, t0, t1, t2, t6]
      · simp (implicitDefEqProofs := false) only [↓reduceIte, go_sem, oread, owrite, Nat.reduceAdd, Nat.reduceSub, Nat.reduceMul, Nat.reduceLT, Nat.reduceLeDiff, Nat.reduceEqDiff, Nat.reduceBEq, Int.reduceLE, Int.reduceLT, Int.reduceEq, Int.reduceNe, Int.reduceAdd, Int.reduceSub, Int.reduceMul, Int.reduceNeg, Int.reduceToNat, Int.reduceNatCast, reduceCtorEq, eq_self, t1, t8, eq_false hbn]
        refine ⟨⟨Lk, rfl, hst, hlen, k, by omega, by omega, hso, ?_⟩, ?_⟩
        · rw [← ha]; simp (implicitDefEqProofs := false) only [↓reduceIte, go_sem, oread, owrite, Nat.reduceAdd, Nat.reduceSub, Nat.reduceMul, Nat.reduceLT, Nat.reduceLeDiff, Nat.reduceEqDiff, Nat.reduceBEq, Int.reduceLE, Int.reduceLT, Int.reduceEq, Int.reduceNe, Int.reduceAdd, Int.reduceSub, Int.reduceMul, Int.reduceNeg, Int.reduceToNat, Int.reduceNatCast, reduceCtorEq, eq_self, t7]
        · simp (implicitDefEqProofs := false) only [↓reduceIte, go_sem, oread, owrite, Nat.reduceAdd, Nat.reduceSub, Nat.reduceMul, Nat.reduceLT, Nat.reduceLeDiff, Nat.reduceEqDiff, Nat.reduceBEq, Int.reduceLE, Int.reduceLT, Int.reduceEq, Int.reduceNe, Int.reduceAdd, Int.reduceSub, Int.reduceMul, Int.reduceNeg, Int.reduceToNat, Int.reduceNatCast, reduceCtorEq, eq_self, t0, t1, t2, t6]
  rintro s H' ⟨⟨Lk, rfl, hst, hlen, k, hk1, hk2, hso, t7⟩, t0, t1, t2, t6⟩
  obtain ⟨a, ha⟩ : ∃ a, a = k * 20 := ⟨_, rfl⟩
  rw [← ha] at t7
  have hc3 : Lk = Lk.take a ++ Lk.drop a ++ [] := by simp
  obtain ⟨L1, hL1⟩ : ∃ L1, L1 = Lk.take a ++ St.sortS (ltC c) (Lk.drop a) ++ [] := ⟨_, rfl⟩
  have lP : (Lk.take a).length = a := by rw [List.length_take]; omega
  have lX : (Lk.drop a).length = n - a := by rw [List.length_drop]; omega
  have lL1 : L1.length = n := by rw [hL1]; simp only [List.length_append, St.sortS_len, lP, lX, List.length_nil]; omega
  have hst1 : St.StEq (ltC c) L1 L := by
    refine St.StEq.trans ?_ hst
    rw [hL1]
    have := St.steq_part ho (Lk.take a) (Lk.drop a) []
    rwa [← hc3] at this
  have hb1 : ∀ j, St.Sorted (ltC c) (St.blk 20 j L1) := by
    intro j
    rcases Nat.lt_or_ge j (k + 1) with h | h
    · rw [hL1]
      exact St.blk_more ho (by omega) (by rw [← hc3]; exact hso) (.inr ⟨by omega, rfl⟩) j h
    · have := Nat.mul_le_mul_right 20 h
      rw [St.blk_out (by omega)]
      exact List.Pairwise.nil
  simp (implicitDefEqProofs := false) only [↓reduceIte, go_sem, oread, owrite, Nat.reduceAdd, Nat.reduceSub, Nat.reduceMul, Nat.reduceLT, Nat.reduceLeDiff, Nat.reduceEqDiff, Nat.reduceBEq, Int.reduceLE, Int.reduceLT, Int.reduceEq, Int.reduceNe, Int.reduceAdd, Int.reduceSub, Int.reduceMul, Int.reduceNeg, Int.reduceToNat, Int.reduceNatCast, reduceCtorEq, eq_self, t0, t1, t2, t7]
  refine KCall.ok (insSort_does H id ver hid g caps c ho hc _ _ _ Lk L1 hc3 hL1 a n n lP (by omega) hlen (by omega)) ?_
  clear hc3 hL1 lP lX hst hso hlen
  simp (implicitDefEqProofs := false) only [↓reduceIte, go_sem, oread, owrite, Nat.reduceAdd, Nat.reduceSub, Nat.reduceMul, Nat.reduceLT, Nat.reduceLeDiff, Nat.reduceEqDiff, Nat.reduceBEq, Int.reduceLE, Int.reduceLT, Int.reduceEq, Int.reduceNe, Int.reduceAdd, Int.reduceSub, Int.reduceMul, Int.reduceNeg, Int.reduceToNat, Int.reduceNatCast, reduceCtorEq, eq_self]
  refine awp_loop _ _ _ _ (fun (z : Nat) s H' => 20 ≤ z ∧ z ≤ 2 * n + 20 ∧ (∃ Lk, H' = aH H id ver Lk ∧ St.StEq (ltC c) Lk L ∧ Lk.length = n ∧ ∀ j, St.Sorted (ltC c) (St.blk z j Lk)) ∧ s 0 = .sl id ver 0 n ∧ s 1 = iA n ∧ s 2 = .fn g caps ∧ s 6 = iA z) (fun z => n - z) 20 (Weak.refl _ _) ?_ ?_
  · refine ⟨Nat.le_refl _, by omega, ⟨L1, rfl, hst1, lL1, hb1⟩, ?_⟩
    simp (implicitDefEqProofs := false) only [↓reduceIte, go_sem, oread, owrite, Nat.reduceAdd, Nat.reduceSub, Nat.reduceMul, Nat.reduceLT, Nat.reduceLeDiff, Nat.reduceEqDiff, Nat.reduceBEq, Int.reduceLE, Int.reduceLT, Int.reduceEq, Int.reduceNe, Int.reduceAdd, Int.reduceSub, Int.reduceMul, Int.reduceNeg, Int.reduceToNat, Int.reduceNatCast, reduceCtorEq, eq_self, t0, t1, t2, t6]
  clear hb1 hst1 lL1 t0 t1 t2 t6 t7 hk1 hk2 ha
  rintro z s H' ⟨hz1, hz2, ⟨Lk, rfl, hst, hlen, hbl⟩, t0, t1, t2, t6⟩
  by_cases hzn : z < n
  · have w1 : IntKind.i64.wrap (2 * (z : Int)) = ((2 * z : Nat) : Int) := by rw [wrap64_in _ (by omega) (by omega)]; omega
    have w1' : IntKind.i64.wrap ((z : Int) * 2) = ((2 * z : Nat) : Int) := by rw [wrap64_in _ (by omega) (by omega)]; omega
    obtain ⟨y, hy⟩ : ∃ y, y = 2 * z := ⟨_, rfl⟩
    rw [← hy] at w1 w1'
    simp (implicitDefEqProofs := false) only [↓reduceIte, go_sem, oread, owrite, Nat.reduceAdd, Nat.reduceSub, Nat.reduceMul, Nat.reduceLT, Nat.reduceLeDiff, Nat.reduceEqDiff, Nat.reduceBEq, Int.reduceLE, Int.reduceLT, Int.reduceEq, Int.reduceNe, Int.reduceAdd, Int.reduceSub, Int.reduceMul, Int.reduceNeg, Int.reduceToNat, Int.reduceNatCast, reduceCtorEq, eq_self, t1, t6, eq_true hzn, w1]
    refine awp_cutB (fun s H' => (∃ Lk, H' = aH H id ver Lk ∧ St.StEq (ltC c) Lk L ∧ Lk.length = n ∧ ∃ k a, a = k * y ∧ a = 2 * k * z ∧ a ≤ n ∧ n < a + y ∧ (∀ j, j < k → St.Sorted (ltC c) (St.blk y j Lk)) ∧ (∀ j, 2 * k ≤ j → St.Sorted (ltC c) (St.blk z j Lk)) ∧ s 7 = iA a) ∧ s 0 = .sl id ver 0 n ∧ s 1 = iA n ∧ s 2 = .fn g caps ∧ s 6 = iA z) rfl ?_ ?_
    · refine awp_loop _ _ _ _ (fun (k : Nat) s H' => (∃ a, a = k * y ∧ a = 2 * k * z ∧ a ≤ n ∧ s 7 = iA a ∧ s 8 = iA ((a + y : Nat) : Int)) ∧ (∃ Lk, H' = aH H id ver Lk ∧ St.StEq (ltC c) Lk L ∧ Lk.length = n ∧ (∀ j, j < k → St.Sorted (ltC c) (St.blk y j Lk)) ∧ (∀ j, 2 * k ≤ j → St.Sorted (ltC c) (St.blk z j Lk))) ∧ s 0 = .sl id ver 0 n ∧ s 1 = iA n ∧ s 2 = .fn g caps ∧ s 6 = iA z) (fun k => n + 1 - k * y) 0 (Weak.refl _ _) ?_ ?_
      · refine ⟨⟨0, by omega, by omega, by omega, ?_⟩, ⟨Lk, rfl, hst, hlen, fun j hj => by omega, fun j _ => hbl j⟩, ?_⟩
        · simp (implicitDefEqProofs := false) only [↓reduceIte, go_sem, oread, owrite, Nat.reduceAdd, Nat.reduceSub, Nat.reduceMul, Nat.reduceLT, Nat.reduceLeDiff, Nat.reduceEqDiff, Nat.reduceBEq, Int.reduceLE, Int.reduceLT, Int.reduceEq, Int.reduceNe, Int.reduceAdd, Int.reduceSub, Int.reduceMul, Int.reduceNeg, Int.reduceToNat, Int.reduceNatCast, reduceCtorEq, eq_self, Nat.zero_add]
        · simp (implicitDefEqProofs := false) only [↓reduceIte, go_sem, oread, owrite, Nat.reduceAdd, Nat.reduceSub, Nat.reduceMul, Nat.reduceLT, Nat.reduceLeDiff, Nat.reduceEqDiff, Nat.reduceBEq, Int.reduceLE, Int.reduceLT, Int.reduceEq, Int.reduceNe, Int.reduceAdd, Int.reduceSub, Int.reduceMul, Int.reduceNeg, Int.reduceToNat, Int.reduceNatCast, reduceCtorEq, eq_self, t0, t1, t2, t6]
      clear hst hlen hbl Lk t0 t1 t2 t6
      rintro k s H' ⟨⟨a, ha, ha2, han, t7, t8⟩, ⟨Lk, rfl, hst, hlen, hso, hso2⟩, t0, t1, t2, t6⟩
      obtain ⟨b, hb⟩ : ∃ b, b = a + y := ⟨_, rfl⟩
      rw [← hb] at t8
      have hk1 : (k + 1) * y = a + y := by rw [Nat.add_mul, ← ha, Nat.one_mul]
      have hk2 : 2 * (k + 1) * z = a + 2 * z := by rw [Nat.mul_add, Nat.add_mul, ← ha2]
      have hk3 : (2 * k + 1) * z = a + z := by rw [Nat.add_mul, ← ha2, Nat.one_mul]
      by_cases hbn : b ≤ n
      · obtain ⟨P, hP⟩ : ∃ P, P = Lk.take a := ⟨_, rfl⟩
        obtain ⟨X, hX⟩ : ∃ X, X = (Lk.drop a).take z := ⟨_, rfl⟩
        obtain ⟨Y, hY⟩ : ∃ Y, Y = (Lk.drop (a + z)).take z := ⟨_, rfl⟩
        obtain ⟨Q, hQ⟩ : ∃ Q, Q = Lk.drop (a + z + z) := ⟨_, rfl⟩
        have hc4 : Lk = P ++ X ++ Y ++ Q := by rw [hP, hX, hY, hQ, St.cut4]
        have hc5 : Lk = P ++ (X ++ Y) ++ Q := by rw [hc4]; simp
        have lP : P.length = a := by rw [hP, List.length_take]; omega
        have lX : X.length = z := by rw [hX, List.length_take, List.length_drop]; omega
        have lY : Y.length = z := by rw [hY, List.length_take, List.length_drop]; omega
        have lXY : (X ++ Y).length = y := by rw [List.length_append]; omega
        have sX : St.Sorted (ltC c) X := by have := hso2 (2 * k) (Nat.le_refl _); rw [St.blk, ← ha2, ← hX] at this; exact this
        have sY : St.Sorted (ltC c) Y := by have := hso2 (2 * k + 1) (by omega); rw [St.blk, hk3, ← hY] at this; exact this
        obtain ⟨L1, hL1⟩ : ∃ L1, L1 = P ++ St.sortS (ltC c) (X ++ Y) ++ Q := ⟨_, rfl⟩
        have lL1 : L1.length = n := by rw [hL1, ← hlen, hc5]; simp [St.sortS_len]; try omega
        have hst1 : St.StEq (ltC c) L1 L := by
          refine St.StEq.trans ?_ hst
          rw [hL1, hc5]; exact St.steq_part ho P (X ++ Y) Q
        have hso1 : ∀ j, j < k + 1 → St.Sorted (ltC c) (St.blk y j L1) := by
          rw [hL1]; exact St.blk_more ho (by omega) (by rw [← hc5]; exact hso) (.inl lXY)
        have hso3 : ∀ j, 2 * (k + 1) ≤ j → St.Sorted (ltC c) (St.blk z j L1) := fun j hj => by
          have h1 := Nat.mul_le_mul_right z hj
          rw [hL1, St.blk_behind (X' := X ++ Y) (St.sortS_len _) (by rw [St.sortS_len, lXY, lP]; omega), ← hc5]
          exact hso2 j (by omega)
        clear hP hX hY hQ hst hso hso2
        obtain ⟨m, hm⟩ : ∃ m, m = a + z := ⟨_, rfl⟩
        obtain ⟨b2, hb2⟩ : ∃ b2, b2 = b + y := ⟨_, rfl⟩
        have w2 : IntKind.i64.wrap ((a : Int) + (z : Int)) = (m : Int) := by rw [wrap64_in _ (by omega) (by omega)]; omega
        have w3 : IntKind.i64.wrap ((b : Int) + (y : Int)) = (b2 : Int) := by rw [wrap64_in _ (by omega) (by omega)]; omega
        simp (implicitDefEqProofs := false) only [↓reduceIte, go_sem, oread, owrite, Nat.reduceAdd, Nat.reduceSub, Nat.reduceMul, Nat.reduceLT, Nat.reduceLeDiff, Nat.reduceEqDiff, Nat.reduceBEq, Int.reduceLE, Int.reduceLT, Int.reduceEq, Int.reduceNe, Int.reduceAdd, Int.reduceSub, Int.reduceMul, Int.reduceNeg, Int.reduceToNat, Int.reduceNatCast, reduceCtorEq, eq_self, t1, t8, eq_true hbn]
        simp (implicitDefEqProofs := false) only [↓reduceIte, go_sem, oread, owrite, Nat.reduceAdd, Nat.reduceSub, Nat.reduceMul, Nat.reduceLT, Nat.reduceLeDiff, Nat.reduceEqDiff, Nat.reduceBEq, Int.reduceLE, Int.reduceLT, Int.reduceEq, Int.reduceNe, Int.reduceAdd, Int.reduceSub, Int.reduceMul, Int.reduceNeg, Int.reduceToNat, Int.reduceNatCast, reduceCtorEq, eq_self, t0, t2, t6, t7, t8, w2]
        refine KCall.ok (symMerge_does H id ver hid g caps c ho hc n (by omega) _ P X Y Q Lk L1 a m b (Nat.le_refl _) hc4 hL1 lP (by omega) (by omega) (by omega) (by omega) sX sY hlen) ?_
        simp (implicitDefEqProofs := false) only [↓reduceIte, go_sem, oread, owrite, Nat.reduceAdd, Nat.reduceSub, Nat.reduceMul, Nat.reduceLT, Nat.reduceLeDiff, Nat.reduceEqDiff, Nat.reduceBEq, Int.reduceLE, Int.reduceLT, Int.reduceEq, Int.reduceNe, Int.reduceAdd, Int.reduceSub, Int.reduceMul, Int.reduceNeg, Int.reduceToNat, Int.reduceNatCast, reduceCtorEq, eq_self, t6, t8, w1, w3]
        refine ⟨_, _, k + 1, Weak.refl _ _, ⟨⟨b, by omega, by omega, hbn, ?_⟩, ⟨L1, rfl, hst1, lL1, hso1, hso3⟩, ?_⟩, by omega⟩
        · simp (implicitDefEqProofs := false) only [↓reduceIte, go_sem, oread, owrite, Nat.reduceAdd, Nat.reduceSub, Nat.reduceMul, Nat.reduceLT, Nat.reduceLeDiff, Nat.reduceEqDiff, Nat.reduceBEq, Int.reduceLE, Int.reduceLT, Int.reduceEq, Int.reduceNe, Int.reduceAdd, Int.reduceSub, Int.reduceMul, Int.reduceNeg, Int.reduceToNat, Int.reduceNatCast, reduceCtorEq, eq_self, show ((b : Int) + (y : Int)) = (b2 : Int) by omega]
        · simp (implicitDefEqProofs := false) only [↓reduceIte, go_sem, oread, owrite, Nat.reduceAdd, Nat.reduceSub, Nat.reduceMul, Nat.reduceLT, Nat.reduceLeDiff, Nat.reduceEqDiff, Nat.reduceBEq, Int.reduceLE, Int.reduceLT, Int.reduceEq, Int.reduceNe, Int.reduceAdd, Int.reduceSub, Int.reduceMul, Int.reduceNeg, Int.reduceToNat, Int.reduceNatCast, reduceCtorEq, eq_self, t0, t1, t2, t6]
      · simp (implicitDefEqProofs := false) only [↓reduceIte, go_sem, oread, owrite, Nat.reduceAdd, Nat.reduceSub, Nat.reduceMul, Nat.reduceLT, Nat.reduceLeDiff, Nat.reduceEqDiff, Nat.reduceBEq, Int.reduceLE, Int.reduceLT, Int.reduceEq, Int.reduceNe, Int.reduceAdd, Int.reduceSub, Int.reduceMul, Int.reduceNeg, Int.reduceToNat, Int.reduceNatCast, reduceCtorEq, eq_self, t1, t8, eq_false hbn]
        refine ⟨⟨Lk, rfl, hst, hlen, k, a, ha, ha2, han, by omega, hso, hso2, ?_⟩, ?_⟩
        · simp (implicitDefEqProofs := false) only [↓reduceIte, go_sem, oread, owrite, Nat.reduceAdd, Nat.reduceSub, Nat.reduceMul, Nat.reduceLT, Nat.reduceLeDiff, Nat.reduceEqDiff, Nat.reduceBEq, Int.reduceLE, Int.reduceLT, Int.reduceEq, Int.reduceNe, Int.reduceAdd, Int.reduceSub, Int.reduceMul, Int.reduceNeg, Int.reduceToNat, Int.reduceNatCast, reduceCtorEq, eq_self, t7]
        · simp (implicitDefEqProofs := false) only [↓reduceIte, go_sem, oread, owrite, Nat.reduceAdd, Nat.reduceSub, Nat.reduceMul, Nat.reduceLT, Nat.reduceLeDiff, Nat.reduceEqDiff, Nat.reduceBEq, Int.reduceLE, Int.reduceLT, Int.reduceEq, Int.reduceNe, Int.reduceAdd, Int.reduceSub, Int.reduceMul, Int.reduceNeg, Int.reduceToNat, Int.reduceNatCast, reduceCtorEq, eq_self, t0, t1, t2, t6]
    clear hst hlen hbl Lk t0 t1 t2 t6
    rintro s H' ⟨⟨Lk, rfl, hst, hlen, k, a, ha, ha2, han, hna, hso, hso2, t7⟩, t0, t1, t2, t6⟩
    have hk3 : (2 * k + 1) * z = a + z := by rw [Nat.add_mul, ← ha2, Nat.one_mul]
    have hk1 : (k + 1) * y = a + y := by rw [Nat.add_mul, ← ha, Nat.one_mul]
    obtain ⟨m, hm⟩ : ∃ m, m = a + z := ⟨_, rfl⟩
    have w2 : IntKind.i64.wrap ((a : Int) + (z : Int)) = (m : Int) := by rw [wrap64_in _ (by omega) (by omega)]; omega
    have all : ∀ L1 : List Val, L1.length = n → (∀ j, j < k + 1 → St.Sorted (ltC c) (St.blk y j L1)) → ∀ j, St.Sorted (ltC c) (St.blk y j L1) := fun L1 hl h j => by
      rcases Nat.lt_or_ge j (k + 1) with h1 | h1
      · exact h j h1
      · have := Nat.mul_le_mul_right y h1
        rw [St.blk_out (by omega)]
        exact List.Pairwise.nil
    by_cases hmn : m < n
    · obtain ⟨P, hP⟩ : ∃ P, P = Lk.take a := ⟨_, rfl⟩
      obtain ⟨X, hX⟩ : ∃ X, X = (Lk.drop a).take z := ⟨_, rfl⟩
      obtain ⟨Y, hY⟩ : ∃ Y, Y = (Lk.drop (a + z)).take z := ⟨_, rfl⟩
      have hQ : Lk.drop (a + z + z) = [] := List.drop_of_length_le (by omega)
      have hc4 : Lk = P ++ X ++ Y ++ [] := by rw [hP, hX, hY, ← hQ, St.cut4]
      have hc5 : Lk = P ++ (X ++ Y) ++ [] := by rw [hc4]; simp
      have lP : P.length = a := by rw [hP, List.length_take]; omega
      have lX : X.length = z := by rw [hX, List.length_take, List.length_drop]; omega
      have lY : Y.length = n - m := by rw [hY, List.length_take, List.length_drop]; omega
      have lXY : (X ++ Y).length ≤ y := by rw [List.length_append]; omega
      have sX : St.Sorted (ltC c) X := by have := hso2 (2 * k) (Nat.le_refl _); rw [St.blk, ← ha2, ← hX] at this; exact this
      have sY : St.Sorted (ltC c) Y := by have := hso2 (2 * k + 1) (by omega); rw [St.blk, hk3, ← hY] at this; exact this
      obtain ⟨L1, hL1⟩ : ∃ L1, L1 = P ++ St.sortS (ltC c) (X ++ Y) ++ [] := ⟨_, rfl⟩
      have lL1 : L1.length = n := by rw [hL1, ← hlen, hc5]; simp [St.sortS_len]; try omega
      have hst1 : St.StEq (ltC c) L1 L := by
        refine St.StEq.trans ?_ hst
        rw [hL1]
        have := St.steq_part ho P (X ++ Y) []
        rwa [← hc5] at this
      have hso1 : ∀ j, j < k + 1 → St.Sorted (ltC c) (St.blk y j L1) := by
        rw [hL1]; exact St.blk_more ho (by omega) (by rw [← hc5]; exact hso) (.inr ⟨lXY, rfl⟩)
      clear hP hX hY hQ hst hso hso2
      simp (implicitDefEqProofs := false) only [↓reduceIte, go_sem, oread, owrite, Nat.reduceAdd, Nat.reduceSub, Nat.reduceMul, Nat.reduceLT, Nat.reduceLeDiff, Nat.reduceEqDiff, Nat.reduceBEq, Int.reduceLE, Int.reduceLT, Int.reduceEq, Int.reduceNe, Int.reduceAdd, Int.reduceSub, Int.reduceMul, Int.reduceNeg, Int.reduceToNat, Int.reduceNatCast, reduceCtorEq, eq_self, t1, t6, t7, w2, eq_true hmn]
      simp (implicitDefEqProofs := false) only [↓reduceIte, go_sem, oread, owrite, Nat.reduceAdd, Nat.reduceSub, Nat.reduceMul, Nat.reduceLT, Nat.reduceLeDiff, Nat.reduceEqDiff, Nat.reduceBEq, Int.reduceLE, Int.reduceLT, Int.reduceEq, Int.reduceNe, Int.reduceAdd, Int.reduceSub, Int.reduceMul, Int.reduceNeg, Int.reduceToNat, Int.reduceNatCast, reduceCtorEq, eq_self, t0, t1, t2, t7]
      refine KCall.ok (symMerge_does H id ver hid g caps c ho hc n (by omega) _ P X Y [] Lk L1 a m n (Nat.le_refl _) hc4 hL1 lP (by omega) (by omega) (by omega) (by omega) sX sY hlen) ?_
      simp (implicitDefEqProofs := false) only [↓reduceIte, go_sem, oread, owrite, Nat.reduceAdd, Nat.reduceSub, Nat.reduceMul, Nat.reduceLT, Nat.reduceLeDiff, Nat.reduceEqDiff, Nat.reduceBEq, Int.reduceLE, Int.reduceLT, Int.reduceEq, Int.reduceNe, Int.reduceAdd, Int.reduceSub, Int.reduceMul, Int.reduceNeg, Int.reduceToNat, Int.reduceNatCast, reduceCtorEq, eq_self, t6, w1']
      refine ⟨_, _, y, Weak.refl _ _, ⟨by omega, by omega, ⟨L1, rfl, hst1, lL1, all L1 lL1 hso1⟩, ?_⟩, by omega⟩
      simp (implicitDefEqProofs := false) only [↓reduceIte, go_sem, oread, owrite, Nat.reduceAdd, Nat.reduceSub, Nat.reduceMul, Nat.reduceLT, Nat.reduceLeDiff, Nat.reduceEqDiff, Nat.reduceBEq, Int.reduceLE, Int.reduceLT, Int.reduceEq, Int.reduceNe, Int.reduceAdd, Int.reduceSub, Int.reduceMul, Int.reduceNeg, Int.reduceToNat, Int.reduceNatCast, reduceCtorEq, eq_self, t0, t1, t2]
    · have hso1 : ∀ j, j < k + 1 → St.Sorted (ltC c) (St.blk y j Lk) := fun j hj => by
        rcases Nat.lt_or_ge j k with h | h
        · exact hso j h
        · obtain rfl : j = k := by omega
          have h1 := hso2 (2 * j) (Nat.le_refl _)
          unfold St.blk at h1 ⊢
          rw [← ha2, List.take_of_length_le (by rw [List.length_drop]; omega)] at h1
          rw [← ha, List.take_of_length_le (by rw [List.length_drop]; omega)]
          exact h1
      simp (implicitDefEqProofs := false) only [↓reduceIte, go_sem, oread, owrite, Nat.reduceAdd, Nat.reduceSub, Nat.reduceMul, Nat.reduceLT, Nat.reduceLeDiff, Nat.reduceEqDiff, Nat.reduceBEq, Int.reduceLE, Int.reduceLT, Int.reduceEq, Int.reduceNe, Int.reduceAdd, Int.reduceSub, Int.reduceMul, Int.reduceNeg, Int.reduceToNat, Int.reduceNatCast, reduceCtorEq, eq_self, t1, t6, t7, w2, eq_false hmn, w1']
      refine ⟨_, _, y, Weak.refl _ _, ⟨by omega, by omega, ⟨Lk, rfl, hst, hlen, all Lk hlen hso1⟩, ?_⟩, by omega⟩
      simp (implicitDefEqProofs := false) only [↓reduceIte, go_sem, oread, owrite, Nat.reduceAdd, Nat.reduceSub, Nat.reduceMul, Nat.reduceLT, Nat.reduceLeDiff, Nat.reduceEqDiff, Nat.reduceBEq, Int.reduceLE, Int.reduceLT, Int.reduceEq, Int.reduceNe, Int.reduceAdd, Int.reduceSub, Int.reduceMul, Int.reduceNeg, Int.reduceToNat, Int.reduceNatCast, reduceCtorEq, eq_self, t0, t1, t2]
  · simp (implicitDefEqProofs := false) only [↓reduceIte, go_sem, oread, owrite, Nat.reduceAdd, Nat.reduceSub, Nat.reduceMul, Nat.reduceLT, Nat.reduceLeDiff, Nat.reduceEqDiff, Nat.reduceBEq, Int.reduceLE, Int.reduceLT, Int.reduceEq, Int.reduceNe, Int.reduceAdd, Int.reduceSub, Int.reduceMul, Int.reduceNeg, Int.reduceToNat, Int.reduceNatCast, reduceCtorEq, eq_self, t1, t6, eq_false hzn]
    have h0 := hbl 0
    unfold St.blk at h0
    rw [Nat.zero_mul, List.drop_zero, List.take_of_length_le (by omega)] at h0
    rw [← hE1, St.sortS_eq ho h0 hst]
    exact ⟨_, Weak.refl _ _, rfl⟩
set_option maxRecDepth 10000 in
theorem sort_does (H : AHeap) (id ver : Nat) (hid : id < H.length) (g : FuncId) (caps : List AV) (c : Val → Val → Int) (ho : St.Ord (ltC c)) (hc : CmpOk g caps c H id) (n : Nat) (hbig : n ≤ 100000000000) (L : List Val) (hn : L.length = n) :
    Does Try.prog 25 [.sl id ver 0 n, .fn g caps] (aH H id ver L) (.ok (.tup [])) (aH H id ver (St.sortS (ltC c) L)) := by
  have gh := aH_get hid ver L
  have hs := stable_does H id ver hid g caps c ho hc n hbig L hn
  generalize aH H id ver L = E0 at *
  refine Does.of_awp (hint := (fun _ => false)) Try.func25 (by kernel_rfl) rfl [] (by kernel_rfl) (by decide) (by simp [Try.ntmps25]) ?_
  rw [Try.ntmps25]
  simp (implicitDefEqProofs := false) only [↓reduceIte, go_sem, oread, owrite, Nat.reduceAdd, Nat.reduceSub, Nat.reduceMul, Nat.reduceLT, Nat.reduceLeDiff, Nat.reduceEqDiff, Nat.reduceBEq, Int.reduceLE, Int.reduceLT, Int.reduceEq, Int.reduceNe, Int.reduceAdd, Int.reduceSub, Int.reduceMul, Int.reduceNeg, Int.reduceToNat, Int.reduceNatCast, reduceCtorEq, eq_self, gh]
  refine KCall.ok hs ?_
  simp (implicitDefEqProofs := false) only [↓reduceIte, go_sem, oread, owrite, Nat.reduceAdd, Nat.reduceSub, Nat.reduceMul, Nat.reduceLT, Nat.reduceLeDiff, Nat.reduceEqDiff, Nat.reduceBEq, Int.reduceLE, Int.reduceLT, Int.reduceEq, Int.reduceNe, Int.reduceAdd, Int.reduceSub, Int.reduceMul, Int.reduceNeg, Int.reduceToNat, Int.reduceNatCast, reduceCtorEq, eq_self]
  exact ⟨_, Weak.refl _ _, rfl⟩
end SV
end Go.Proofs.Ytkapgooedfompaa
namespace Go.Proofs.Ytkapgooedfompaa
open Go.Proofs.YtkapgooedfompaaAw Go.RowKit
set_option linter.unusedVariables false
set_option linter.unusedSimpArgs false
namespace SV
def EqOk (g : FuncId) (caps : List AV) (c : Val → Val → Bool) (H : AHeap) (id : Nat) : Prop := ∀ (o : AObj) (x y : Val), Does Try.prog g ([.agg (x.enc.map .d), .agg (y.enc.map .d)] ++ caps) (H.set id o) (.ok (bA (c x y))) (H.set id o)
def zrow : List D := [iD 0, iD 0, .v (.string ⟨#[]⟩)]
def compH (H : AHeap) (id ver : Nat) (c : Val → Val → Bool) (L : List Val) : AHeap := H.set id (.arr 24 3 ver ((St.compactP c L).map Val.enc ++ List.replicate (L.length - (St.compactP c L).length) zrow))
theorem compH_same (H : AHeap) (id ver : Nat) (c : Val → Val → Bool) (L : List Val) (h : St.compactP c L = L) : compH H id ver c L = aH H id ver L := by
  unfold compH aH
  rw [h, Nat.sub_self, List.replicate_zero, List.append_nil]
set_option maxRecDepth 10000 in
set_option maxHeartbeats 4000000 in
theorem compact_does (H : AHeap) (id ver : Nat) (hid : id < H.length) (g : FuncId) (caps : List AV) (c : Val → Val → Bool) (hc : EqOk g caps c H id) (n : Nat) (hbig : n ≤ 100000000000) (L : List Val) (hn : L.length = n) :
    Does Try.prog 26 [.sl id ver 0 n, .fn g caps] (aH H id ver L) (.ok (.sl id ver 0 (St.compactP c L).length)) (compH H id ver c L) := by
  have gh := aH_get hid ver L
  have hcE : ∀ M : List Val, ∀ x y : Val, Does Try.prog g ([.agg (x.enc.map .d), .agg (y.enc.map .d)] ++ caps) (aH H id ver M) (.ok (bA (c x y))) (aH H id ver M) := fun M x y => hc _ x y
  generalize hE1 : compH H id ver c L = E1
  by_cases h2 : n < 2
  · have hsame : St.compactP c L = L := by
      cases L with
      | nil => rfl
      | cons x t =>
        cases t with
        | nil => rfl
        | cons y t => simp at hn; omega
    have he : aH H id ver L = E1 := by rw [← hE1, compH_same _ _ _ _ _ hsame]
    rw [hsame, hn]
    generalize aH H id ver L = E0 at *
    subst he
    refine Does.of_awp (hint := (fun _ => false)) Try.func26 (by kernel_rfl) rfl [4] (by kernel_rfl) (by decide) (by simp [Try.ntmps26]) ?_
    rw [Try.ntmps26]
    simp (implicitDefEqProofs := false) only [↓reduceIte, go_sem, oread, owrite, Nat.reduceAdd, Nat.reduceSub, Nat.reduceMul, Nat.reduceLT, Nat.reduceLeDiff, Nat.reduceEqDiff, Nat.reduceBEq, Int.reduceLE, Int.reduceLT, Int.reduceEq, Int.reduceNe, Int.reduceAdd, Int.reduceSub, Int.reduceMul, Int.reduceNeg, Int.reduceToNat, Int.reduceNatCast, reduceCtorEq, eq_self, gh, show ((n : Int) < 2) = True from eq_true (by omega)]
    refine AEnd.ret0 ?_
    simp (implicitDefEqProofs := false) only [↓reduceIte, go_sem, oread, owrite, Nat.reduceAdd, Nat.reduceSub, Nat.reduceMul, Nat.reduceLT, Nat.reduceLeDiff, Nat.reduceEqDiff, Nat.reduceBEq, Int.reduceLE, Int.reduceLT, Int.reduceEq, Int.reduceNe, Int.reduceAdd, Int.reduceSub, Int.reduceMul, Int.reduceNeg, Int.reduceToNat, Int.reduceNatCast, reduceCtorEq, eq_self]
  generalize hE0 : aH H id ver L = E0 at gh
  refine Does.of_awp (hint := (fun _ => false)) Try.func26 (by kernel_rfl) rfl [4] (by kernel_rfl) (by decide) (by simp [Try.ntmps26]) ?_
  rw [Try.ntmps26]
  simp (implicitDefEqProofs := false) only [↓reduceIte, go_sem, oread, owrite, Nat.reduceAdd, Nat.reduceSub, Nat.reduceMul, Nat.reduceLT, Nat.reduceLeDiff, Nat.reduceEqDiff, Nat.reduceBEq, Int.reduceLE, Int.reduceLT, Int.reduceEq, Int.reduceNe, Int.reduceAdd, Int.reduceSub, Int.reduceMul, Int.reduceNeg, Int.reduceToNat, Int.reduceNatCast, reduceCtorEq, eq_self, gh, show ((n : Int) < 2) = False from eq_false (by omega)]
  refine awp_for3 (fun k s H' => H' = E0 ∧ St.compactP c (L.take (k + 1)) = L.take (k + 1) ∧ s 0 = .sl id ver 0 n ∧ s 1 = .fn g caps ∧ s 5 = iA ((k : Int) + 1)) (n - 1) (by omega) (Weak.refl _ _) ?_ ?_ ?_
  · refine ⟨rfl, ?_, ?_⟩
    · cases L <;> rfl
    · simp (implicitDefEqProofs := false) only [↓reduceIte, go_sem, oread, owrite, Nat.reduceAdd, Nat.reduceSub, Nat.reduceMul, Nat.reduceLT, Nat.reduceLeDiff, Nat.reduceEqDiff, Nat.reduceBEq, Int.reduceLE, Int.reduceLT, Int.reduceEq, Int.reduceNe, Int.reduceAdd, Int.reduceSub, Int.reduceMul, Int.reduceNeg, Int.reduceToNat, Int.reduceNatCast, reduceCtorEq, eq_self]
  · rintro k s H' hk hw ⟨rfl, hp, t0, t1, t5⟩
    obtain ⟨q, hq⟩ : ∃ q, q = k + 1 := ⟨_, rfl⟩
    obtain ⟨x, hx⟩ : ∃ x, L[q]? = some x := ⟨_, List.getElem?_eq_getElem (by omega)⟩
    obtain ⟨y, hy⟩ : ∃ y, L[k]? = some y := ⟨_, List.getElem?_eq_getElem (by omega)⟩
    have e1 : L.take (q + 1) = L.take q ++ [x] := by rw [List.take_add_one, hx]; rfl
    have hsn : St.compactP c (L.take (q + 1)) = St.compactP c (L.take q) ++ (if c x y = true then [] else [x]) := by
      rw [e1]
      exact St.compactP_snoc (k := k) (by rw [List.length_take]; omega) (by rw [List.getElem?_take, if_pos (by omega)]; exact hy)
    rw [← hq] at hp
    have f1 : ((k : Int) + 1) = (q : Int) := by omega
    rw [f1] at t5
    have gx := get_enc hx
    have gy := get_enc hy
    have hd := hcE L x y
    rw [hE0] at hd
    have w1 : IntKind.i64.wrap ((q : Int) - 1) = (k : Int) := by rw [wrap64_in _ (by omega) (by omega)]; omega
    have w2 : IntKind.i64.wrap ((q : Int) + 1) = (q : Int) + 1 := wrap64_in _ (by omega) (by omega)
    have hqn : q < n := by omega
    have hkn : k < n := by omega
    simp only [Val.enc] at gx gy
    simp only [Val.enc, List.map_cons, List.map_nil] at hd
    simp (implicitDefEqProofs := false) only [↓reduceIte, go_sem, oread, owrite, Nat.reduceAdd, Nat.reduceSub, Nat.reduceMul, Nat.reduceLT, Nat.reduceLeDiff, Nat.reduceEqDiff, Nat.reduceBEq, Int.reduceLE, Int.reduceLT, Int.reduceEq, Int.reduceNe, Int.reduceAdd, Int.reduceSub, Int.reduceMul, Int.reduceNeg, Int.reduceToNat, Int.reduceNatCast, reduceCtorEq, eq_self, t0, t5, gh, eq_true hqn]
    refine awp_draw K.mixed (by kernel_rfl) ?_
    simp (implicitDefEqProofs := false) only [↓reduceIte, go_sem, oread, owrite, Nat.reduceAdd, Nat.reduceSub, Nat.reduceMul, Nat.reduceLT, Nat.reduceLeDiff, Nat.reduceEqDiff, Nat.reduceBEq, Int.reduceLE, Int.reduceLT, Int.reduceEq, Int.reduceNe, Int.reduceAdd, Int.reduceSub, Int.reduceMul, Int.reduceNeg, Int.reduceToNat, Int.reduceNatCast, reduceCtorEq, eq_self, t0, t1, t5, gh, gx, gy, hqn, hkn, w1]
    refine KCall.ok hd ?_
    cases hcc : c x y with
    | false =>
      rw [hcc] at hsn
      simp (implicitDefEqProofs := false) only [↓reduceIte, go_sem, oread, owrite, Nat.reduceAdd, Nat.reduceSub, Nat.reduceMul, Nat.reduceLT, Nat.reduceLeDiff, Nat.reduceEqDiff, Nat.reduceBEq, Int.reduceLE, Int.reduceLT, Int.reduceEq, Int.reduceNe, Int.reduceAdd, Int.reduceSub, Int.reduceMul, Int.reduceNeg, Int.reduceToNat, Int.reduceNatCast, reduceCtorEq, eq_self, t5, w2]
      refine Rnd.same ⟨rfl, ?_, ?_⟩
      · rw [← hq, hsn, hp, e1]; rfl
      · simp (implicitDefEqProofs := false) only [↓reduceIte, go_sem, oread, owrite, Nat.reduceAdd, Nat.reduceSub, Nat.reduceMul, Nat.reduceLT, Nat.reduceLeDiff, Nat.reduceEqDiff, Nat.reduceBEq, Int.reduceLE, Int.reduceLT, Int.reduceEq, Int.reduceNe, Int.reduceAdd, Int.reduceSub, Int.reduceMul, Int.reduceNeg, Int.reduceToNat, Int.reduceNatCast, reduceCtorEq, eq_self, t0, t1, show ((k : Int) + 1) = (q : Int) by omega]
    | true =>
      rw [hcc] at hsn
      have hsn2 : St.compactP c (L.take (q + 1)) = L.take q := by rw [hsn, hp]; simp
      simp (implicitDefEqProofs := false) only [↓reduceIte, go_sem, oread, owrite, Nat.reduceAdd, Nat.reduceSub, Nat.reduceMul, Nat.reduceLT, Nat.reduceLeDiff, Nat.reduceEqDiff, Nat.reduceBEq, Int.reduceLE, Int.reduceLT, Int.reduceEq, Int.reduceNe, Int.reduceAdd, Int.reduceSub, Int.reduceMul, Int.reduceNeg, Int.reduceToNat, Int.reduceNatCast, reduceCtorEq, eq_self, t0, t5, gh]
      refine ⟨by omega, .inr (by omega), ?_⟩
      have hnq : ((n : Int).toNat - q) = n - q := by omega
      refine awp_for3 (fun k2 s H' => (∃ C K1, H' = aH H id ver C ∧ C = K1 ++ L.drop K1.length ∧ K1 = St.compactP c (L.take (q + k2 + 1)) ∧ K1.length ≤ q + k2 ∧ s 5 = iA K1.length) ∧ s 0 = .sl id ver 0 n ∧ s 1 = .fn g caps ∧ s 6 = .sl id ver q (n - q) ∧ s 7 = iA ((k2 : Int) + 1)) (n - q - 1) (by omega) (Weak.refl _ _) ?_ ?_ ?_
      · refine ⟨⟨L, L.take q, hE0.symm, ?_, ?_, ?_, ?_⟩, ?_⟩
        · rw [List.length_take, Nat.min_eq_left (by omega), List.take_append_drop]
        · rw [Nat.add_zero]; exact hsn2.symm
        · rw [List.length_take]; omega
        · rw [List.length_take, Nat.min_eq_left (by omega)]; simp (implicitDefEqProofs := false) only [↓reduceIte, go_sem, oread, owrite, Nat.reduceAdd, Nat.reduceSub, Nat.reduceMul, Nat.reduceLT, Nat.reduceLeDiff, Nat.reduceEqDiff, Nat.reduceBEq, Int.reduceLE, Int.reduceLT, Int.reduceEq, Int.reduceNe, Int.reduceAdd, Int.reduceSub, Int.reduceMul, Int.reduceNeg, Int.reduceToNat, Int.reduceNatCast, reduceCtorEq, eq_self, t5]
        · simp (implicitDefEqProofs := false) only [↓reduceIte, go_sem, oread, owrite, Nat.reduceAdd, Nat.reduceSub, Nat.reduceMul, Nat.reduceLT, Nat.reduceLeDiff, Nat.reduceEqDiff, Nat.reduceBEq, Int.reduceLE, Int.reduceLT, Int.reduceEq, Int.reduceNe, Int.reduceAdd, Int.reduceSub, Int.reduceMul, Int.reduceNeg, Int.reduceToNat, Int.reduceNatCast, reduceCtorEq, eq_self, t0, t1, Nat.zero_add, hnq]
      · rintro k2 s H' hk2 hw3 ⟨⟨C, K1, rfl, hC, hK1, hKl, t5⟩, t0, t1, t6, t7⟩
        obtain ⟨u, hu⟩ : ∃ u, u = k2 + 1 := ⟨_, rfl⟩
        obtain ⟨v, hv⟩ : ∃ v, v = q + u := ⟨_, rfl⟩
        obtain ⟨x2, hx2⟩ : ∃ x, L[v]? = some x := ⟨_, List.getElem?_eq_getElem (by omega)⟩
        obtain ⟨y2, hy2⟩ : ∃ y, L[v - 1]? = some y := ⟨_, List.getElem?_eq_getElem (by omega)⟩
        have hCg : ∀ i, K1.length ≤ i → C[i]? = L[i]? := fun i hi => by
          rw [hC, List.getElem?_append_right hi, List.getElem?_drop, Nat.add_sub_cancel' hi]
        have hCl : C.length = n := by rw [hC, List.length_append, List.length_drop]; omega
        have e2 : L.take (v + 1) = L.take v ++ [x2] := by rw [List.take_add_one, hx2]; rfl
        have hsn3 : St.compactP c (L.take (v + 1)) = K1 ++ (if c x2 y2 = true then [] else [x2]) := by
          rw [e2, hK1, show q + k2 + 1 = v by omega]
          exact St.compactP_snoc (k := v - 1) (by rw [List.length_take]; omega) (by rw [List.getElem?_take, if_pos (by omega)]; exact hy2)
        have gx2 := get_enc ((hCg v (by omega)).trans hx2)
        have gy2 := get_enc ((hCg (v - 1) (by omega)).trans hy2)
        have hd2 := hcE C x2 y2
        have gC := aH_get hid ver C
        have f2 : ((k2 : Int) + 1) = (u : Int) := by omega
        rw [f2] at t7
        have w3 : IntKind.i64.wrap ((u : Int) - 1) = (k2 : Int) := by rw [wrap64_in _ (by omega) (by omega)]; omega
        have w4 : IntKind.i64.wrap ((u : Int) + 1) = (u : Int) + 1 := wrap64_in _ (by omega) (by omega)
        have f3 : q + u = v := hv.symm
        have f4 : q + k2 = v - 1 := by omega
        have hun : u < n - q := by omega
        have hkn2 : k2 < n - q := by omega
        simp only [Val.enc] at gx2 gy2
        simp only [Val.enc, List.map_cons, List.map_nil] at hd2
        simp (implicitDefEqProofs := false) only [↓reduceIte, go_sem, oread, owrite, Nat.reduceAdd, Nat.reduceSub, Nat.reduceMul, Nat.reduceLT, Nat.reduceLeDiff, Nat.reduceEqDiff, Nat.reduceBEq, Int.reduceLE, Int.reduceLT, Int.reduceEq, Int.reduceNe, Int.reduceAdd, Int.reduceSub, Int.reduceMul, Int.reduceNeg, Int.reduceToNat, Int.reduceNatCast, reduceCtorEq, eq_self, t6, t7, gC, eq_true hun]
        refine awp_draw K.mixed (by kernel_rfl) ?_
        simp (implicitDefEqProofs := false) only [↓reduceIte, go_sem, oread, owrite, Nat.reduceAdd, Nat.reduceSub, Nat.reduceMul, Nat.reduceLT, Nat.reduceLeDiff, Nat.reduceEqDiff, Nat.reduceBEq, Int.reduceLE, Int.reduceLT, Int.reduceEq, Int.reduceNe, Int.reduceAdd, Int.reduceSub, Int.reduceMul, Int.reduceNeg, Int.reduceToNat, Int.reduceNatCast, reduceCtorEq, eq_self, t1, t6, t7, gC, w3, hun, hkn2, f3, f4, gx2, gy2]
        refine KCall.ok hd2 ?_
        cases hc2 : c x2 y2 with
        | true =>
          rw [hc2] at hsn3
          simp (implicitDefEqProofs := false) only [↓reduceIte, go_sem, oread, owrite, Nat.reduceAdd, Nat.reduceSub, Nat.reduceMul, Nat.reduceLT, Nat.reduceLeDiff, Nat.reduceEqDiff, Nat.reduceBEq, Int.reduceLE, Int.reduceLT, Int.reduceEq, Int.reduceNe, Int.reduceAdd, Int.reduceSub, Int.reduceMul, Int.reduceNeg, Int.reduceToNat, Int.reduceNatCast, reduceCtorEq, eq_self, t7, w4]
          refine Rnd.same ⟨⟨C, K1, rfl, hC, ?_, by omega, ?_⟩, ?_⟩
          · rw [show q + (k2 + 1) + 1 = v + 1 by omega, hsn3]; simp
          · simp (implicitDefEqProofs := false) only [↓reduceIte, go_sem, oread, owrite, Nat.reduceAdd, Nat.reduceSub, Nat.reduceMul, Nat.reduceLT, Nat.reduceLeDiff, Nat.reduceEqDiff, Nat.reduceBEq, Int.reduceLE, Int.reduceLT, Int.reduceEq, Int.reduceNe, Int.reduceAdd, Int.reduceSub, Int.reduceMul, Int.reduceNeg, Int.reduceToNat, Int.reduceNatCast, reduceCtorEq, eq_self, t5]
          · simp (implicitDefEqProofs := false) only [↓reduceIte, go_sem, oread, owrite, Nat.reduceAdd, Nat.reduceSub, Nat.reduceMul, Nat.reduceLT, Nat.reduceLeDiff, Nat.reduceEqDiff, Nat.reduceBEq, Int.reduceLE, Int.reduceLT, Int.reduceEq, Int.reduceNe, Int.reduceAdd, Int.reduceSub, Int.reduceMul, Int.reduceNeg, Int.reduceToNat, Int.reduceNatCast, reduceCtorEq, eq_self, t0, t1, t6, show ((k2 : Int) + 1) = (u : Int) by omega]
        | false =>
          rw [hc2] at hsn3
          obtain ⟨r, hr⟩ : ∃ r, r = K1.length := ⟨_, rfl⟩
          rw [← hr] at t5
          have hrn : r < n := by omega
          have w5 : IntKind.i64.wrap ((r : Int) + 1) = ((r + 1 : Nat) : Int) := by rw [wrap64_in _ (by omega) (by omega)]; omega
          obtain ⟨r2, hr2⟩ : ∃ r2, r2 = r + 1 := ⟨_, rfl⟩
          rw [← hr2] at w5
          have s1 := set_enc C r x2
          obtain ⟨z0, hz0⟩ : ∃ z, C[r]? = some z := ⟨_, List.getElem?_eq_getElem (by omega)⟩
          have gz := get_enc hz0
          simp only [Val.enc] at s1 gz
          simp (implicitDefEqProofs := false) only [↓reduceIte, go_sem, oread, owrite, Nat.reduceAdd, Nat.reduceSub, Nat.reduceMul, Nat.reduceLT, Nat.reduceLeDiff, Nat.reduceEqDiff, Nat.reduceBEq, Int.reduceLE, Int.reduceLT, Int.reduceEq, Int.reduceNe, Int.reduceAdd, Int.reduceSub, Int.reduceMul, Int.reduceNeg, Int.reduceToNat, Int.reduceNatCast, reduceCtorEq, eq_self, t0, t5, t6, t7, gC, hun, hrn, f3, gx2, gz, s1, aH_set, w4, w5]
          refine Rnd.same ⟨⟨C.set r x2, K1 ++ [x2], by rw [← aH_fold], ?_, ?_, ?_, ?_⟩, ?_⟩
          · have e3 : L.drop r = L[r]'(by omega) :: L.drop (r + 1) := List.drop_eq_getElem_cons (by omega)
            rw [hC, ← hr, e3, set_at hr.symm]; simp [hr]
          · rw [show q + (k2 + 1) + 1 = v + 1 by omega, hsn3]; simp
          · rw [List.length_append, List.length_singleton]; omega
          · simp (implicitDefEqProofs := false) only [↓reduceIte, go_sem, oread, owrite, Nat.reduceAdd, Nat.reduceSub, Nat.reduceMul, Nat.reduceLT, Nat.reduceLeDiff, Nat.reduceEqDiff, Nat.reduceBEq, Int.reduceLE, Int.reduceLT, Int.reduceEq, Int.reduceNe, Int.reduceAdd, Int.reduceSub, Int.reduceMul, Int.reduceNeg, Int.reduceToNat, Int.reduceNatCast, reduceCtorEq, eq_self, List.length_append, show ((K1.length : Int) + 1) = (r2 : Int) by omega]
          · simp (implicitDefEqProofs := false) only [↓reduceIte, go_sem, oread, owrite, Nat.reduceAdd, Nat.reduceSub, Nat.reduceMul, Nat.reduceLT, Nat.reduceLeDiff, Nat.reduceEqDiff, Nat.reduceBEq, Int.reduceLE, Int.reduceLT, Int.reduceEq, Int.reduceNe, Int.reduceAdd, Int.reduceSub, Int.reduceMul, Int.reduceNeg, Int.reduceToNat, Int.reduceNatCast, reduceCtorEq, eq_self, t0, t1, t6, show ((k2 : Int) + 1) = (u : Int) by omega]
      · rintro s H' ⟨⟨C, K1, rfl, hC, hK1, hKl, t5⟩, t0, t1, t6, t7⟩
        have hK2 : St.compactP c L = K1 := by rw [hK1, List.take_of_length_le (by omega)]
        have hCl : C.length = n := by rw [hC, List.length_append, List.length_drop]; omega
        have gC := aH_get hid ver C
        have hlt : ((((n - q - 1 : Nat) : Int) + 1) < ((n - q : Nat) : Int)) = False := eq_false (by omega)
        obtain ⟨r, hr⟩ : ∃ r, r = K1.length := ⟨_, rfl⟩
        rw [← hr] at t5
        have hrn : ((n : Int).toNat - r) = n - r := by omega
        have hCt : C.take r = K1 := by rw [hC, hr, List.take_left]
        have hsr : setRows (C.map Val.enc) r (zrows (.agg #[.int .i64 0, .int .i64 0, .string ⟨#[]⟩]) (n - r)) = (St.compactP c L).map Val.enc ++ List.replicate (L.length - (St.compactP c L).length) zrow := by
          unfold setRows
          rw [← List.map_take, hCt, List.drop_of_length_le (by simp [zrows]; omega), List.append_nil, hK2, hn, ← hr]
          rfl
        have hfo : H.set id (.arr 24 3 ver ((St.compactP c L).map Val.enc ++ List.replicate (L.length - (St.compactP c L).length) zrow)) = E1 := hE1
        have gE : E1[id]? = some (.arr 24 3 ver ((St.compactP c L).map Val.enc ++ List.replicate (L.length - (St.compactP c L).length) zrow)) := by rw [← hfo]; simp [hid]
        simp (implicitDefEqProofs := false) only [↓reduceIte, go_sem, oread, owrite, Nat.reduceAdd, Nat.reduceSub, Nat.reduceMul, Nat.reduceLT, Nat.reduceLeDiff, Nat.reduceEqDiff, Nat.reduceBEq, Int.reduceLE, Int.reduceLT, Int.reduceEq, Int.reduceNe, Int.reduceAdd, Int.reduceSub, Int.reduceMul, Int.reduceNeg, Int.reduceToNat, Int.reduceNatCast, reduceCtorEq, eq_self, t0, t5, t6, t7, gC, hlt]
        refine ⟨by omega, .inr (by omega), ?_⟩
        rw [hsr, aH_set, hfo]
        simp (implicitDefEqProofs := false) only [↓reduceIte, go_sem, oread, owrite, Nat.reduceAdd, Nat.reduceSub, Nat.reduceMul, Nat.reduceLT, Nat.reduceLeDiff, Nat.reduceEqDiff, Nat.reduceBEq, Int.reduceLE, Int.reduceLT, Int.reduceEq, Int.reduceNe, Int.reduceAdd, Int.reduceSub, Int.reduceMul, Int.reduceNeg, Int.reduceToNat, Int.reduceNatCast, reduceCtorEq, eq_self, t0, t5, gE]
        refine ⟨by omega, .inl trivial, _, Weak.refl _ _, ?_⟩
        simp (implicitDefEqProofs := false) only [↓reduceIte, go_sem, oread, owrite, Nat.reduceAdd, Nat.reduceSub, Nat.reduceMul, Nat.reduceLT, Nat.reduceLeDiff, Nat.reduceEqDiff, Nat.reduceBEq, Int.reduceLE, Int.reduceLT, Int.reduceEq, Int.reduceNe, Int.reduceAdd, Int.reduceSub, Int.reduceMul, Int.reduceNeg, Int.reduceToNat, Int.reduceNatCast, reduceCtorEq, eq_self, hK2, ← hr, Nat.sub_zero]
  · rintro s H' ⟨rfl, hp, t0, t1, t5⟩
    have hsame : St.compactP c L = L := by rwa [show n - 1 + 1 = n by omega, ← hn, List.take_length] at hp
    have he : H' = E1 := by rw [← hE1, compH_same _ _ _ _ _ hsame, hE0]
    simp (implicitDefEqProofs := false) only [↓reduceIte, go_sem, oread, owrite, Nat.reduceAdd, Nat.reduceSub, Nat.reduceMul, Nat.reduceLT, Nat.reduceLeDiff, Nat.reduceEqDiff, Nat.reduceBEq, Int.reduceLE, Int.reduceLT, Int.reduceEq, Int.reduceNe, Int.reduceAdd, Int.reduceSub, Int.reduceMul, Int.reduceNeg, Int.reduceToNat, Int.reduceNatCast, reduceCtorEq, eq_self, t0, t5, gh, show (((n - 1 : Nat) : Int) + 1 < (n : Int)) = False from eq_false (by omega)]
    rw [← he, hsame, hn]
    refine AEnd.ret0 ?_
    simp (implicitDefEqProofs := false) only [↓reduceIte, go_sem, oread, owrite, Nat.reduceAdd, Nat.reduceSub, Nat.reduceMul, Nat.reduceLT, Nat.reduceLeDiff, Nat.reduceEqDiff, Nat.reduceBEq, Int.reduceLE, Int.reduceLT, Int.reduceEq, Int.reduceNe, Int.reduceAdd, Int.reduceSub, Int.reduceMul, Int.reduceNeg, Int.reduceToNat, Int.reduceNatCast, reduceCtorEq, eq_self]
end SV
end Go.Proofs.Ytkapgooedfompaa
namespace Go.Proofs.Ytkapgooedfompaa
open Go.Proofs.YtkapgooedfompaaAw Go.RowKit
set_option linter.unusedVariables false
set_option linter.unusedSimpArgs false
/-! ### Same -/
set_option maxRecDepth 10000 in
set_option maxHeartbeats 2000000 in
theorem same05_does (l m : List Val) (n1 n2 : Bool) (H : AHeap) (hl : l.length ≤ 1000000000000) : Does Try.prog 17 [.d (.list n1 (l.map Val.enc)), .d (.list n2 (m.map Val.enc))] H (.ok (bA (decide (l = m)))) H := by
  refine Does.of_awp (hint := (fun _ => false)) Try.func17 (by kernel_rfl) rfl [4] (by kernel_rfl) (by decide) (by simp [Try.ntmps17]) ?_
  rw [Try.ntmps17]
  simp (implicitDefEqProofs := false) only [↓reduceIte, go_sem, oread, owrite, Nat.reduceAdd, Nat.reduceSub, Nat.reduceMul, Nat.reduceLT, Nat.reduceLeDiff, Nat.reduceEqDiff, Nat.reduceBEq, Int.reduceLE, Int.reduceLT, Int.reduceEq, Int.reduceNe, Int.reduceAdd, Int.reduceSub, Int.reduceMul, Int.reduceNeg, Int.reduceToNat, Int.reduceNatCast, reduceCtorEq, eq_self]
  by_cases hlm : l.length = m.length
  · refine awp_F (by simp (implicitDefEqProofs := false) only [↓reduceIte, go_sem, oread, owrite, Nat.reduceAdd, Nat.reduceSub, Nat.reduceMul, Nat.reduceLT, Nat.reduceLeDiff, Nat.reduceEqDiff, Nat.reduceBEq, Int.reduceLE, Int.reduceLT, Int.reduceEq, Int.reduceNe, Int.reduceAdd, Int.reduceSub, Int.reduceMul, Int.reduceNeg, Int.reduceToNat, Int.reduceNatCast, reduceCtorEq, eq_self, hlm]) ?_
    simp (implicitDefEqProofs := false) only [↓reduceIte, go_sem, oread, owrite, Nat.reduceAdd, Nat.reduceSub, Nat.reduceMul, Nat.reduceLT, Nat.reduceLeDiff, Nat.reduceEqDiff, Nat.reduceBEq, Int.reduceLE, Int.reduceLT, Int.reduceEq, Int.reduceNe, Int.reduceAdd, Int.reduceSub, Int.reduceMul, Int.reduceNeg, Int.reduceToNat, Int.reduceNatCast, reduceCtorEq, eq_self]
    refine awp_for3 (fun k s H' => H' = H ∧ l.take k = m.take k ∧ s 0 = .d (.list n1 (l.map Val.enc)) ∧ s 1 = .d (.list n2 (m.map Val.enc)) ∧ s 5 = iA k) l.length (by omega) (Weak.refl _ _) ?_ ?_ ?_
    · simp (implicitDefEqProofs := false) only [↓reduceIte, go_sem, oread, owrite, Nat.reduceAdd, Nat.reduceSub, Nat.reduceMul, Nat.reduceLT, Nat.reduceLeDiff, Nat.reduceEqDiff, Nat.reduceBEq, Int.reduceLE, Int.reduceLT, Int.reduceEq, Int.reduceNe, Int.reduceAdd, Int.reduceSub, Int.reduceMul, Int.reduceNeg, Int.reduceToNat, Int.reduceNatCast, reduceCtorEq, eq_self, List.take_zero]
    · rintro k s H' hk hw ⟨rfl, hp, h0, h1, h5⟩
      have hx := List.getElem?_eq_getElem hk
      have hy := List.getElem?_eq_getElem (show k < m.length by omega)
      have e1 := List.take_succ_eq_append_getElem hk
      have e2 := List.take_succ_eq_append_getElem (show k < m.length by omega)
      have e3 : ∀ (g : l = m), l[k] = m[k]'(by omega) := by intro g; subst g; rfl
      generalize l[k] = x at hx e1 e3
      generalize m[k]'(by omega) = y at hy e2 e3
      have hk2 : k < m.length := by omega
      simp (implicitDefEqProofs := false) only [↓reduceIte, go_sem, oread, owrite, Nat.reduceAdd, Nat.reduceSub, Nat.reduceMul, Nat.reduceLT, Nat.reduceLeDiff, Nat.reduceEqDiff, Nat.reduceBEq, Int.reduceLE, Int.reduceLT, Int.reduceEq, Int.reduceNe, Int.reduceAdd, Int.reduceSub, Int.reduceMul, Int.reduceNeg, Int.reduceToNat, Int.reduceNatCast, reduceCtorEq, eq_self, h0, h1, h5, hk]
      refine awp_draw K.mixed (by kernel_rfl) ?_
      simp (implicitDefEqProofs := false) only [↓reduceIte, go_sem, oread, owrite, Nat.reduceAdd, Nat.reduceSub, Nat.reduceMul, Nat.reduceLT, Nat.reduceLeDiff, Nat.reduceEqDiff, Nat.reduceBEq, Int.reduceLE, Int.reduceLT, Int.reduceEq, Int.reduceNe, Int.reduceAdd, Int.reduceSub, Int.reduceMul, Int.reduceNeg, Int.reduceToNat, Int.reduceNatCast, reduceCtorEq, eq_self, h0, h1, h5, hx, hy, hk, hk2, Val.enc, sameV_eq]
      by_cases hxy : x = y
      · refine awp_F (by simp (implicitDefEqProofs := false) only [↓reduceIte, go_sem, oread, owrite, Nat.reduceAdd, Nat.reduceSub, Nat.reduceMul, Nat.reduceLT, Nat.reduceLeDiff, Nat.reduceEqDiff, Nat.reduceBEq, Int.reduceLE, Int.reduceLT, Int.reduceEq, Int.reduceNe, Int.reduceAdd, Int.reduceSub, Int.reduceMul, Int.reduceNeg, Int.reduceToNat, Int.reduceNatCast, reduceCtorEq, eq_self, hxy]) ?_
        simp (implicitDefEqProofs := false) only [↓reduceIte, go_sem, oread, owrite, Nat.reduceAdd, Nat.reduceSub, Nat.reduceMul, Nat.reduceLT, Nat.reduceLeDiff, Nat.reduceEqDiff, Nat.reduceBEq, Int.reduceLE, Int.reduceLT, Int.reduceEq, Int.reduceNe, Int.reduceAdd, Int.reduceSub, Int.reduceMul, Int.reduceNeg, Int.reduceToNat, Int.reduceNatCast, reduceCtorEq, eq_self, h5]
        refine Rnd.same ⟨rfl, by rw [e1, e2, hp, hxy], ?_⟩
        simp (implicitDefEqProofs := false) only [↓reduceIte, go_sem, oread, owrite, Nat.reduceAdd, Nat.reduceSub, Nat.reduceMul, Nat.reduceLT, Nat.reduceLeDiff, Nat.reduceEqDiff, Nat.reduceBEq, Int.reduceLE, Int.reduceLT, Int.reduceEq, Int.reduceNe, Int.reduceAdd, Int.reduceSub, Int.reduceMul, Int.reduceNeg, Int.reduceToNat, Int.reduceNatCast, reduceCtorEq, eq_self, h0, h1, hw]
      · refine awp_T (by simp (implicitDefEqProofs := false) only [↓reduceIte, go_sem, oread, owrite, Nat.reduceAdd, Nat.reduceSub, Nat.reduceMul, Nat.reduceLT, Nat.reduceLeDiff, Nat.reduceEqDiff, Nat.reduceBEq, Int.reduceLE, Int.reduceLT, Int.reduceEq, Int.reduceNe, Int.reduceAdd, Int.reduceSub, Int.reduceMul, Int.reduceNeg, Int.reduceToNat, Int.reduceNatCast, reduceCtorEq, eq_self, hxy]) ?_
        simp (implicitDefEqProofs := false) only [↓reduceIte, go_sem, oread, owrite, Nat.reduceAdd, Nat.reduceSub, Nat.reduceMul, Nat.reduceLT, Nat.reduceLeDiff, Nat.reduceEqDiff, Nat.reduceBEq, Int.reduceLE, Int.reduceLT, Int.reduceEq, Int.reduceNe, Int.reduceAdd, Int.reduceSub, Int.reduceMul, Int.reduceNeg, Int.reduceToNat, Int.reduceNatCast, reduceCtorEq, eq_self]
        refine AEnd.ret0 ?_
        simp (implicitDefEqProofs := false) only [↓reduceIte, go_sem, oread, owrite, Nat.reduceAdd, Nat.reduceSub, Nat.reduceMul, Nat.reduceLT, Nat.reduceLeDiff, Nat.reduceEqDiff, Nat.reduceBEq, Int.reduceLE, Int.reduceLT, Int.reduceEq, Int.reduceNe, Int.reduceAdd, Int.reduceSub, Int.reduceMul, Int.reduceNeg, Int.reduceToNat, Int.reduceNatCast, reduceCtorEq, eq_self, show ¬ l = m from fun g => hxy (e3 g)]
    · rintro s H' ⟨rfl, hp, h0, h1, h5⟩
      simp (implicitDefEqProofs := false) only [↓reduceIte, go_sem, oread, owrite, Nat.reduceAdd, Nat.reduceSub, Nat.reduceMul, Nat.reduceLT, Nat.reduceLeDiff, Nat.reduceEqDiff, Nat.reduceBEq, Int.reduceLE, Int.reduceLT, Int.reduceEq, Int.reduceNe, Int.reduceAdd, Int.reduceSub, Int.reduceMul, Int.reduceNeg, Int.reduceToNat, Int.reduceNatCast, reduceCtorEq, eq_self, h0, h1, h5]
      refine AEnd.ret0 ?_
      rw [List.take_length, hlm, List.take_length] at hp
      simp (implicitDefEqProofs := false) only [↓reduceIte, go_sem, oread, owrite, Nat.reduceAdd, Nat.reduceSub, Nat.reduceMul, Nat.reduceLT, Nat.reduceLeDiff, Nat.reduceEqDiff, Nat.reduceBEq, Int.reduceLE, Int.reduceLT, Int.reduceEq, Int.reduceNe, Int.reduceAdd, Int.reduceSub, Int.reduceMul, Int.reduceNeg, Int.reduceToNat, Int.reduceNatCast, reduceCtorEq, eq_self, hp]
  · simp (implicitDefEqProofs := false) only [↓reduceIte, go_sem, oread, owrite, Nat.reduceAdd, Nat.reduceSub, Nat.reduceMul, Nat.reduceLT, Nat.reduceLeDiff, Nat.reduceEqDiff, Nat.reduceBEq, Int.reduceLE, Int.reduceLT, Int.reduceEq, Int.reduceNe, Int.reduceAdd, Int.reduceSub, Int.reduceMul, Int.reduceNeg, Int.reduceToNat, Int.reduceNatCast, reduceCtorEq, eq_self, hlm, show ((l.length : Int) = (m.length : Int)) = False from eq_false (by omega)]
    refine AEnd.ret0 ?_
    simp (implicitDefEqProofs := false) only [↓reduceIte, go_sem, oread, owrite, Nat.reduceAdd, Nat.reduceSub, Nat.reduceMul, Nat.reduceLT, Nat.reduceLeDiff, Nat.reduceEqDiff, Nat.reduceBEq, Int.reduceLE, Int.reduceLT, Int.reduceEq, Int.reduceNe, Int.reduceAdd, Int.reduceSub, Int.reduceMul, Int.reduceNeg, Int.reduceToNat, Int.reduceNatCast, reduceCtorEq, eq_self, show ¬ l = m from fun g => hlm (by rw [g])]
end Go.Proofs.Ytkapgooedfompaa
namespace Go.Proofs.Ytkapgooedfompaa
open Go.Proofs.YtkapgooedfompaaAw Go.RowKit
set_option linter.unusedVariables false
set_option linter.unusedSimpArgs false
/-! ### Same -/
set_option maxRecDepth 10000 in
set_option maxHeartbeats 1000000 in
theorem same01_does (l m : List Nat) (n1 n2 : Bool) (H : AHeap) (hl : l.length ≤ 9223372036854775807) :
    Does Try.prog 12 [.d (.list n1 (us l)), .d (.list n2 (us m))] H (.ok (bA (decide (l = m)))) H := by
  refine Does.of_awp (hint := (fun _ => false)) Try.func12 (by kernel_rfl) rfl [4] (by kernel_rfl) (by decide) (by simp [Try.ntmps12]) ?_
  rw [Try.ntmps12]
  simp (implicitDefEqProofs := false) only [↓reduceIte, go_sem, oread, owrite, Nat.reduceAdd, Nat.reduceSub, Nat.reduceMul, Nat.reduceLT, Nat.reduceLeDiff, Nat.reduceEqDiff, Nat.reduceBEq, Int.reduceLE, Int.reduceLT, Int.reduceEq, Int.reduceNe, Int.reduceAdd, Int.reduceSub, Int.reduceMul, Int.reduceNeg, Int.reduceToNat, Int.reduceNatCast, reduceCtorEq, eq_self, us_len]
  by_cases hlm : l.length = m.length
  · refine awp_F (by simp (implicitDefEqProofs := false) only [↓reduceIte, go_sem, oread, owrite, Nat.reduceAdd, Nat.reduceSub, Nat.reduceMul, Nat.reduceLT, Nat.reduceLeDiff, Nat.reduceEqDiff, Nat.reduceBEq, Int.reduceLE, Int.reduceLT, Int.reduceEq, Int.reduceNe, Int.reduceAdd, Int.reduceSub, Int.reduceMul, Int.reduceNeg, Int.reduceToNat, Int.reduceNatCast, reduceCtorEq, eq_self, hlm]) ?_
    simp (implicitDefEqProofs := false) only [↓reduceIte, go_sem, oread, owrite, Nat.reduceAdd, Nat.reduceSub, Nat.reduceMul, Nat.reduceLT, Nat.reduceLeDiff, Nat.reduceEqDiff, Nat.reduceBEq, Int.reduceLE, Int.reduceLT, Int.reduceEq, Int.reduceNe, Int.reduceAdd, Int.reduceSub, Int.reduceMul, Int.reduceNeg, Int.reduceToNat, Int.reduceNatCast, reduceCtorEq, eq_self]
    refine awp_for3 (fun k s H' => H' = H ∧ l.take k = m.take k ∧ s 0 = .d (.list n1 (us l)) ∧ s 1 = .d (.list n2 (us m)) ∧ s 5 = iA k) l.length hl (Weak.refl _ _) ?_ ?_ ?_
    · simp (implicitDefEqProofs := false) only [↓reduceIte, go_sem, oread, owrite, Nat.reduceAdd, Nat.reduceSub, Nat.reduceMul, Nat.reduceLT, Nat.reduceLeDiff, Nat.reduceEqDiff, Nat.reduceBEq, Int.reduceLE, Int.reduceLT, Int.reduceEq, Int.reduceNe, Int.reduceAdd, Int.reduceSub, Int.reduceMul, Int.reduceNeg, Int.reduceToNat, Int.reduceNatCast, reduceCtorEq, eq_self, List.take_zero]
    · rintro k s H' hk hw ⟨rfl, hp, h0, h1, h5⟩
      have hx := us_get l k hk
      have hy := us_get m k (by omega)
      have e1 := List.take_succ_eq_append_getElem hk
      have e2 := List.take_succ_eq_append_getElem (show k < m.length by omega)
      have e3 : ∀ (g : l = m), l[k] = m[k]'(by omega) := by intro g; subst g; rfl
      generalize l[k] = x at hx e1 e3
      generalize m[k]'(by omega) = y at hy e2 e3
      simp (implicitDefEqProofs := false) only [↓reduceIte, go_sem, oread, owrite, Nat.reduceAdd, Nat.reduceSub, Nat.reduceMul, Nat.reduceLT, Nat.reduceLeDiff, Nat.reduceEqDiff, Nat.reduceBEq, Int.reduceLE, Int.reduceLT, Int.reduceEq, Int.reduceNe, Int.reduceAdd, Int.reduceSub, Int.reduceMul, Int.reduceNeg, Int.reduceToNat, Int.reduceNatCast, reduceCtorEq, eq_self, h0, h1, h5, hk, us_len]
      refine awp_draw K.mixed (by kernel_rfl) ?_
      simp (implicitDefEqProofs := false) only [↓reduceIte, go_sem, oread, owrite, Nat.reduceAdd, Nat.reduceSub, Nat.reduceMul, Nat.reduceLT, Nat.reduceLeDiff, Nat.reduceEqDiff, Nat.reduceBEq, Int.reduceLE, Int.reduceLT, Int.reduceEq, Int.reduceNe, Int.reduceAdd, Int.reduceSub, Int.reduceMul, Int.reduceNeg, Int.reduceToNat, Int.reduceNatCast, reduceCtorEq, eq_self, h0, h1, h5, hx, hy]
      by_cases hxy : (x : Int) = (y : Int)
      · refine awp_F (by simp (implicitDefEqProofs := false) only [↓reduceIte, go_sem, oread, owrite, Nat.reduceAdd, Nat.reduceSub, Nat.reduceMul, Nat.reduceLT, Nat.reduceLeDiff, Nat.reduceEqDiff, Nat.reduceBEq, Int.reduceLE, Int.reduceLT, Int.reduceEq, Int.reduceNe, Int.reduceAdd, Int.reduceSub, Int.reduceMul, Int.reduceNeg, Int.reduceToNat, Int.reduceNatCast, reduceCtorEq, eq_self, hxy]) ?_
        simp (implicitDefEqProofs := false) only [↓reduceIte, go_sem, oread, owrite, Nat.reduceAdd, Nat.reduceSub, Nat.reduceMul, Nat.reduceLT, Nat.reduceLeDiff, Nat.reduceEqDiff, Nat.reduceBEq, Int.reduceLE, Int.reduceLT, Int.reduceEq, Int.reduceNe, Int.reduceAdd, Int.reduceSub, Int.reduceMul, Int.reduceNeg, Int.reduceToNat, Int.reduceNatCast, reduceCtorEq, eq_self, h5]
        refine Rnd.same ⟨rfl, by rw [e1, e2, hp, show x = y by omega], ?_⟩
        simp (implicitDefEqProofs := false) only [↓reduceIte, go_sem, oread, owrite, Nat.reduceAdd, Nat.reduceSub, Nat.reduceMul, Nat.reduceLT, Nat.reduceLeDiff, Nat.reduceEqDiff, Nat.reduceBEq, Int.reduceLE, Int.reduceLT, Int.reduceEq, Int.reduceNe, Int.reduceAdd, Int.reduceSub, Int.reduceMul, Int.reduceNeg, Int.reduceToNat, Int.reduceNatCast, reduceCtorEq, eq_self, h0, h1, hw]
      · refine awp_T (by simp (implicitDefEqProofs := false) only [↓reduceIte, go_sem, oread, owrite, Nat.reduceAdd, Nat.reduceSub, Nat.reduceMul, Nat.reduceLT, Nat.reduceLeDiff, Nat.reduceEqDiff, Nat.reduceBEq, Int.reduceLE, Int.reduceLT, Int.reduceEq, Int.reduceNe, Int.reduceAdd, Int.reduceSub, Int.reduceMul, Int.reduceNeg, Int.reduceToNat, Int.reduceNatCast, reduceCtorEq, eq_self, hxy]) ?_
        simp (implicitDefEqProofs := false) only [↓reduceIte, go_sem, oread, owrite, Nat.reduceAdd, Nat.reduceSub, Nat.reduceMul, Nat.reduceLT, Nat.reduceLeDiff, Nat.reduceEqDiff, Nat.reduceBEq, Int.reduceLE, Int.reduceLT, Int.reduceEq, Int.reduceNe, Int.reduceAdd, Int.reduceSub, Int.reduceMul, Int.reduceNeg, Int.reduceToNat, Int.reduceNatCast, reduceCtorEq, eq_self]
        refine AEnd.ret0 ?_
        simp (implicitDefEqProofs := false) only [↓reduceIte, go_sem, oread, owrite, Nat.reduceAdd, Nat.reduceSub, Nat.reduceMul, Nat.reduceLT, Nat.reduceLeDiff, Nat.reduceEqDiff, Nat.reduceBEq, Int.reduceLE, Int.reduceLT, Int.reduceEq, Int.reduceNe, Int.reduceAdd, Int.reduceSub, Int.reduceMul, Int.reduceNeg, Int.reduceToNat, Int.reduceNatCast, reduceCtorEq, eq_self, show ¬ l = m from fun g => hxy (by rw [e3 g])]
    · rintro s H' ⟨rfl, hp, h0, h1, h5⟩
      simp (implicitDefEqProofs := false) only [↓reduceIte, go_sem, oread, owrite, Nat.reduceAdd, Nat.reduceSub, Nat.reduceMul, Nat.reduceLT, Nat.reduceLeDiff, Nat.reduceEqDiff, Nat.reduceBEq, Int.reduceLE, Int.reduceLT, Int.reduceEq, Int.reduceNe, Int.reduceAdd, Int.reduceSub, Int.reduceMul, Int.reduceNeg, Int.reduceToNat, Int.reduceNatCast, reduceCtorEq, eq_self, h0, h1, h5, us_len]
      refine AEnd.ret0 ?_
      rw [List.take_length, hlm, List.take_length] at hp
      simp (implicitDefEqProofs := false) only [↓reduceIte, go_sem, oread, owrite, Nat.reduceAdd, Nat.reduceSub, Nat.reduceMul, Nat.reduceLT, Nat.reduceLeDiff, Nat.reduceEqDiff, Nat.reduceBEq, Int.reduceLE, Int.reduceLT, Int.reduceEq, Int.reduceNe, Int.reduceAdd, Int.reduceSub, Int.reduceMul, Int.reduceNeg, Int.reduceToNat, Int.reduceNatCast, reduceCtorEq, eq_self, hp]
  · simp (implicitDefEqProofs := false) only [↓reduceIte, go_sem, oread, owrite, Nat.reduceAdd, Nat.reduceSub, Nat.reduceMul, Nat.reduceLT, Nat.reduceLeDiff, Nat.reduceEqDiff, Nat.reduceBEq, Int.reduceLE, Int.reduceLT, Int.reduceEq, Int.reduceNe, Int.reduceAdd, Int.reduceSub, Int.reduceMul, Int.reduceNeg, Int.reduceToNat, Int.reduceNatCast, reduceCtorEq, eq_self, hlm, show ((l.length : Int) = (m.length : Int)) = False from eq_false (by omega)]
    refine AEnd.ret0 ?_
    simp (implicitDefEqProofs := false) only [↓reduceIte, go_sem, oread, owrite, Nat.reduceAdd, Nat.reduceSub, Nat.reduceMul, Nat.reduceLT, Nat.reduceLeDiff, Nat.reduceEqDiff, Nat.reduceBEq, Int.reduceLE, Int.reduceLT, Int.reduceEq, Int.reduceNe, Int.reduceAdd, Int.reduceSub, Int.reduceMul, Int.reduceNeg, Int.reduceToNat, Int.reduceNatCast, reduceCtorEq, eq_self, show ¬ l = m from fun g => hlm (by rw [g])]
end Go.Proofs.Ytkapgooedfompaa
namespace Go.Proofs.Ytkapgooedfompaa
open Go.Proofs.YtkapgooedfompaaAw Go.RowKit
set_option linter.unusedVariables false
def I64 (n : Int) : Prop := -9223372036854775808 ≤ n ∧ n ≤ 9223372036854775807
theorem I64.of {n : Int} (h : (Lit.int .i64 n).wf = true) : I64 n := by
  have h : IntKind.i64.min ≤ n ∧ n ≤ IntKind.i64.max := by simpa [Lit.wf] using h
  have h0 : IntKind.i64.min = -9223372036854775808 := by decide
  have h1 : IntKind.i64.max = 9223372036854775807 := by decide
  exact ⟨by omega, by omega⟩
theorem FitsL.nil_inv {xs : List D} (h : FitsL [] xs) : xs = [] := by cases h; rfl
theorem FitsL.cons_inv {s : Sh} {ss : List Sh} {xs : List D} (h : FitsL (s :: ss) xs) : ∃ x xs', xs = x :: xs' ∧ Fits s x ∧ FitsL ss xs' := by cases h with | cons h t => exact ⟨_, _, rfl, h, t⟩
theorem Fits.int_inv {k : IntKind} {d : D} (h : Fits (.int k) d) : ∃ n, d = .v (.int k n) ∧ (Lit.int k n).wf = true := by cases h with | int k n h => exact ⟨n, rfl, h⟩
theorem Fits.i64_inv {d : D} (h : Fits (.int .i64) d) : ∃ n, d = .v (.int .i64 n) ∧ I64 n := by obtain ⟨n, rfl, g⟩ := Fits.int_inv h; exact ⟨n, rfl, .of g⟩
theorem Fits.bool_inv {d : D} (h : Fits .bool d) : ∃ b, d = .v (.bool b) := by cases h with | bool b => exact ⟨b, rfl⟩
theorem Fits.str_inv {d : D} (h : Fits .str d) : ∃ s, d = .v (.string s) ∧ s.size ≤ 140737488351232 := by cases h with | str s h => exact ⟨s, rfl, h⟩
theorem Fits.slice_inv {b : Nat} {es : List Sh} {d : D} (h : Fits (.slice b es) d) : ∃ l, d = .list false l ∧ l.length * b ≤ 140737488351232 ∧ ∀ e ∈ l, FitsL es e := by cases h with | slice b es l h1 h2 h => exact ⟨l, rfl, h1, h⟩
theorem map_inv {α : Type} {enc : α → List D} {p : α → Prop} : ∀ {l : List (List D)}, (∀ e ∈ l, ∃ a, e = enc a ∧ p a) → ∃ la : List α, l = la.map enc ∧ ∀ a ∈ la, p a
  | [], _ => ⟨[], rfl, fun a h => by simp at h⟩
  | e :: l, h => by
    obtain ⟨a, rfl, ha⟩ := h e (List.mem_cons_self ..)
    obtain ⟨la, rfl, hl⟩ := map_inv (l := l) fun e he => h e (by simp [he])
    exact ⟨a :: la, rfl, fun b hb => by rcases List.mem_cons.1 hb with rfl | hb; exact ha; exact hl b hb⟩
structure Val.Ok (v : Val) : Prop where
  kind : I64 v.kind
  i : I64 v.i
  s : v.s.size ≤ 140737488351232
structure Atom.Ok (a : Atom) : Prop where
  col : I64 a.col
  op : I64 a.op
  val : a.val.Ok
def shVal : List Sh := [.int .i64, .int .i64, .str]
def shAtom : List Sh := [.int .i64, .int .i64, .int .i64, .int .i64, .str]
theorem val_inv {ds : List D} (h : FitsL shVal ds) : ∃ v : Val, ds = v.enc ∧ v.Ok := by
  obtain ⟨x, xs, rfl, hx, h⟩ := FitsL.cons_inv h
  obtain ⟨y, xs, rfl, hy, h⟩ := FitsL.cons_inv h
  obtain ⟨z, xs, rfl, hz, h⟩ := FitsL.cons_inv h
  cases FitsL.nil_inv h
  obtain ⟨k, rfl, hk⟩ := Fits.i64_inv hx
  obtain ⟨i, rfl, hi⟩ := Fits.i64_inv hy
  obtain ⟨s, rfl, hs⟩ := Fits.str_inv hz
  exact ⟨⟨k, i, s⟩, rfl, hk, hi, hs⟩
theorem atom_inv {ds : List D} (h : FitsL shAtom ds) : ∃ a : Atom, ds = a.enc ∧ a.Ok := by
  obtain ⟨c, xs, rfl, hc, h⟩ := FitsL.cons_inv h
  obtain ⟨o, xs, rfl, ho, h⟩ := FitsL.cons_inv h
  obtain ⟨v, rfl, hv⟩ := val_inv h
  obtain ⟨k, rfl, hk⟩ := Fits.i64_inv hc
  obtain ⟨i, rfl, hi⟩ := Fits.i64_inv ho
  exact ⟨⟨k, i, v⟩, rfl, hk, hi, hv⟩
theorem ints_inv {b : Nat} {d : D} (h : Fits (.slice b [.int .i64]) d) : ∃ l : List Int, d = .list false (ints l) ∧ l.length * b ≤ 140737488351232 ∧ ∀ n ∈ l, I64 n := by
  obtain ⟨l, rfl, h1, h2⟩ := Fits.slice_inv h
  obtain ⟨la, rfl, h3⟩ := map_inv (enc := fun n : Int => [.v (.int .i64 n)]) (p := I64) fun e he => by
    obtain ⟨x, xs, rfl, hx, h⟩ := FitsL.cons_inv (h2 e he)
    cases FitsL.nil_inv h
    obtain ⟨n, rfl, hn⟩ := Fits.i64_inv hx
    exact ⟨n, rfl, hn⟩
  exact ⟨la, rfl, by simpa using h1, h3⟩
theorem vals_inv {b : Nat} {d : D} (h : Fits (.slice b shVal) d) : ∃ l : List Val, d = .list false (l.map Val.enc) ∧ l.length * b ≤ 140737488351232 ∧ ∀ v ∈ l, v.Ok := by
  obtain ⟨l, rfl, h1, h2⟩ := Fits.slice_inv h
  obtain ⟨la, rfl, h3⟩ := map_inv (enc := Val.enc) (p := Val.Ok) fun e he => val_inv (h2 e he)
  exact ⟨la, rfl, by simpa using h1, h3⟩
theorem atoms_inv {b : Nat} {d : D} (h : Fits (.slice b shAtom) d) : ∃ l : List Atom, d = .list false (l.map Atom.enc) ∧ l.length * b ≤ 140737488351232 ∧ ∀ v ∈ l, v.Ok := by
  obtain ⟨l, rfl, h1, h2⟩ := Fits.slice_inv h
  obtain ⟨la, rfl, h3⟩ := map_inv (enc := Atom.enc) (p := Atom.Ok) fun e he => atom_inv (h2 e he)
  exact ⟨la, rfl, by simpa using h1, h3⟩
theorem arg_one {P : Program} {t : TypeId} {x : AV} {sh : Sh} (h : ArgOk P t x) (hg : agB P t = some false) (hs : shOf P 9 t = some [sh]) : ∃ d, x = .d d ∧ Fits sh d := by
  rcases h with ⟨_, sh', d, hs', hf, rfl⟩ | ⟨hg', _⟩
  · rw [hs] at hs'; cases hs'; exact ⟨d, rfl, hf⟩
  · rw [hg] at hg'; cases hg'
theorem arg_agg {P : Program} {t : TypeId} {x : AV} {shs : List Sh} (h : ArgOk P t x) (hg : agB P t = some true) (hs : shOf P 9 t = some shs) : ∃ ds : List D, x = .agg (ds.map .d) ∧ FitsL shs ds := by
  rcases h with ⟨hg', _⟩ | ⟨_, shs', ds, hs', hf, rfl⟩
  · rw [hg] at hg'; cases hg'
  · rw [hs] at hs'; cases hs'; exact ⟨ds, rfl, hf⟩
end Go.Proofs.Ytkapgooedfompaa
namespace Go.Proofs.Ytkapgooedfompaa
open Go.Proofs.YtkapgooedfompaaAw Go.RowKit
set_option linter.unusedVariables false
set_option linter.unusedSimpArgs false
def eqV (a b : Val) : Bool := decide (cmpV a b = 0)
set_option maxRecDepth 10000 in
set_option maxHeartbeats 1000000 in
theorem words1_does (a b : Val) (H : AHeap) : Does Try.prog 27 [a.av, b.av] H (.ok (bA (eqV a b))) H := by
  refine Does.of_awp (hint := (fun _ => false)) Try.func27 (by kernel_rfl) rfl [4] (by kernel_rfl) (by decide) (by simp [Try.ntmps27]) ?_
  rw [Try.ntmps27]
  simp (implicitDefEqProofs := false) only [↓reduceIte, go_sem, oread, owrite, Nat.reduceAdd, Nat.reduceSub, Nat.reduceMul, Nat.reduceLT, Nat.reduceLeDiff, Nat.reduceEqDiff, Nat.reduceBEq, Int.reduceLE, Int.reduceLT, Int.reduceEq, Int.reduceNe, Int.reduceAdd, Int.reduceSub, Int.reduceMul, Int.reduceNeg, Int.reduceToNat, Int.reduceNatCast, reduceCtorEq, eq_self]
  refine KCall.ok (vcmp_does a b _) ?_
  simp (implicitDefEqProofs := false) only [↓reduceIte, go_sem, oread, owrite, Nat.reduceAdd, Nat.reduceSub, Nat.reduceMul, Nat.reduceLT, Nat.reduceLeDiff, Nat.reduceEqDiff, Nat.reduceBEq, Int.reduceLE, Int.reduceLT, Int.reduceEq, Int.reduceNe, Int.reduceAdd, Int.reduceSub, Int.reduceMul, Int.reduceNeg, Int.reduceToNat, Int.reduceNatCast, reduceCtorEq, eq_self]
  refine AEnd.ret ?_
  simp (implicitDefEqProofs := false) only [↓reduceIte, go_sem, oread, owrite, Nat.reduceAdd, Nat.reduceSub, Nat.reduceMul, Nat.reduceLT, Nat.reduceLeDiff, Nat.reduceEqDiff, Nat.reduceBEq, Int.reduceLE, Int.reduceLT, Int.reduceEq, Int.reduceNe, Int.reduceAdd, Int.reduceSub, Int.reduceMul, Int.reduceNeg, Int.reduceToNat, Int.reduceNatCast, reduceCtorEq, eq_self, eqV]
theorem wordsP_len {α : Type} (c : α → α → Int) (l : List α) : (wordsP c l).length ≤ l.length := by
  have h := St.compactP_len (eq := fun a b => decide (c a b = 0)) (St.sortS (ltT c) l)
  rwa [St.sortS_len] at h
set_option maxRecDepth 10000 in
set_option maxHeartbeats 1000000 in
theorem words_does (l : List Val) (nn : Bool) (H : AHeap) (hl : l.length ≤ 10000000000) : Does Try.prog 15 [.d (.list nn (l.map Val.enc))] H (.ok (.d (.list false ((wordsP cmpV l).map Val.enc)))) H := by
  have ho : St.Ord (SV.ltC cmpV) := cmpV_tri.ord
  obtain ⟨H1, hH1⟩ : ∃ H1, H1 = H ++ [AObj.arr 24 3 1 (l.map Val.enc)] := ⟨_, rfl⟩
  have hid : H.length < H1.length := by rw [hH1]; simp
  have e0 : H1 = SV.aH H1 H.length 1 l := by
    unfold SV.aH
    rw [hH1]; simp
  have hs := SV.sort_does H1 H.length 1 hid 22 [] cmpV ho (fun o x y => vcmp_does x y _) l.length (by omega) l rfl
  rw [← e0] at hs
  have hc := SV.compact_does H1 H.length 1 hid 27 [] eqV (fun o x y => words1_does x y _) l.length (by omega) (St.sortS (SV.ltC cmpV) l) (St.sortS_len _)
  have hk := SV.clone_does l nn H (by omega)
  rw [← hH1] at hk
  have hn : St.compactP eqV (St.sortS (SV.ltC cmpV) l) = wordsP cmpV l := rfl
  have hfin : SV.compH H1 H.length 1 eqV (St.sortS (SV.ltC cmpV) l) = H ++ [AObj.arr 24 3 1 ((wordsP cmpV l).map Val.enc ++ List.replicate (l.length - (wordsP cmpV l).length) SV.zrow)] := by
    unfold SV.compH
    rw [hH1, St.sortS_len, hn]
    simp
  refine Does.of_awp (hint := (fun _ => false)) Try.func15 (by kernel_rfl) rfl [2] (by kernel_rfl) (by decide) (by simp [Try.ntmps15]) ?_
  rw [Try.ntmps15]
  simp (implicitDefEqProofs := false) only [↓reduceIte, go_sem, oread, owrite, Nat.reduceAdd, Nat.reduceSub, Nat.reduceMul, Nat.reduceLT, Nat.reduceLeDiff, Nat.reduceEqDiff, Nat.reduceBEq, Int.reduceLE, Int.reduceLT, Int.reduceEq, Int.reduceNe, Int.reduceAdd, Int.reduceSub, Int.reduceMul, Int.reduceNeg, Int.reduceToNat, Int.reduceNatCast, reduceCtorEq, eq_self]
  refine KCall.ok hk ?_
  simp (implicitDefEqProofs := false) only [↓reduceIte, go_sem, oread, owrite, Nat.reduceAdd, Nat.reduceSub, Nat.reduceMul, Nat.reduceLT, Nat.reduceLeDiff, Nat.reduceEqDiff, Nat.reduceBEq, Int.reduceLE, Int.reduceLT, Int.reduceEq, Int.reduceNe, Int.reduceAdd, Int.reduceSub, Int.reduceMul, Int.reduceNeg, Int.reduceToNat, Int.reduceNatCast, reduceCtorEq, eq_self]
  refine KCall.ok hs ?_
  simp (implicitDefEqProofs := false) only [↓reduceIte, go_sem, oread, owrite, Nat.reduceAdd, Nat.reduceSub, Nat.reduceMul, Nat.reduceLT, Nat.reduceLeDiff, Nat.reduceEqDiff, Nat.reduceBEq, Int.reduceLE, Int.reduceLT, Int.reduceEq, Int.reduceNe, Int.reduceAdd, Int.reduceSub, Int.reduceMul, Int.reduceNeg, Int.reduceToNat, Int.reduceNatCast, reduceCtorEq, eq_self]
  refine KCall.ok hc ?_
  rw [hfin]
  simp (implicitDefEqProofs := false) only [↓reduceIte, go_sem, oread, owrite, Nat.reduceAdd, Nat.reduceSub, Nat.reduceMul, Nat.reduceLT, Nat.reduceLeDiff, Nat.reduceEqDiff, Nat.reduceBEq, Int.reduceLE, Int.reduceLT, Int.reduceEq, Int.reduceNe, Int.reduceAdd, Int.reduceSub, Int.reduceMul, Int.reduceNeg, Int.reduceToNat, Int.reduceNatCast, reduceCtorEq, eq_self, hn]
  refine AEnd.ret ?_
  have ht : ((wordsP cmpV l).map Val.enc ++ List.replicate (l.length - (wordsP cmpV l).length) SV.zrow).take (wordsP cmpV l).length = (wordsP cmpV l).map Val.enc := by rw [List.take_left' (by simp)]
  simp (implicitDefEqProofs := false) only [↓reduceIte, go_sem, oread, owrite, Nat.reduceAdd, Nat.reduceSub, Nat.reduceMul, Nat.reduceLT, Nat.reduceLeDiff, Nat.reduceEqDiff, Nat.reduceBEq, Int.reduceLE, Int.reduceLT, Int.reduceEq, Int.reduceNe, Int.reduceAdd, Int.reduceSub, Int.reduceMul, Int.reduceNeg, Int.reduceToNat, Int.reduceNatCast, reduceCtorEq, eq_self, ht]
/-! ### few -/
def fsum : List Val → Nat → Nat
  | [], n => n
  | v :: r, n => if n ≤ 100000 then fsum r (n + v.s.size) else n
theorem fsum_cons (v : Val) (r : List Val) (n : Nat) : fsum (v :: r) n = if n ≤ 100000 then fsum r (n + v.s.size) else n := rfl
def fewP (l : List Val) : Bool := decide (l.length ≤ 1000) && decide (fsum l 0 ≤ 100000)
theorem fewP_len {l : List Val} (h : fewP l = true) : l.length ≤ 1000 := by
  unfold fewP at h
  simp at h
  exact h.1
set_option maxRecDepth 10000 in
set_option maxHeartbeats 1000000 in
theorem few09_does (l : List Val) (nn : Bool) (H : AHeap) (hl : l.length ≤ 1000000000000000) (hs : ∀ v ∈ l, v.s.size ≤ 140737488351232) : Does Try.prog 9 [.d (.list nn (l.map Val.enc))] H (.ok (bA (fewP l))) H := by
  refine Does.of_awp (hint := (fun _ => false)) Try.func9 (by kernel_rfl) rfl [2] (by kernel_rfl) (by decide) (by simp [Try.ntmps9]) ?_
  rw [Try.ntmps9]
  simp (implicitDefEqProofs := false) only [↓reduceIte, go_sem, oread, owrite, Nat.reduceAdd, Nat.reduceSub, Nat.reduceMul, Nat.reduceLT, Nat.reduceLeDiff, Nat.reduceEqDiff, Nat.reduceBEq, Int.reduceLE, Int.reduceLT, Int.reduceEq, Int.reduceNe, Int.reduceAdd, Int.reduceSub, Int.reduceMul, Int.reduceNeg, Int.reduceToNat, Int.reduceNatCast, reduceCtorEq, eq_self]
  refine awp_loop _ _ _ _ (fun (k : Nat) s H' => H' = H ∧ k ≤ l.length ∧ (∃ n : Nat, n ≤ 150000000000000 ∧ fsum l 0 = fsum (l.drop k) n ∧ s 3 = iA n) ∧ s 0 = .d (.list nn (l.map Val.enc)) ∧ s 4 = iA k) (fun k => l.length - k) 0 (Weak.refl _ _) ?_ ?_
  · refine ⟨rfl, Nat.zero_le _, ⟨0, by omega, rfl, ?_⟩, ?_⟩
    · simp (implicitDefEqProofs := false) only [↓reduceIte, go_sem, oread, owrite, Nat.reduceAdd, Nat.reduceSub, Nat.reduceMul, Nat.reduceLT, Nat.reduceLeDiff, Nat.reduceEqDiff, Nat.reduceBEq, Int.reduceLE, Int.reduceLT, Int.reduceEq, Int.reduceNe, Int.reduceAdd, Int.reduceSub, Int.reduceMul, Int.reduceNeg, Int.reduceToNat, Int.reduceNatCast, reduceCtorEq, eq_self]
    · simp (implicitDefEqProofs := false) only [↓reduceIte, go_sem, oread, owrite, Nat.reduceAdd, Nat.reduceSub, Nat.reduceMul, Nat.reduceLT, Nat.reduceLeDiff, Nat.reduceEqDiff, Nat.reduceBEq, Int.reduceLE, Int.reduceLT, Int.reduceEq, Int.reduceNe, Int.reduceAdd, Int.reduceSub, Int.reduceMul, Int.reduceNeg, Int.reduceToNat, Int.reduceNatCast, reduceCtorEq, eq_self]
  · rintro k s H' ⟨rfl, hk, ⟨n, hn, hf, t3⟩, t0, t4⟩
    have hw1 : IntKind.i64.wrap ((k : Int) + 1) = (k : Int) + 1 := wrap64_in _ (by omega) (by omega)
    have fin : (k = l.length ∨ 100000 < n) → fsum l 0 = n := by
      rintro (h | h)
      · rw [hf, List.drop_of_length_le (by omega)]; rfl
      · rw [hf]
        cases l.drop k with
        | nil => rfl
        | cons v r => rw [fsum_cons, if_neg (by omega)]
    by_cases hkl : k < l.length
    · by_cases hn2 : n ≤ 100000
      · have hx := List.getElem?_eq_getElem hkl
        have e1 := List.drop_eq_getElem_cons hkl
        have hxs := hs _ (List.getElem_mem hkl)
        generalize l[k] = x at hx e1 hxs
        have hf2 : fsum l 0 = fsum (l.drop (k + 1)) (n + x.s.size) := by rw [hf, e1, fsum_cons, if_pos hn2]
        obtain ⟨n2, hn2'⟩ : ∃ n2, n2 = n + x.s.size := ⟨_, rfl⟩
        have hw2 : IntKind.i64.wrap ((n : Int) + (x.s.size : Int)) = (n2 : Int) := by rw [wrap64_in _ (by omega) (by omega)]; omega
        simp (implicitDefEqProofs := false) only [↓reduceIte, go_sem, oread, owrite, Nat.reduceAdd, Nat.reduceSub, Nat.reduceMul, Nat.reduceLT, Nat.reduceLeDiff, Nat.reduceEqDiff, Nat.reduceBEq, Int.reduceLE, Int.reduceLT, Int.reduceEq, Int.reduceNe, Int.reduceAdd, Int.reduceSub, Int.reduceMul, Int.reduceNeg, Int.reduceToNat, Int.reduceNatCast, reduceCtorEq, eq_self, t0, t3, t4, eq_true hkl, show ((n : Int) ≤ 100000) = True from eq_true (by omega)]
        simp (implicitDefEqProofs := false) only [↓reduceIte, go_sem, oread, owrite, Nat.reduceAdd, Nat.reduceSub, Nat.reduceMul, Nat.reduceLT, Nat.reduceLeDiff, Nat.reduceEqDiff, Nat.reduceBEq, Int.reduceLE, Int.reduceLT, Int.reduceEq, Int.reduceNe, Int.reduceAdd, Int.reduceSub, Int.reduceMul, Int.reduceNeg, Int.reduceToNat, Int.reduceNatCast, reduceCtorEq, eq_self, t0, t3, t4, hkl, hx, Val.enc, hw2, hw1]
        refine ⟨_, _, k + 1, Weak.refl _ _, ⟨rfl, hkl, ⟨n2, by omega, by rw [hn2']; exact hf2, ?_⟩, ?_⟩, by omega⟩
        · simp (implicitDefEqProofs := false) only [↓reduceIte, go_sem, oread, owrite, Nat.reduceAdd, Nat.reduceSub, Nat.reduceMul, Nat.reduceLT, Nat.reduceLeDiff, Nat.reduceEqDiff, Nat.reduceBEq, Int.reduceLE, Int.reduceLT, Int.reduceEq, Int.reduceNe, Int.reduceAdd, Int.reduceSub, Int.reduceMul, Int.reduceNeg, Int.reduceToNat, Int.reduceNatCast, reduceCtorEq, eq_self]
        · simp (implicitDefEqProofs := false) only [↓reduceIte, go_sem, oread, owrite, Nat.reduceAdd, Nat.reduceSub, Nat.reduceMul, Nat.reduceLT, Nat.reduceLeDiff, Nat.reduceEqDiff, Nat.reduceBEq, Int.reduceLE, Int.reduceLT, Int.reduceEq, Int.reduceNe, Int.reduceAdd, Int.reduceSub, Int.reduceMul, Int.reduceNeg, Int.reduceToNat, Int.reduceNatCast, reduceCtorEq, eq_self, t0]
      · simp (implicitDefEqProofs := false) only [↓reduceIte, go_sem, oread, owrite, Nat.reduceAdd, Nat.reduceSub, Nat.reduceMul, Nat.reduceLT, Nat.reduceLeDiff, Nat.reduceEqDiff, Nat.reduceBEq, Int.reduceLE, Int.reduceLT, Int.reduceEq, Int.reduceNe, Int.reduceAdd, Int.reduceSub, Int.reduceMul, Int.reduceNeg, Int.reduceToNat, Int.reduceNatCast, reduceCtorEq, eq_self, t0, t3, t4, eq_true hkl, show ((n : Int) ≤ 100000) = False from eq_false (by omega)]
        have hfe : fewP l = false := by unfold fewP; rw [fin (.inr (by omega))]; simp; omega
        by_cases h1 : l.length ≤ 1000
        · simp (implicitDefEqProofs := false) only [↓reduceIte, go_sem, oread, owrite, Nat.reduceAdd, Nat.reduceSub, Nat.reduceMul, Nat.reduceLT, Nat.reduceLeDiff, Nat.reduceEqDiff, Nat.reduceBEq, Int.reduceLE, Int.reduceLT, Int.reduceEq, Int.reduceNe, Int.reduceAdd, Int.reduceSub, Int.reduceMul, Int.reduceNeg, Int.reduceToNat, Int.reduceNatCast, reduceCtorEq, eq_self, t0, t3, show ((l.length : Int) ≤ 1000) = True from eq_true (by omega), show ((n : Int) ≤ 100000) = False from eq_false (by omega)]
          refine AEnd.ret0 ?_
          simp (implicitDefEqProofs := false) only [↓reduceIte, go_sem, oread, owrite, Nat.reduceAdd, Nat.reduceSub, Nat.reduceMul, Nat.reduceLT, Nat.reduceLeDiff, Nat.reduceEqDiff, Nat.reduceBEq, Int.reduceLE, Int.reduceLT, Int.reduceEq, Int.reduceNe, Int.reduceAdd, Int.reduceSub, Int.reduceMul, Int.reduceNeg, Int.reduceToNat, Int.reduceNatCast, reduceCtorEq, eq_self, hfe]
        · simp (implicitDefEqProofs := false) only [↓reduceIte, go_sem, oread, owrite, Nat.reduceAdd, Nat.reduceSub, Nat.reduceMul, Nat.reduceLT, Nat.reduceLeDiff, Nat.reduceEqDiff, Nat.reduceBEq, Int.reduceLE, Int.reduceLT, Int.reduceEq, Int.reduceNe, Int.reduceAdd, Int.reduceSub, Int.reduceMul, Int.reduceNeg, Int.reduceToNat, Int.reduceNatCast, reduceCtorEq, eq_self, t0, show ((l.length : Int) ≤ 1000) = False from eq_false (by omega)]
          refine AEnd.ret0 ?_
          simp (implicitDefEqProofs := false) only [↓reduceIte, go_sem, oread, owrite, Nat.reduceAdd, Nat.reduceSub, Nat.reduceMul, Nat.reduceLT, Nat.reduceLeDiff, Nat.reduceEqDiff, Nat.reduceBEq, Int.reduceLE, Int.reduceLT, Int.reduceEq, Int.reduceNe, Int.reduceAdd, Int.reduceSub, Int.reduceMul, Int.reduceNeg, Int.reduceToNat, Int.reduceNatCast, reduceCtorEq, eq_self, hfe]
    · simp (implicitDefEqProofs := false) only [↓reduceIte, go_sem, oread, owrite, Nat.reduceAdd, Nat.reduceSub, Nat.reduceMul, Nat.reduceLT, Nat.reduceLeDiff, Nat.reduceEqDiff, Nat.reduceBEq, Int.reduceLE, Int.reduceLT, Int.reduceEq, Int.reduceNe, Int.reduceAdd, Int.reduceSub, Int.reduceMul, Int.reduceNeg, Int.reduceToNat, Int.reduceNatCast, reduceCtorEq, eq_self, t0, t4, eq_false hkl]
      have hfe : fewP l = (decide (l.length ≤ 1000) && decide (n ≤ 100000)) := by unfold fewP; rw [fin (.inl (by omega))]
      by_cases h1 : l.length ≤ 1000
      · by_cases h2 : n ≤ 100000
        · simp (implicitDefEqProofs := false) only [↓reduceIte, go_sem, oread, owrite, Nat.reduceAdd, Nat.reduceSub, Nat.reduceMul, Nat.reduceLT, Nat.reduceLeDiff, Nat.reduceEqDiff, Nat.reduceBEq, Int.reduceLE, Int.reduceLT, Int.reduceEq, Int.reduceNe, Int.reduceAdd, Int.reduceSub, Int.reduceMul, Int.reduceNeg, Int.reduceToNat, Int.reduceNatCast, reduceCtorEq, eq_self, t0, t3, show ((l.length : Int) ≤ 1000) = True from eq_true (by omega), show ((n : Int) ≤ 100000) = True from eq_true (by omega)]
          refine AEnd.ret0 ?_
          simp (implicitDefEqProofs := false) only [↓reduceIte, go_sem, oread, owrite, Nat.reduceAdd, Nat.reduceSub, Nat.reduceMul, Nat.reduceLT, Nat.reduceLeDiff, Nat.reduceEqDiff, Nat.reduceBEq, Int.reduceLE, Int.reduceLT, Int.reduceEq, Int.reduceNe, Int.reduceAdd, Int.reduceSub, Int.reduceMul, Int.reduceNeg, Int.reduceToNat, Int.reduceNatCast, reduceCtorEq, eq_self, hfe, h1, h2, Bool.and_self]
        · simp (implicitDefEqProofs := false) only [↓reduceIte, go_sem, oread, owrite, Nat.reduceAdd, Nat.reduceSub, Nat.reduceMul, Nat.reduceLT, Nat.reduceLeDiff, Nat.reduceEqDiff, Nat.reduceBEq, Int.reduceLE, Int.reduceLT, Int.reduceEq, Int.reduceNe, Int.reduceAdd, Int.reduceSub, Int.reduceMul, Int.reduceNeg, Int.reduceToNat, Int.reduceNatCast, reduceCtorEq, eq_self, t0, t3, show ((l.length : Int) ≤ 1000) = True from eq_true (by omega), show ((n : Int) ≤ 100000) = False from eq_false (by omega)]
          refine AEnd.ret0 ?_
          simp (implicitDefEqProofs := false) only [↓reduceIte, go_sem, oread, owrite, Nat.reduceAdd, Nat.reduceSub, Nat.reduceMul, Nat.reduceLT, Nat.reduceLeDiff, Nat.reduceEqDiff, Nat.reduceBEq, Int.reduceLE, Int.reduceLT, Int.reduceEq, Int.reduceNe, Int.reduceAdd, Int.reduceSub, Int.reduceMul, Int.reduceNeg, Int.reduceToNat, Int.reduceNatCast, reduceCtorEq, eq_self, hfe, h1, h2, Bool.and_false]
      · simp (implicitDefEqProofs := false) only [↓reduceIte, go_sem, oread, owrite, Nat.reduceAdd, Nat.reduceSub, Nat.reduceMul, Nat.reduceLT, Nat.reduceLeDiff, Nat.reduceEqDiff, Nat.reduceBEq, Int.reduceLE, Int.reduceLT, Int.reduceEq, Int.reduceNe, Int.reduceAdd, Int.reduceSub, Int.reduceMul, Int.reduceNeg, Int.reduceToNat, Int.reduceNatCast, reduceCtorEq, eq_self, t0, show ((l.length : Int) ≤ 1000) = False from eq_false (by omega)]
        refine AEnd.ret0 ?_
        simp (implicitDefEqProofs := false) only [↓reduceIte, go_sem, oread, owrite, Nat.reduceAdd, Nat.reduceSub, Nat.reduceMul, Nat.reduceLT, Nat.reduceLeDiff, Nat.reduceEqDiff, Nat.reduceBEq, Int.reduceLE, Int.reduceLT, Int.reduceEq, Int.reduceNe, Int.reduceAdd, Int.reduceSub, Int.reduceMul, Int.reduceNeg, Int.reduceToNat, Int.reduceNatCast, reduceCtorEq, eq_self, hfe, h1, Bool.false_and]
/-! ### shown -/
def txA : Val := ⟨3, 0, ⟨#[97]⟩⟩
def txB : Val := ⟨3, 0, ⟨#[98]⟩⟩
theorem tl97 : (⟨#[97]⟩ : ByteArray).toList = [97] := by rw [ByteArray.toList_eq]
theorem tl98 : (⟨#[98]⟩ : ByteArray).toList = [98] := by rw [ByteArray.toList_eq]
theorem ab : cmpV txA txB = -1 := by simp [cmpV, txA, txB, cmpS, lessS, tl97, tl98, Op.bytesLess, ordI]
theorem ba : cmpV txB txA = 1 := by simp [cmpV, txA, txB, cmpS, lessS, tl97, tl98, Op.bytesLess, ordI]
theorem bb : cmpV txB txB = 0 := cmpV_tri.self _
theorem aa : cmpV txA txA = 0 := cmpV_tri.self _
theorem ex_words : wordsP cmpV [txB, txA, txB] = [txA, txB] := by
  simp [wordsP, St.sortS, St.ins, ltT, ab, ba, bb, aa, St.compactP, St.cgo]
theorem ex_place : placeP [txA, txB] txA = 0 ∧ placeP [txA, txB] txB = 1 := by
  simp [placeP, idxP, ab, ba, bb, aa, List.findIdx_cons]
theorem ex_codes : codesR [txA, txB] [txB, txA, txB] = .tup [.d (.list false (us [1, 0, 1])), iA 0] := by
  simp [codesR, codesP, codesE, codesOk, ex_place]
theorem ex_below : belowP [txA, txB] txB = 1 := by simp [belowP, ab, bb]
set_option maxRecDepth 10000 in
set_option maxHeartbeats 1000000 in
theorem shown09_does (H : AHeap) : Does Try.prog 8 [] H (.ok (bA true)) H := by
  have h1 := fun H => words_does [txB, txA, txB] true H (by simp)
  rw [ex_words] at h1
  have h2 := fun H => codes_does [txA, txB] [txB, txA, txB] false true H (by simp) (by simp)
  rw [ex_codes] at h2
  have h3 := fun H => below_does [txA, txB] txB false H (by simp)
  rw [ex_below] at h3
  refine Does.of_awp (hint := (fun _ => false)) Try.func8 (by kernel_rfl) rfl [0] (by kernel_rfl) (by decide) (by simp [Try.ntmps8]) ?_
  rw [Try.ntmps8]
  simp (implicitDefEqProofs := false) only [↓reduceIte, go_sem, oread, owrite, Nat.reduceAdd, Nat.reduceSub, Nat.reduceMul, Nat.reduceLT, Nat.reduceLeDiff, Nat.reduceEqDiff, Nat.reduceBEq, Int.reduceLE, Int.reduceLT, Int.reduceEq, Int.reduceNe, Int.reduceAdd, Int.reduceSub, Int.reduceMul, Int.reduceNeg, Int.reduceToNat, Int.reduceNatCast, reduceCtorEq, eq_self]
  refine KCall.ok (h1 _) ?_
  simp (implicitDefEqProofs := false) only [↓reduceIte, go_sem, oread, owrite, Nat.reduceAdd, Nat.reduceSub, Nat.reduceMul, Nat.reduceLT, Nat.reduceLeDiff, Nat.reduceEqDiff, Nat.reduceBEq, Int.reduceLE, Int.reduceLT, Int.reduceEq, Int.reduceNe, Int.reduceAdd, Int.reduceSub, Int.reduceMul, Int.reduceNeg, Int.reduceToNat, Int.reduceNatCast, reduceCtorEq, eq_self]
  refine KCall.ok (h2 _) ?_
  simp (implicitDefEqProofs := false) only [↓reduceIte, go_sem, oread, owrite, Nat.reduceAdd, Nat.reduceSub, Nat.reduceMul, Nat.reduceLT, Nat.reduceLeDiff, Nat.reduceEqDiff, Nat.reduceBEq, Int.reduceLE, Int.reduceLT, Int.reduceEq, Int.reduceNe, Int.reduceAdd, Int.reduceSub, Int.reduceMul, Int.reduceNeg, Int.reduceToNat, Int.reduceNatCast, reduceCtorEq, eq_self]
  refine KCall.ok (same05_does [txA, txB] [txA, txB] false true _ (by simp)) ?_
  simp (implicitDefEqProofs := false) only [↓reduceIte, go_sem, oread, owrite, Nat.reduceAdd, Nat.reduceSub, Nat.reduceMul, Nat.reduceLT, Nat.reduceLeDiff, Nat.reduceEqDiff, Nat.reduceBEq, Int.reduceLE, Int.reduceLT, Int.reduceEq, Int.reduceNe, Int.reduceAdd, Int.reduceSub, Int.reduceMul, Int.reduceNeg, Int.reduceToNat, Int.reduceNatCast, reduceCtorEq, eq_self]
  refine KCall.ok (same01_does [1, 0, 1] [1, 0, 1] false true _ (by simp)) ?_
  simp (implicitDefEqProofs := false) only [↓reduceIte, go_sem, oread, owrite, Nat.reduceAdd, Nat.reduceSub, Nat.reduceMul, Nat.reduceLT, Nat.reduceLeDiff, Nat.reduceEqDiff, Nat.reduceBEq, Int.reduceLE, Int.reduceLT, Int.reduceEq, Int.reduceNe, Int.reduceAdd, Int.reduceSub, Int.reduceMul, Int.reduceNeg, Int.reduceToNat, Int.reduceNatCast, reduceCtorEq, eq_self]
  refine KCall.ok (h3 _) ?_
  simp (implicitDefEqProofs := false) only [↓reduceIte, go_sem, oread, owrite, Nat.reduceAdd, Nat.reduceSub, Nat.reduceMul, Nat.reduceLT, Nat.reduceLeDiff, Nat.reduceEqDiff, Nat.reduceBEq, Int.reduceLE, Int.reduceLT, Int.reduceEq, Int.reduceNe, Int.reduceAdd, Int.reduceSub, Int.reduceMul, Int.reduceNeg, Int.reduceToNat, Int.reduceNatCast, reduceCtorEq, eq_self]
  refine AEnd.ret ?_
  simp (implicitDefEqProofs := false) only [↓reduceIte, go_sem, oread, owrite, Nat.reduceAdd, Nat.reduceSub, Nat.reduceMul, Nat.reduceLT, Nat.reduceLeDiff, Nat.reduceEqDiff, Nat.reduceBEq, Int.reduceLE, Int.reduceLT, Int.reduceEq, Int.reduceNe, Int.reduceAdd, Int.reduceSub, Int.reduceMul, Int.reduceNeg, Int.reduceToNat, Int.reduceNatCast, reduceCtorEq, eq_self]
end Go.Proofs.Ytkapgooedfompaa
namespace Go.Proofs.Ytkapgooedfompaa
open Go.Proofs.YtkapgooedfompaaAw Go.RowKit
set_option linter.unusedVariables false
set_option linter.unusedSimpArgs false
theorem Tri.congr_l {α : Type} {c : α → α → Int} (h : Tri c) {x y z : α} (e : c x y = 0) : c x z < 0 ↔ c y z < 0 := by
  have e' := (h.zero x y).1 e
  constructor
  · intro g
    rcases h.ntrans x y z g with g1 | g1
    · omega
    · exact g1
  · intro g
    rcases h.ntrans y x z g with g1 | g1
    · omega
    · exact g1
theorem Tri.congr_r {α : Type} {c : α → α → Int} (h : Tri c) {x y z : α} (e : c y z = 0) : c x y < 0 ↔ c x z < 0 := by
  have e' := (h.zero y z).1 e
  constructor
  · intro g
    rcases h.ntrans x z y g with g1 | g1
    · exact g1
    · omega
  · intro g
    rcases h.ntrans x y z g with g1 | g1
    · exact g1
    · omega
def Rise (W : List Val) : Prop := W.Pairwise (fun x y => ltT cmpV x y = true)
theorem Rise.get {W : List Val} (h : Rise W) {i j : Nat} {x y : Val} (hx : W[i]? = some x) (hy : W[j]? = some y) : cmpV x y < 0 ↔ i < j := by
  have key : ∀ {i j : Nat} {x y : Val}, W[i]? = some x → W[j]? = some y → i < j → cmpV x y < 0 := by
    intro i j x y hx hy hij
    obtain ⟨h1, rfl⟩ := List.getElem?_eq_some_iff.1 hx
    obtain ⟨h2, rfl⟩ := List.getElem?_eq_some_iff.1 hy
    have := List.pairwise_iff_getElem.1 h i j h1 h2 hij
    simpa [ltT] using this
  constructor
  · intro g
    rcases Nat.lt_trichotomy i j with h1 | h1 | h1
    · exact h1
    · subst h1
      rw [hx] at hy; cases hy
      have := cmpV_tri.self x
      omega
    · have := key hy hx h1
      have := (cmpV_tri.anti x y).1 g
      omega
  · exact key hx hy
theorem Rise.below {v : Val} : ∀ {W : List Val}, Rise W → ∀ {i : Nat} {y : Val}, W[i]? = some y → (cmpV y v < 0 ↔ i < belowP W v)
  | [], _, i, y, hy => by simp at hy
  | x :: t, h, i, y, hy => by
    have h1 := List.pairwise_cons.1 h
    have hb : belowP (x :: t) v = belowP t v + if cmpV x v < 0 then 1 else 0 := by
      unfold belowP
      rw [List.countP_cons]
      by_cases h : cmpV x v < 0 <;> simp [h]
    by_cases hx : cmpV x v < 0
    · rw [hb, if_pos hx]
      cases i with
      | zero =>
        simp at hy; subst hy
        simp [hx]
      | succ i =>
        have := Rise.below (v := v) h1.2 (i := i) (y := y) (by simpa using hy)
        omega
    · rw [hb, if_neg hx, Nat.add_zero]
      have hz : belowP t v = 0 := by
        unfold belowP
        rw [List.countP_eq_zero]
        intro w hw
        have h2 := h1.1 w hw
        intro h3
        have h4 := cmpV_tri.ord.trans h2 (show ltT cmpV w v = true by simpa [ltT] using h3)
        exact hx (by simpa [ltT] using h4)
      rw [hz]
      refine ⟨fun g => ?_, fun g => by omega⟩
      exfalso
      cases i with
      | zero => simp at hy; subst hy; exact hx g
      | succ i =>
        have hyt : y ∈ t := List.mem_of_getElem? (i := i) (by simpa using hy)
        have : 0 < belowP t v := by
          unfold belowP
          rw [List.countP_pos_iff]
          exact ⟨y, hyt, by simpa using g⟩
        omega
theorem Rise.below_self {W : List Val} (h : Rise W) {i : Nat} {y : Val} (hy : W[i]? = some y) : belowP W y = i := by
  have h1 := h.below (v := y) hy
  have h0 := cmpV_tri.self y
  have hle : belowP W y ≤ i := by omega
  rcases Nat.lt_or_ge (belowP W y) i with h2 | h2
  · exfalso
    obtain ⟨z, hz⟩ : ∃ z, W[belowP W y]? = some z := ⟨_, List.getElem?_eq_getElem (Nat.lt_trans h2 (List.getElem?_eq_some_iff.1 hy).1)⟩
    have h3 := h.below (v := y) hz
    have h4 := (h.get hz hy).2 h2
    omega
  · omega
theorem words_Rise (l : List Val) : Rise (wordsP cmpV l) := words_rise cmpV_tri l
theorem place_spec {W : List Val} {a : Val} (h : ∃ y ∈ W, cmpV y a = 0) : ∃ (i : Nat) (y : Val), placeP W a = i ∧ W[i]? = some y ∧ cmpV y a = 0 := by
  obtain ⟨y, hy, hc⟩ := h
  have hany : W.any (fun w => decide (cmpV w a = 0)) = true := List.any_eq_true.2 ⟨y, hy, by simpa using hc⟩
  have hlt : W.findIdx (fun w => decide (cmpV w a = 0)) < W.length := List.findIdx_lt_length_of_exists ⟨y, hy, by simpa using hc⟩
  refine ⟨W.findIdx (fun w => decide (cmpV w a = 0)), W[W.findIdx (fun w => decide (cmpV w a = 0))], ?_, List.getElem?_eq_getElem hlt, ?_⟩
  · unfold placeP idxP
    rw [if_pos hany]
  · have := List.findIdx_getElem (w := hlt)
    simpa using this
theorem words_place {l : List Val} {a : Val} (h : a ∈ l) : ∃ (i : Nat) (y : Val), placeP (wordsP cmpV l) a = i ∧ (wordsP cmpV l)[i]? = some y ∧ cmpV y a = 0 := by
  obtain ⟨y, hy, hc⟩ := words_has cmpV_tri h
  exact place_spec ⟨y, hy, (cmpV_tri.zero a y).1 hc⟩
def codeW (l : List Val) (a : Val) : Nat := (placeP (wordsP cmpV l) a).toNat
theorem code_lt {l : List Val} {a b : Val} (ha : a ∈ l) (hb : b ∈ l) : codeW l a < codeW l b ↔ cmpV a b < 0 := by
  obtain ⟨i, y, hi, hy, hya⟩ := words_place ha
  obtain ⟨j, z, hj, hz, hzb⟩ := words_place hb
  unfold codeW
  rw [hi, hj]
  simp only [Int.toNat_natCast]
  rw [← (words_Rise l).get hy hz, cmpV_tri.congr_l hya, cmpV_tri.congr_r hzb]
theorem code_below {l : List Val} {a : Val} (ha : a ∈ l) (v : Val) : codeW l a < belowP (wordsP cmpV l) v ↔ cmpV a v < 0 := by
  obtain ⟨i, y, hi, hy, hya⟩ := words_place ha
  unfold codeW
  rw [hi]
  simp only [Int.toNat_natCast]
  rw [← (words_Rise l).below hy, cmpV_tri.congr_l hya]
theorem codesOk_words (l : List Val) : codesOk (wordsP cmpV l) l = true := by
  unfold codesOk
  rw [List.all_eq_true]
  intro a ha
  obtain ⟨i, y, hi, _⟩ := words_place ha
  rw [hi]; simp
theorem codesR_words (l : List Val) : codesR (wordsP cmpV l) l = .tup [.d (.list false (us (l.map (codeW l)))), iA 0] := by
  unfold codesR codesP codesE
  rw [codesOk_words]
  rfl
end Go.Proofs.Ytkapgooedfompaa
namespace Go.Proofs.YtkapgooedfompaaAw
open Go.RowKit
set_option linter.unusedVariables false
theorem Weak.nilL {H0 : AHeap} (s : Nat → AV) (H : AHeap) (t : Nat) (h : s t = .d (.v (.slice none 0 0))) : Weak H0 s H (fun u => if u = t then .d (.list false []) else s u) H :=
  .imp _ _ _ fun φ N w u v hv => by
    by_cases hu : u = t
    · subst hu
      rw [if_pos rfl]
      rw [h] at hv
      exact Sub.ra .nil hv
    · rw [if_neg hu]; exact hv
end Go.Proofs.YtkapgooedfompaaAw
namespace Go.Proofs.Ytkapgooedfompaa
open Go.Proofs.YtkapgooedfompaaAw Go.RowKit
set_option linter.unusedVariables false
set_option linter.unusedSimpArgs false
def widP (n : Nat) : Nat := lenN (n - 1)
theorem widP_le {n : Nat} (h : n ≤ 4096) : widP n ≤ 12 := (lenN_le _ 12).2 (by omega)
theorem widP_one (n : Nat) : widthP [n] = lenN n := by simp [widthP]
set_option maxRecDepth 10000 in
theorem dwidth_does (n : Nat) (hn : n ≤ 1000000000000) (H : AHeap) : Does Try.prog 35 [iA n] H (.ok (iA (widP n))) H := by
  have hw := fun H => width_does [n - 1] true H (by simp) (by intro x hx; simp at hx; omega)
  rw [widP_one] at hw
  have m : max (IntKind.i64.wrap ((n : Int) - 1)) 0 = ((n - 1 : Nat) : Int) := by rw [wrap64_in _ (by omega) (by omega)]; omega
  have u := wrapU64N (n - 1) (by omega)
  have hus : us [n - 1] = [[.v (.int .u64 ((n - 1 : Nat) : Int))]] := rfl
  rw [hus] at hw
  unfold widP
  generalize ((n - 1 : Nat) : Int) = q at *
  generalize lenN (n - 1) = r at *
  refine Does.of_awp (hint := (fun _ => false)) Try.func35 (by kernel_rfl) rfl [2] (by kernel_rfl) (by decide) (by simp [Try.ntmps35]) ?_
  rw [Try.ntmps35]
  simp (implicitDefEqProofs := false) only [↓reduceIte, go_sem, oread, owrite, Nat.reduceAdd, Nat.reduceSub, Nat.reduceMul, Nat.reduceLT, Nat.reduceLeDiff, Nat.reduceEqDiff, Nat.reduceBEq, Int.reduceLE, Int.reduceLT, Int.reduceEq, Int.reduceNe, Int.reduceAdd, Int.reduceSub, Int.reduceMul, Int.reduceNeg, Int.reduceToNat, Int.reduceNatCast, reduceCtorEq, eq_self, m, u, List.foldl_cons, List.foldl_nil]
  refine KCall.ok (hw _) ?_
  simp (implicitDefEqProofs := false) only [↓reduceIte, go_sem, oread, owrite, Nat.reduceAdd, Nat.reduceSub, Nat.reduceMul, Nat.reduceLT, Nat.reduceLeDiff, Nat.reduceEqDiff, Nat.reduceBEq, Int.reduceLE, Int.reduceLT, Int.reduceEq, Int.reduceNe, Int.reduceAdd, Int.reduceSub, Int.reduceMul, Int.reduceNeg, Int.reduceToNat, Int.reduceNatCast, reduceCtorEq, eq_self]
  refine AEnd.ret0 ?_
  simp (implicitDefEqProofs := false) only [↓reduceIte, go_sem, oread, owrite, Nat.reduceAdd, Nat.reduceSub, Nat.reduceMul, Nat.reduceLT, Nat.reduceLeDiff, Nat.reduceEqDiff, Nat.reduceBEq, Int.reduceLE, Int.reduceLT, Int.reduceEq, Int.reduceNe, Int.reduceAdd, Int.reduceSub, Int.reduceMul, Int.reduceNeg, Int.reduceToNat, Int.reduceNatCast, reduceCtorEq, eq_self]
def wbytes (W : List Val) : List Nat := W.flatMap valB
theorem wbytes_snoc (W : List Val) (v : Val) : wbytes (W ++ [v]) = wbytes W ++ valB v := by simp [wbytes]
/-- Dict's bytes. -/
def dictB (l : List Val) : List Nat := putP (wordsP cmpV l).length ++ wbytes (wordsP cmpV l) ++ packP (l.map (codeW l)) (widP (wordsP cmpV l).length)
def dictL (l : List Val) (k : Int) : List Nat := if plainP l k = 0 then dictB l else []
theorem plainP_may {l : List Val} {k : Int} (h : plainP l k = 0) : ∀ v ∈ l, mayV v = true := by
  unfold plainP at h
  intro v hv
  by_cases h1 : l.any (fun v => !mayV v) = true
  · rw [if_pos h1] at h
    repeat' split at h
    all_goals omega
  · have h2 : l.any (fun v => !mayV v) = false := by simpa using h1
    have := List.any_eq_false.1 h2 v hv
    simpa using this
theorem codeW_lt {l : List Val} {a : Val} (h : a ∈ l) : codeW l a < (wordsP cmpV l).length := by
  obtain ⟨i, y, h1, h2, _⟩ := words_place h
  unfold codeW
  rw [h1]
  have := (List.getElem?_eq_some_iff.1 h2).1
  omega
theorem words_len (l : List Val) : (wordsP cmpV l).length ≤ l.length := by
  have h := St.compactP_len (eq := fun a b => decide (cmpV a b = 0)) (St.sortS (ltT cmpV) l)
  rwa [St.sortS_len] at h
theorem code_fits {l : List Val} : ∀ n ∈ l.map (codeW l), n < 2 ^ widP (wordsP cmpV l).length := fun n hn => by
  obtain ⟨a, ha, rfl⟩ := List.mem_map.1 hn
  have h1 := codeW_lt ha
  have h2 := (lenN_le ((wordsP cmpV l).length - 1) (widP (wordsP cmpV l).length)).1 (Nat.le_refl _)
  omega
theorem valB_len {v : Val} (hi : -9223372036854775808 ≤ v.i ∧ v.i ≤ 9223372036854775807) (hm : mayV v = true) : (valB v).length ≤ 1035 := by
  unfold valB
  have hz := zigP_lt hi.1 hi.2
  by_cases h1 : v.kind = 1
  · rw [if_pos h1]; have := putP_len 10 (zigP v.i) (by omega); omega
  rw [if_neg h1]
  by_cases h2 : v.kind = 2
  · rw [if_pos h2, beP_len]; omega
  rw [if_neg h2]
  by_cases h3 : v.kind = 3
  · rw [if_pos h3]
    have hs := may_size hm h3
    have := putP_len 10 v.s.size (by omega)
    rw [textP, List.length_append, sbytes_len]
    omega
  · rw [if_neg h3]; simp
set_option maxRecDepth 10000 in
set_option maxHeartbeats 2000000 in
theorem dictBytes_does (l : List Val) (k : Int) (hok : ∀ v ∈ l, I64 v.i) (H : AHeap) (hl : l.length ≤ 1000000000000) :
    Does Try.prog 18 [.d (.list false (l.map Val.enc)), iA k] H (.ok (.tup [.d (.list false (bys (dictL l k))), iA (plainP l k)])) H := by
  by_cases hp : plainP l k = 0
  · have hd : dictL l k = dictB l := by unfold dictL; rw [if_pos hp]
    have hmay := plainP_may hp
    have h4 := plainP_len hp
    have hwl := words_len l
    have hW : ∀ w ∈ wordsP cmpV l, w ∈ l := fun w hw => words_mem cmpV_tri hw
    have hcf := code_fits (l := l)
    have hcd := fun H => codes_does (wordsP cmpV l) l false false H (by omega) (by omega)
    have hwd := fun H => words_does l false H (by omega)
    rw [codesR_words] at hcd
    have hB : dictB l = putP (wordsP cmpV l).length ++ wbytes (wordsP cmpV l) ++ packP (l.map (codeW l)) (widP (wordsP cmpV l).length) := rfl
    have hcl : (l.map (codeW l)).length = l.length := by simp
    rw [hd, hp]
    generalize l.map (codeW l) = C at *
    generalize wordsP cmpV l = W at *
    have hpk := packP
    have hwid := widP_le (n := W.length) (by omega)
    have l1 := putP_len 10 W.length (by omega)
    have hWb : ∀ k, k ≤ W.length → (wbytes (W.take k)).length ≤ k * 1035 := by
      intro k
      induction k with
      | zero => intro _; simp [wbytes]
      | succ k ih =>
        intro hk
        have hk' : k < W.length := by omega
        rw [List.take_succ_eq_append_getElem hk', wbytes_snoc, List.length_append]
        have h1 := ih (by omega)
        have hm := hW _ (List.getElem_mem hk')
        have h2 := valB_len (hok _ hm) (hmay _ hm)
        omega
    refine Does.of_awp (hint := (fun _ => false)) Try.func18 (by kernel_rfl) rfl [4, 5] (by kernel_rfl) (by decide) (by simp [Try.ntmps18]) ?_
    rw [Try.ntmps18]
    simp (implicitDefEqProofs := false) only [↓reduceIte, go_sem, oread, owrite, Nat.reduceAdd, Nat.reduceSub, Nat.reduceMul, Nat.reduceLT, Nat.reduceLeDiff, Nat.reduceEqDiff, Nat.reduceBEq, Int.reduceLE, Int.reduceLT, Int.reduceEq, Int.reduceNe, Int.reduceAdd, Int.reduceSub, Int.reduceMul, Int.reduceNeg, Int.reduceToNat, Int.reduceNatCast, reduceCtorEq, eq_self]
    refine KCall.ok (plain_does l k false _ (by omega)) ?_
    rw [hp]
    simp (implicitDefEqProofs := false) only [↓reduceIte, go_sem, oread, owrite, Nat.reduceAdd, Nat.reduceSub, Nat.reduceMul, Nat.reduceLT, Nat.reduceLeDiff, Nat.reduceEqDiff, Nat.reduceBEq, Int.reduceLE, Int.reduceLT, Int.reduceEq, Int.reduceNe, Int.reduceAdd, Int.reduceSub, Int.reduceMul, Int.reduceNeg, Int.reduceToNat, Int.reduceNatCast, reduceCtorEq, eq_self]
    refine KCall.ok (hwd _) ?_
    simp (implicitDefEqProofs := false) only [↓reduceIte, go_sem, oread, owrite, Nat.reduceAdd, Nat.reduceSub, Nat.reduceMul, Nat.reduceLT, Nat.reduceLeDiff, Nat.reduceEqDiff, Nat.reduceBEq, Int.reduceLE, Int.reduceLT, Int.reduceEq, Int.reduceNe, Int.reduceAdd, Int.reduceSub, Int.reduceMul, Int.reduceNeg, Int.reduceToNat, Int.reduceNatCast, reduceCtorEq, eq_self, List.length_map, wrapU64N W.length (by omega)]
    refine KCall.ok (putOwn_does W.length (by omega) _) ?_
    simp (implicitDefEqProofs := false) only [↓reduceIte, go_sem, oread, owrite, Nat.reduceAdd, Nat.reduceSub, Nat.reduceMul, Nat.reduceLT, Nat.reduceLeDiff, Nat.reduceEqDiff, Nat.reduceBEq, Int.reduceLE, Int.reduceLT, Int.reduceEq, Int.reduceNe, Int.reduceAdd, Int.reduceSub, Int.reduceMul, Int.reduceNeg, Int.reduceToNat, Int.reduceNatCast, reduceCtorEq, eq_self, List.length_map]
    refine awp_for (fun j s H' => ∃ ver, H' = H ++ [.arr 5 1 ver (bys (putP W.length ++ wbytes (W.take j)))] ∧ s 0 = .d (.list false (l.map Val.enc)) ∧ s 7 = .d (.list false (W.map Val.enc)) ∧ s 8 = .sl H.length ver 0 (putP W.length ++ wbytes (W.take j)).length ∧ s 29 = .d (.list false (W.map Val.enc)) ∧ s 30 = iA W.length ∧ s 31 = iA j) W.length (by omega) (Weak.refl _ _) ?_ ?_ ?_
    · refine ⟨(putP W.length).length, ?_, ?_⟩
      · rw [show wbytes (W.take 0) = [] from rfl, List.append_nil]
      · rw [show wbytes (W.take 0) = [] from rfl, List.append_nil]
        simp (implicitDefEqProofs := false) only [↓reduceIte, go_sem, oread, owrite, Nat.reduceAdd, Nat.reduceSub, Nat.reduceMul, Nat.reduceLT, Nat.reduceLeDiff, Nat.reduceEqDiff, Nat.reduceBEq, Int.reduceLE, Int.reduceLT, Int.reduceEq, Int.reduceNe, Int.reduceAdd, Int.reduceSub, Int.reduceMul, Int.reduceNeg, Int.reduceToNat, Int.reduceNatCast, reduceCtorEq, eq_self]
    · rintro j s H' hj hw ⟨ver, rfl, t0, t7, t8, t29, t30, t31⟩
      have hx := List.getElem?_eq_getElem hj
      have hm := hW _ (List.getElem_mem hj)
      have hb := hWb j (by omega)
      have hvl := valB_len (hok _ hm) (hmay _ hm)
      have e1 : putP W.length ++ wbytes (W.take (j + 1)) = (putP W.length ++ wbytes (W.take j)) ++ valB W[j] := by rw [List.take_succ_eq_append_getElem hj, wbytes_snoc, List.append_assoc]
      have hvd := fun H => valBytes_does W[j] (hok _ hm) (hmay _ hm) H
      rw [e1]
      have hBl : (putP W.length ++ wbytes (W.take j)).length ≤ 11 + j * 1035 := by rw [List.length_append]; omega
      generalize putP W.length ++ wbytes (W.take j) = B at *
      generalize W[j] = w at *
      simp (implicitDefEqProofs := false) only [↓reduceIte, go_sem, oread, owrite, Nat.reduceAdd, Nat.reduceSub, Nat.reduceMul, Nat.reduceLT, Nat.reduceLeDiff, Nat.reduceEqDiff, Nat.reduceBEq, Int.reduceLE, Int.reduceLT, Int.reduceEq, Int.reduceNe, Int.reduceAdd, Int.reduceSub, Int.reduceMul, Int.reduceNeg, Int.reduceToNat, Int.reduceNatCast, reduceCtorEq, eq_self, t29, t30, t31, hj, List.length_map, hx, Val.enc]
      refine KCall.ok (hvd _) ?_
      simp (implicitDefEqProofs := false) only [↓reduceIte, go_sem, oread, owrite, Nat.reduceAdd, Nat.reduceSub, Nat.reduceMul, Nat.reduceLT, Nat.reduceLeDiff, Nat.reduceEqDiff, Nat.reduceBEq, Int.reduceLE, Int.reduceLT, Int.reduceEq, Int.reduceNe, Int.reduceAdd, Int.reduceSub, Int.reduceMul, Int.reduceNeg, Int.reduceToNat, Int.reduceNatCast, reduceCtorEq, eq_self, t8, bys_one, bys_len, bys_app]
      refine ⟨by omega, by omega, ?_⟩
      simp (implicitDefEqProofs := false) only [↓reduceIte, go_sem, oread, owrite, Nat.reduceAdd, Nat.reduceSub, Nat.reduceMul, Nat.reduceLT, Nat.reduceLeDiff, Nat.reduceEqDiff, Nat.reduceBEq, Int.reduceLE, Int.reduceLT, Int.reduceEq, Int.reduceNe, Int.reduceAdd, Int.reduceSub, Int.reduceMul, Int.reduceNeg, Int.reduceToNat, Int.reduceNatCast, reduceCtorEq, eq_self, t31]
      refine Rnd.cut [.arr 5 1 (ver + 1) (bys (B ++ valB w))] [.box 24 3 0 1 [iA w.kind, iA w.i, sA w.s]] 1 rfl rfl (by simp (implicitDefEqProofs := false) only [↓reduceIte, go_sem, oread, owrite, Nat.reduceAdd, Nat.reduceSub, Nat.reduceMul, Nat.reduceLT, Nat.reduceLeDiff, Nat.reduceEqDiff, Nat.reduceBEq, Int.reduceLE, Int.reduceLT, Int.reduceEq, Int.reduceNe, Int.reduceAdd, Int.reduceSub, Int.reduceMul, Int.reduceNeg, Int.reduceToNat, Int.reduceNatCast, reduceCtorEq, eq_self]) ?_
      refine ⟨ver + 1, rfl, ?_⟩
      simp (implicitDefEqProofs := false) only [↓reduceIte, go_sem, oread, owrite, Nat.reduceAdd, Nat.reduceSub, Nat.reduceMul, Nat.reduceLT, Nat.reduceLeDiff, Nat.reduceEqDiff, Nat.reduceBEq, Int.reduceLE, Int.reduceLT, Int.reduceEq, Int.reduceNe, Int.reduceAdd, Int.reduceSub, Int.reduceMul, Int.reduceNeg, Int.reduceToNat, Int.reduceNatCast, reduceCtorEq, eq_self, t0, t7, t29, t30, hw, List.length_append]
    · rintro s H' ⟨ver, rfl, t0, t7, t8, t29, t30, t31⟩
      rw [show W.take W.length = W from List.take_length] at *
      have hb := hWb W.length (Nat.le_refl _)
      rw [List.take_length] at hb
      have l3 : (packP C (widP W.length)).length ≤ 100000 := by
        rw [packP, packB_len, bitsL_len]
        have : C.length * widP W.length ≤ 4096 * 12 := Nat.mul_le_mul (by omega) hwid
        omega
      have l4 : (putP W.length ++ wbytes W).length ≤ 11 + 4096 * 1035 := by rw [List.length_append]; omega
      simp (implicitDefEqProofs := false) only [↓reduceIte, go_sem, oread, owrite, Nat.reduceAdd, Nat.reduceSub, Nat.reduceMul, Nat.reduceLT, Nat.reduceLeDiff, Nat.reduceEqDiff, Nat.reduceBEq, Int.reduceLE, Int.reduceLT, Int.reduceEq, Int.reduceNe, Int.reduceAdd, Int.reduceSub, Int.reduceMul, Int.reduceNeg, Int.reduceToNat, Int.reduceNatCast, reduceCtorEq, eq_self, t0, t7, t30, t31]
      refine KCall.ok (hcd _) ?_
      simp (implicitDefEqProofs := false) only [↓reduceIte, go_sem, oread, owrite, Nat.reduceAdd, Nat.reduceSub, Nat.reduceMul, Nat.reduceLT, Nat.reduceLeDiff, Nat.reduceEqDiff, Nat.reduceBEq, Int.reduceLE, Int.reduceLT, Int.reduceEq, Int.reduceNe, Int.reduceAdd, Int.reduceSub, Int.reduceMul, Int.reduceNeg, Int.reduceToNat, Int.reduceNatCast, reduceCtorEq, eq_self, t7, List.length_map]
      refine KCall.ok (dwidth_does W.length (by omega) _) ?_
      simp (implicitDefEqProofs := false) only [↓reduceIte, go_sem, oread, owrite, Nat.reduceAdd, Nat.reduceSub, Nat.reduceMul, Nat.reduceLT, Nat.reduceLeDiff, Nat.reduceEqDiff, Nat.reduceBEq, Int.reduceLE, Int.reduceLT, Int.reduceEq, Int.reduceNe, Int.reduceAdd, Int.reduceSub, Int.reduceMul, Int.reduceNeg, Int.reduceToNat, Int.reduceNatCast, reduceCtorEq, eq_self]
      refine KCall.ok (pack_does C (widP W.length) (by omega) hcf (by omega) false _) ?_
      rw [hB]
      generalize packP C (widP W.length) = Z at *
      generalize putP W.length ++ wbytes W = B at *
      simp (implicitDefEqProofs := false) only [↓reduceIte, go_sem, oread, owrite, Nat.reduceAdd, Nat.reduceSub, Nat.reduceMul, Nat.reduceLT, Nat.reduceLeDiff, Nat.reduceEqDiff, Nat.reduceBEq, Int.reduceLE, Int.reduceLT, Int.reduceEq, Int.reduceNe, Int.reduceAdd, Int.reduceSub, Int.reduceMul, Int.reduceNeg, Int.reduceToNat, Int.reduceNatCast, reduceCtorEq, eq_self, t8, bys_one, bys_len, bys_app]
      refine ⟨by omega, by omega, AEnd.ret ?_⟩
      have ht : (bys (B ++ Z)).take (B.length + Z.length) = bys (B ++ Z) := List.take_of_length_le (by rw [bys_len, List.length_append]; omega)
      simp (implicitDefEqProofs := false) only [↓reduceIte, go_sem, oread, owrite, Nat.reduceAdd, Nat.reduceSub, Nat.reduceMul, Nat.reduceLT, Nat.reduceLeDiff, Nat.reduceEqDiff, Nat.reduceBEq, Int.reduceLE, Int.reduceLT, Int.reduceEq, Int.reduceNe, Int.reduceAdd, Int.reduceSub, Int.reduceMul, Int.reduceNeg, Int.reduceToNat, Int.reduceNatCast, reduceCtorEq, eq_self, ht]
  · have hd : dictL l k = [] := by unfold dictL; rw [if_neg hp]
    rw [hd]
    refine Does.subT (cs := [.d (.v (.slice none 0 0)), iA (plainP l k)]) ?_ (.cons .nil (.cons (.refl _) .nil))
    refine Does.of_awp (hint := (fun _ => false)) Try.func18 (by kernel_rfl) rfl [4, 5] (by kernel_rfl) (by decide) (by simp [Try.ntmps18]) ?_
    rw [Try.ntmps18]
    simp (implicitDefEqProofs := false) only [↓reduceIte, go_sem, oread, owrite, Nat.reduceAdd, Nat.reduceSub, Nat.reduceMul, Nat.reduceLT, Nat.reduceLeDiff, Nat.reduceEqDiff, Nat.reduceBEq, Int.reduceLE, Int.reduceLT, Int.reduceEq, Int.reduceNe, Int.reduceAdd, Int.reduceSub, Int.reduceMul, Int.reduceNeg, Int.reduceToNat, Int.reduceNatCast, reduceCtorEq, eq_self]
    refine KCall.ok (plain_does l k false _ (by omega)) ?_
    simp (implicitDefEqProofs := false) only [↓reduceIte, go_sem, oread, owrite, Nat.reduceAdd, Nat.reduceSub, Nat.reduceMul, Nat.reduceLT, Nat.reduceLeDiff, Nat.reduceEqDiff, Nat.reduceBEq, Int.reduceLE, Int.reduceLT, Int.reduceEq, Int.reduceNe, Int.reduceAdd, Int.reduceSub, Int.reduceMul, Int.reduceNeg, Int.reduceToNat, Int.reduceNatCast, reduceCtorEq, eq_self, hp]
    refine AEnd.ret0 ?_
    simp (implicitDefEqProofs := false) only [↓reduceIte, go_sem, oread, owrite, Nat.reduceAdd, Nat.reduceSub, Nat.reduceMul, Nat.reduceLT, Nat.reduceLeDiff, Nat.reduceEqDiff, Nat.reduceBEq, Int.reduceLE, Int.reduceLT, Int.reduceEq, Int.reduceNe, Int.reduceAdd, Int.reduceSub, Int.reduceMul, Int.reduceNeg, Int.reduceToNat, Int.reduceNatCast, reduceCtorEq, eq_self]
end Go.Proofs.Ytkapgooedfompaa
namespace Go.Proofs.Ytkapgooedfompaa
open Go.Proofs.YtkapgooedfompaaAw Go.RowKit
set_option linter.unusedVariables false
set_option linter.unusedSimpArgs false
set_option maxRecDepth 10000 in
theorem plainNone_does (k : Int) (H : AHeap) : Does Try.prog 54 [.d (.v (.slice none 0 0)), iA 0, iA k] H (.ok (.tup [.d (.v (.slice none 0 0)), iA (if kindsP k then 0 else 1)])) H := by
  cases hk : kindsP k with
  | false =>
    refine Does.of_awp (hint := (fun _ => false)) Try.func54 (by kernel_rfl) rfl [6, 7] (by kernel_rfl) (by decide) (by simp [Try.ntmps54]) ?_
    rw [Try.ntmps54]
    simp (implicitDefEqProofs := false) only [↓reduceIte, go_sem, oread, owrite, Nat.reduceAdd, Nat.reduceSub, Nat.reduceMul, Nat.reduceLT, Nat.reduceLeDiff, Nat.reduceEqDiff, Nat.reduceBEq, Int.reduceLE, Int.reduceLT, Int.reduceEq, Int.reduceNe, Int.reduceAdd, Int.reduceSub, Int.reduceMul, Int.reduceNeg, Int.reduceToNat, Int.reduceNatCast, reduceCtorEq, eq_self]
    refine KCall.ok (kinds_does k _) ?_
    simp (implicitDefEqProofs := false) only [↓reduceIte, go_sem, oread, owrite, Nat.reduceAdd, Nat.reduceSub, Nat.reduceMul, Nat.reduceLT, Nat.reduceLeDiff, Nat.reduceEqDiff, Nat.reduceBEq, Int.reduceLE, Int.reduceLT, Int.reduceEq, Int.reduceNe, Int.reduceAdd, Int.reduceSub, Int.reduceMul, Int.reduceNeg, Int.reduceToNat, Int.reduceNatCast, reduceCtorEq, eq_self, hk]
    refine AEnd.ret ?_
    simp (implicitDefEqProofs := false) only [↓reduceIte, go_sem, oread, owrite, Nat.reduceAdd, Nat.reduceSub, Nat.reduceMul, Nat.reduceLT, Nat.reduceLeDiff, Nat.reduceEqDiff, Nat.reduceBEq, Int.reduceLE, Int.reduceLT, Int.reduceEq, Int.reduceNe, Int.reduceAdd, Int.reduceSub, Int.reduceMul, Int.reduceNeg, Int.reduceToNat, Int.reduceNatCast, reduceCtorEq, eq_self, Bool.false_eq_true]
  | true =>
    refine Does.of_awp (hint := (fun _ => false)) Try.func54 (by kernel_rfl) rfl [6, 7] (by kernel_rfl) (by decide) (by simp [Try.ntmps54]) ?_
    rw [Try.ntmps54]
    simp (implicitDefEqProofs := false) only [↓reduceIte, go_sem, oread, owrite, Nat.reduceAdd, Nat.reduceSub, Nat.reduceMul, Nat.reduceLT, Nat.reduceLeDiff, Nat.reduceEqDiff, Nat.reduceBEq, Int.reduceLE, Int.reduceLT, Int.reduceEq, Int.reduceNe, Int.reduceAdd, Int.reduceSub, Int.reduceMul, Int.reduceNeg, Int.reduceToNat, Int.reduceNatCast, reduceCtorEq, eq_self]
    refine KCall.ok (kinds_does k _) ?_
    simp (implicitDefEqProofs := false) only [↓reduceIte, go_sem, oread, owrite, Nat.reduceAdd, Nat.reduceSub, Nat.reduceMul, Nat.reduceLT, Nat.reduceLeDiff, Nat.reduceEqDiff, Nat.reduceBEq, Int.reduceLE, Int.reduceLT, Int.reduceEq, Int.reduceNe, Int.reduceAdd, Int.reduceSub, Int.reduceMul, Int.reduceNeg, Int.reduceToNat, Int.reduceNatCast, reduceCtorEq, eq_self, hk]
    refine awp_for (fun j s H' => H' = H ++ [.box 41 1 0 1 [.d (.v (.slice none 0 0))], .box 3 1 0 1 [iA k]] ∧ s 3 = .ptr H.length 0 0 0 ∧ s 9 = .d (.v (.slice none 0 0)) ∧ s 24 = iA 0 ∧ s 25 = iA j) 0 (by omega) (Weak.refl _ _) ?_ ?_ ?_
    · refine ⟨rfl, ?_⟩
      simp (implicitDefEqProofs := false) only [↓reduceIte, go_sem, oread, owrite, Nat.reduceAdd, Nat.reduceSub, Nat.reduceMul, Nat.reduceLT, Nat.reduceLeDiff, Nat.reduceEqDiff, Nat.reduceBEq, Int.reduceLE, Int.reduceLT, Int.reduceEq, Int.reduceNe, Int.reduceAdd, Int.reduceSub, Int.reduceMul, Int.reduceNeg, Int.reduceToNat, Int.reduceNatCast, reduceCtorEq, eq_self]
    · rintro j s H' hj
      omega
    · rintro s H' ⟨rfl, t3, t9, t24, t25⟩
      simp (implicitDefEqProofs := false) only [↓reduceIte, go_sem, oread, owrite, Nat.reduceAdd, Nat.reduceSub, Nat.reduceMul, Nat.reduceLT, Nat.reduceLeDiff, Nat.reduceEqDiff, Nat.reduceBEq, Int.reduceLE, Int.reduceLT, Int.reduceEq, Int.reduceNe, Int.reduceAdd, Int.reduceSub, Int.reduceMul, Int.reduceNeg, Int.reduceToNat, Int.reduceNatCast, reduceCtorEq, eq_self, t3, t9, t24, t25]
      refine AEnd.ret ?_
      simp (implicitDefEqProofs := false) only [↓reduceIte, go_sem, oread, owrite, Nat.reduceAdd, Nat.reduceSub, Nat.reduceMul, Nat.reduceLT, Nat.reduceLeDiff, Nat.reduceEqDiff, Nat.reduceBEq, Int.reduceLE, Int.reduceLT, Int.reduceEq, Int.reduceNe, Int.reduceAdd, Int.reduceSub, Int.reduceMul, Int.reduceNeg, Int.reduceToNat, Int.reduceNatCast, reduceCtorEq, eq_self]
/-! ### Told codes -/
def toldC (o : List Nat) (c : Nat) : List Nat := if c ∈ o then o else o ++ [c]
def toldL (l : List Nat) : List Nat := l.foldl toldC []
def toldE (l : List Nat) : List (Int × AV) := l.map fun (c : Nat) => ((c : Int), bA true)
theorem mpIdx_in (c : Nat) : ∀ (l : List Nat) (i : Nat), c ∈ l → ∃ j, mpIdx (c : Int) (toldE l) i = some (i + j, bA true) ∧ l[j]? = some c
  | [], _, h => by simp at h
  | m :: l, i, h => by
    simp only [toldE, List.map_cons, mpIdx]
    by_cases e : c = m
    · exact ⟨0, by simp [e], by simp [e]⟩
    · rw [if_neg (by omega)]
      obtain ⟨j, h1, h2⟩ := mpIdx_in c l (i + 1) (by simpa [e] using h)
      exact ⟨j + 1, by rw [show mpIdx (c : Int) (List.map (fun (c : Nat) => ((c : Int), bA true)) l) (i + 1) = _ from h1, Nat.add_assoc, Nat.add_comm 1], by simpa using h2⟩
theorem mpIdx_out (c : Nat) : ∀ (l : List Nat) (i : Nat), c ∉ l → mpIdx (c : Int) (toldE l) i = none
  | [], _, _ => rfl
  | m :: l, i, h => by
    simp only [List.mem_cons, not_or] at h
    simp only [toldE, List.map_cons, mpIdx]
    rw [if_neg (by omega)]
    exact mpIdx_out c l (i + 1) h.2
theorem toldE_len (l : List Nat) : (toldE l).length = l.length := by simp [toldE]
theorem mpPut_told (c : Nat) (l : List Nat) : mpPut (c : Int) (bA true) (toldE l) = toldE (toldC l c) := by
  unfold mpPut toldC
  by_cases h : c ∈ l
  · obtain ⟨j, h1, h2⟩ := mpIdx_in c l 0 h
    rw [if_pos h, h1, Nat.zero_add]
    simp only
    obtain ⟨hj, he⟩ := List.getElem?_eq_some_iff.1 h2
    apply List.ext_getElem
    · simp
    · intro i i1 i2
      rw [List.getElem_set]
      split
      · rename_i e
        subst e
        simp [toldE, he]
      · rfl
  · rw [if_neg h, mpIdx_out c l 0 h]
    simp [toldE]
theorem toldL_take (l : List Nat) (k : Nat) (h : k < l.length) : toldL (l.take (k + 1)) = toldC (toldL (l.take k)) l[k] := by
  unfold toldL
  rw [List.take_succ_eq_append_getElem h, List.foldl_append]; rfl
theorem toldC_mem (o : List Nat) (c x : Nat) : x ∈ toldC o c ↔ x ∈ o ∨ x = c := by
  unfold toldC
  split
  · rename_i h
    constructor
    · exact .inl
    · rintro (h' | rfl)
      · exact h'
      · exact h
  · simp
theorem toldF_mem (x : Nat) : ∀ (l o : List Nat), x ∈ l.foldl toldC o ↔ x ∈ o ∨ x ∈ l
  | [], o => by simp
  | c :: l, o => by
    rw [List.foldl_cons, toldF_mem x l, toldC_mem, List.mem_cons, or_assoc]
theorem toldL_mem (l : List Nat) (x : Nat) : x ∈ toldL l ↔ x ∈ l := by
  unfold toldL
  rw [toldF_mem]; simp
theorem toldF_nodup : ∀ (l o : List Nat), o.Nodup → (l.foldl toldC o).Nodup
  | [], o, h => h
  | c :: l, o, h => by
    rw [List.foldl_cons]
    refine toldF_nodup l _ ?_
    unfold toldC
    split
    · exact h
    · rename_i hc
      rw [List.nodup_append]
      refine ⟨h, by simp, ?_⟩
      intro a ha b hb e
      simp at hb
      subst hb
      exact hc (e ▸ ha)
theorem toldL_nodup (l : List Nat) : (toldL l).Nodup := toldF_nodup l [] List.nodup_nil
theorem toldC_len (o : List Nat) (c : Nat) : (toldC o c).length ≤ o.length + 1 := by unfold toldC; split <;> simp
theorem toldF_len : ∀ (l o : List Nat), (l.foldl toldC o).length ≤ o.length + l.length
  | [], o => by simp
  | c :: l, o => by
    rw [List.foldl_cons, List.length_cons]
    have h1 := toldF_len l (toldC o c)
    have h2 := toldC_len o c
    omega
theorem toldL_len (l : List Nat) : (toldL l).length ≤ l.length := by have := toldF_len l []; simpa [toldL] using this
def usedP (codes : List Nat) (n : Nat) : Bool := (toldL codes).all (fun c => decide (c < n)) && decide ((toldL codes).length = n)
/-- Places that differ and are below a number are no more than it. -/
theorem seen_len : ∀ {m : Nat} {seen : List Nat}, seen.Nodup → (∀ j ∈ seen, j < m) → seen.length ≤ m
  | 0, seen, _, hm => by
    cases seen with
    | nil => simp
    | cons j r => have := hm j (by simp); omega
  | m + 1, seen, h, hm => by
    by_cases hi : m ∈ seen
    · have h1 := seen_len (m := m) (h.erase m) fun j hj => by
        have h2 := (h.mem_erase_iff).1 hj
        have := hm j h2.2
        omega
      rw [List.length_erase_of_mem hi] at h1
      omega
    · have h1 := seen_len (m := m) h fun j hj => by
        have := hm j hj
        have : j ≠ m := fun e => hi (e ▸ hj)
        omega
      omega
set_option maxRecDepth 10000 in
set_option maxHeartbeats 1000000 in
theorem used_does (codes : List Nat) (n : Nat) (H : AHeap) (hn : n ≤ 1000000000000) (hl : codes.length ≤ 1000000000000) (hc : ∀ c ∈ codes, c < 18446744073709551616) :
    Does Try.prog 58 [.d (.list false (us codes)), iA n] H (.ok (bA (usedP codes n))) H := by
  have hU : usedP codes n = ((toldL codes).all (fun c => decide (c < n)) && decide ((toldL codes).length = n)) := rfl
  have hml := toldL_len codes
  have hnu := wrapU64N n (by omega)
  refine Does.of_awp (hint := (fun _ => false)) Try.func58 (by kernel_rfl) rfl [4] (by kernel_rfl) (by decide) (by simp [Try.ntmps58]) ?_
  rw [Try.ntmps58]
  simp (implicitDefEqProofs := false) only [↓reduceIte, go_sem, oread, owrite, Nat.reduceAdd, Nat.reduceSub, Nat.reduceMul, Nat.reduceLT, Nat.reduceLeDiff, Nat.reduceEqDiff, Nat.reduceBEq, Int.reduceLE, Int.reduceLT, Int.reduceEq, Int.reduceNe, Int.reduceAdd, Int.reduceSub, Int.reduceMul, Int.reduceNeg, Int.reduceToNat, Int.reduceNatCast, reduceCtorEq, eq_self]
  refine awp_for (fun k s H' => H' = H ++ [.mp .u64 (toldE (toldL (codes.take k)))] ∧ s 1 = iA n ∧ s 5 = .mp H.length ∧ s 10 = .d (.list false (us codes)) ∧ s 11 = iA codes.length ∧ s 12 = iA k) codes.length (by omega) (Weak.refl _ _) ?_ ?_ ?_
  · refine ⟨rfl, ?_⟩
    simp (implicitDefEqProofs := false) only [↓reduceIte, go_sem, oread, owrite, Nat.reduceAdd, Nat.reduceSub, Nat.reduceMul, Nat.reduceLT, Nat.reduceLeDiff, Nat.reduceEqDiff, Nat.reduceBEq, Int.reduceLE, Int.reduceLT, Int.reduceEq, Int.reduceNe, Int.reduceAdd, Int.reduceSub, Int.reduceMul, Int.reduceNeg, Int.reduceToNat, Int.reduceNatCast, reduceCtorEq, eq_self, us_len]
  · rintro k s H' hk hw ⟨rfl, t1, t5, t10, t11, t12⟩
    have hx := us_get codes k hk
    have hp := mpPut_told codes[k] (toldL (codes.take k))
    rw [toldL_take codes k hk]
    generalize codes[k] = c at *
    generalize toldL (codes.take k) = o at *
    simp (implicitDefEqProofs := false) only [↓reduceIte, go_sem, oread, owrite, Nat.reduceAdd, Nat.reduceSub, Nat.reduceMul, Nat.reduceLT, Nat.reduceLeDiff, Nat.reduceEqDiff, Nat.reduceBEq, Int.reduceLE, Int.reduceLT, Int.reduceEq, Int.reduceNe, Int.reduceAdd, Int.reduceSub, Int.reduceMul, Int.reduceNeg, Int.reduceToNat, Int.reduceNatCast, reduceCtorEq, eq_self, t5, t10, t11, t12, hk, hx, hp]
    refine Rnd.same ⟨rfl, ?_⟩
    simp (implicitDefEqProofs := false) only [↓reduceIte, go_sem, oread, owrite, Nat.reduceAdd, Nat.reduceSub, Nat.reduceMul, Nat.reduceLT, Nat.reduceLeDiff, Nat.reduceEqDiff, Nat.reduceBEq, Int.reduceLE, Int.reduceLT, Int.reduceEq, Int.reduceNe, Int.reduceAdd, Int.reduceSub, Int.reduceMul, Int.reduceNeg, Int.reduceToNat, Int.reduceNatCast, reduceCtorEq, eq_self, t1, t5, t10, t11, hw]
  · rintro s H' ⟨rfl, t1, t5, t10, t11, t12⟩
    rw [List.take_length]
    have hE : ∀ j e, (toldE (toldL codes))[j]? = some e → ∃ c : Nat, (toldL codes)[j]? = some c ∧ e = ((c : Int), bA true) ∧ c < 18446744073709551616 := fun j e he => by
      unfold toldE at he
      rw [List.getElem?_map] at he
      rcases hc' : (toldL codes)[j]? with _ | (c : Nat)
      · rw [hc'] at he; simp at he
      · rw [hc'] at he
        simp at he
        exact ⟨c, hc', he.symm, hc c ((toldL_mem codes c).1 (List.mem_of_getElem? hc'))⟩
    generalize hT : toldL codes = T at *
    have hel := toldE_len T
    simp (implicitDefEqProofs := false) only [↓reduceIte, go_sem, oread, owrite, Nat.reduceAdd, Nat.reduceSub, Nat.reduceMul, Nat.reduceLT, Nat.reduceLeDiff, Nat.reduceEqDiff, Nat.reduceBEq, Int.reduceLE, Int.reduceLT, Int.reduceEq, Int.reduceNe, Int.reduceAdd, Int.reduceSub, Int.reduceMul, Int.reduceNeg, Int.reduceToNat, Int.reduceNatCast, reduceCtorEq, eq_self, t5, t11, t12]
    refine awp_loop Try.prog _ _ _ (fun seen s H' => H' = H ++ [.mp .u64 (toldE T), .iter H.length T.length seen] ∧ seen.Nodup ∧ (∀ j ∈ seen, j < T.length ∧ ∀ c, T[j]? = some c → c < n) ∧ s 1 = iA n ∧ s 5 = .mp H.length ∧ s 20 = .ptr (H.length + 1) 0 0 0) (fun seen => T.length - seen.length) [] (Weak.refl _ _) ?_ ?_
    · refine ⟨by rw [hel], List.nodup_nil, by simp, ?_⟩
      simp (implicitDefEqProofs := false) only [↓reduceIte, go_sem, oread, owrite, Nat.reduceAdd, Nat.reduceSub, Nat.reduceMul, Nat.reduceLT, Nat.reduceLeDiff, Nat.reduceEqDiff, Nat.reduceBEq, Int.reduceLE, Int.reduceLT, Int.reduceEq, Int.reduceNe, Int.reduceAdd, Int.reduceSub, Int.reduceMul, Int.reduceNeg, Int.reduceToNat, Int.reduceNatCast, reduceCtorEq, eq_self, t1, t5]
    · rintro seen s H' ⟨rfl, hnd, hse, t1, t5, t20⟩
      simp (implicitDefEqProofs := false) only [↓reduceIte, go_sem, oread, owrite, Nat.reduceAdd, Nat.reduceSub, Nat.reduceMul, Nat.reduceLT, Nat.reduceLeDiff, Nat.reduceEqDiff, Nat.reduceBEq, Int.reduceLE, Int.reduceLT, Int.reduceEq, Int.reduceNe, Int.reduceAdd, Int.reduceSub, Int.reduceMul, Int.reduceNeg, Int.reduceToNat, Int.reduceNatCast, reduceCtorEq, eq_self, t1, t5, t20, hel]
      refine ⟨?_, ?_⟩
      · intro hall
        have hq : usedP codes n = decide (T.length = n) := by
          rw [hU, List.all_eq_true.2 fun c hc => ?_, Bool.true_and]
          obtain ⟨j, hj, rfl⟩ := List.mem_iff_getElem.1 hc
          simpa using (hse j (hall j hj)).2 _ (List.getElem?_eq_getElem hj)
        refine AEnd.ret ?_
        rw [hq, show decide (T.length = n) = decide ((T.length : Int) = (n : Int)) from decide_eq_decide.2 (by omega)]
        simp (implicitDefEqProofs := false) only [↓reduceIte, go_sem, oread, owrite, Nat.reduceAdd, Nat.reduceSub, Nat.reduceMul, Nat.reduceLT, Nat.reduceLeDiff, Nat.reduceEqDiff, Nat.reduceBEq, Int.reduceLE, Int.reduceLT, Int.reduceEq, Int.reduceNe, Int.reduceAdd, Int.reduceSub, Int.reduceMul, Int.reduceNeg, Int.reduceToNat, Int.reduceNatCast, reduceCtorEq, eq_self]
      · intro j e hj hns
        obtain ⟨c, h1, rfl, h3⟩ := hE j e hj
        have hjl := (List.getElem?_eq_some_iff.1 h1).1
        by_cases hcn : n ≤ c
        · have hq : usedP codes n = false := by
            rw [hU, Bool.and_eq_false_iff]
            exact .inl (List.all_eq_false.2 ⟨c, List.mem_of_getElem? h1, by simpa using hcn⟩)
          simp (implicitDefEqProofs := false) only [↓reduceIte, go_sem, oread, owrite, Nat.reduceAdd, Nat.reduceSub, Nat.reduceMul, Nat.reduceLT, Nat.reduceLeDiff, Nat.reduceEqDiff, Nat.reduceBEq, Int.reduceLE, Int.reduceLT, Int.reduceEq, Int.reduceNe, Int.reduceAdd, Int.reduceSub, Int.reduceMul, Int.reduceNeg, Int.reduceToNat, Int.reduceNatCast, reduceCtorEq, eq_self, List.getLast?_concat, hj, hel, t1, hnu, hcn]
          refine AEnd.ret ?_
          rw [hq]
          simp (implicitDefEqProofs := false) only [↓reduceIte, go_sem, oread, owrite, Nat.reduceAdd, Nat.reduceSub, Nat.reduceMul, Nat.reduceLT, Nat.reduceLeDiff, Nat.reduceEqDiff, Nat.reduceBEq, Int.reduceLE, Int.reduceLT, Int.reduceEq, Int.reduceNe, Int.reduceAdd, Int.reduceSub, Int.reduceMul, Int.reduceNeg, Int.reduceToNat, Int.reduceNatCast, reduceCtorEq, eq_self]
        · simp (implicitDefEqProofs := false) only [↓reduceIte, go_sem, oread, owrite, Nat.reduceAdd, Nat.reduceSub, Nat.reduceMul, Nat.reduceLT, Nat.reduceLeDiff, Nat.reduceEqDiff, Nat.reduceBEq, Int.reduceLE, Int.reduceLT, Int.reduceEq, Int.reduceNe, Int.reduceAdd, Int.reduceSub, Int.reduceMul, Int.reduceNeg, Int.reduceToNat, Int.reduceNatCast, reduceCtorEq, eq_self, List.getLast?_concat, hj, hel, t1, hnu, hcn]
          refine ⟨_, _, seen ++ [j], Weak.refl _ _, ⟨rfl, ?_, ?_, ?_⟩, ?_⟩
          · rw [List.nodup_append]
            refine ⟨hnd, by simp, fun a ha b hb e => ?_⟩
            simp at hb
            subst hb
            exact hns (e ▸ ha)
          · intro i hi
            rcases List.mem_append.1 hi with h | h
            · exact hse i h
            · simp at h
              subst h
              refine ⟨hjl, fun d hd => ?_⟩
              rw [h1] at hd
              cases hd
              omega
          · simp (implicitDefEqProofs := false) only [↓reduceIte, go_sem, oread, owrite, Nat.reduceAdd, Nat.reduceSub, Nat.reduceMul, Nat.reduceLT, Nat.reduceLeDiff, Nat.reduceEqDiff, Nat.reduceBEq, Int.reduceLE, Int.reduceLT, Int.reduceEq, Int.reduceNe, Int.reduceAdd, Int.reduceSub, Int.reduceMul, Int.reduceNeg, Int.reduceToNat, Int.reduceNatCast, reduceCtorEq, eq_self, t1, t5, t20]
          · have hnd2 : (seen ++ [j]).Nodup := by
              rw [List.nodup_append]
              refine ⟨hnd, by simp, fun a ha b hb e => ?_⟩
              simp at hb
              subst hb
              exact hns (e ▸ ha)
            have := seen_len hnd2 (m := T.length) fun i hi => by
              rcases List.mem_append.1 hi with h | h
              · exact (hse i h).1
              · simp at h; subst h; exact hjl
            simp only [List.length_append, List.length_singleton] at this ⊢
            omega
end Go.Proofs.Ytkapgooedfompaa
namespace Go.Proofs.YtkapgooedfompaaAw
open Go.RowKit
set_option linter.unusedVariables false
set_option linter.unusedSimpArgs false
def mPan (v : Value) : FrameMode := .panicking [{ v := v, recovered := false }]
def mRec (v : Value) : FrameMode := .panicking [{ v := v, recovered := true }]
/-- What recover answers in a mode, and the mode afterwards. -/
inductive Mode : FrameMode → Value → FrameMode → Prop
  | ret : Mode .returning .nilIface .returning
  | pan (v : Value) : Mode (mPan v) v (mRec v)
/-- The contract of a deferred function: it ends well, and leaves its caller in such a mode. -/
def DoesD (P : Program) (f : FuncId) (args : List AV) (H : AHeap) (u : FrameMode) (H' : AHeap) (u' : FrameMode) : Prop :=
  ∀ φ N w vals, Rel H φ N w → RAs H φ N w args vals → (callFunc f vals).run P w = .ok (.enter f vals) w ∧
    CallsD P f vals u w fun e u1 w' => (∃ v, e = .returned v) ∧ u1 = u' ∧ ∃ φ' N', Rel H' φ' N' w' ∧ Since H φ N w H' φ' N' w'

theorem RAs.init {H : AHeap} {φ : Phi} {N : Addr → Prop} {w : World} {args : List AV} {vals : Array Value} (h : RAs H φ N w args vals) (n : Nat) : TRel H φ N w (ainit args) { tmps := vals ++ Array.replicate (n - vals.size) undef, defers := [] } := by
  intro t
  simp only [ainit]
  by_cases ht : t < args.length
  · have ht' : t < vals.size := by rw [← h.1]; exact ht
    have := h.2 t ht ht'
    have e1 : args.getD t .top = args[t] := by simp [List.getD, ht]
    have e2 : (vals ++ Array.replicate (n - vals.size) undef).getD t undef = vals[t] := by
      rw [Array.getD_eq_getD_getElem?, Array.getElem?_append_left ht']; simp [ht']
    rw [e1, e2]
    exact this
  · have e1 : args.getD t .top = .top := by simp [List.getD, List.getElem?_eq_none (Nat.le_of_not_lt ht)]
    rw [e1]
    exact .top _
theorem RAs.since {H H' : AHeap} {φ φ' : Phi} {N N' : Addr → Prop} {w w' : World} {args : List AV} {vals : Array Value} (h : RAs H φ N w args vals) (hR : Rel H φ N w) (hS : Since H φ N w H' φ' N' w') : RAs H' φ' N' w' args vals :=
  ⟨h.1, fun i h1 h2 => (h.2 i h1 h2).since hR hS⟩

theorem DoesD.of_awp {P : Program} {hint : Nat → Bool} {f : FuncId} {fn : Func} {id : Nat} {o0 o1 : Oper} {rest : Code} {d0 d1 : Tmp} (hf : P.funcs[f]? = some fn) (hn : (fn.name == "runtime.NumGoroutine") = false) (hb : fn.body = some (.seq (.region id #[o0, o1] false) rest))
    (h0 : ∃ ats, o0.op = .call { callee := .builtin .recover, args := #[], argTypes := ats }) (g0 : o0.guard = none) (e0 : o0.dst = some d0) (h1 : o1.op = .assign (.tmp d0)) (g1 : o1.guard = none) (e1 : o1.dst = some d1) (hl : d0 < fn.ntmps) (hr : fn.results = #[])
    {args : List AV} {H H' : AHeap} {u u' : FrameMode} {v : Value} (ha : args.length ≤ fn.ntmps) (hm : Mode u v u')
    (h : awp P hint fn.ntmps H rest (fun e s H1 => (match e with | .normal | .ret => True | _ => False) ∧ ∃ s', Weak H s H1 s' H') (aput fn.ntmps (aput fn.ntmps (ainit args) (some d0) (aconst v)) (some d1) (aconst v)) H) : DoesD P f args H u H' u' := by
  intro φ N w vals hR hA
  refine ⟨enter_run hf hn (by rw [hb]; rfl) vals w, callsD_of_wpS hf hb fun c0 cs hc0 => wpS_seq (wpS_region ?_)⟩
  have hI : Inv H φ N w fn.ntmps [] (aput fn.ntmps (aput fn.ntmps (ainit args) (some d0) (aconst v)) (some d1) (aconst v)) H φ N (({ tmps := vals ++ Array.replicate (fn.ntmps - vals.size) undef, defers := [] } : Act).put (some d0) v |>.put (some d1) v) w := by
    have h : Inv H φ N w fn.ntmps [] (ainit args) H φ N { tmps := vals ++ Array.replicate (fn.ntmps - vals.size) undef, defers := [] } w :=
      ⟨hR, hA.init _, Since.refl, by simp; have := hA.1; omega, rfl⟩
    exact (h.put hR Since.refl (aconst_ok v) (some d0)).put hR Since.refl (aconst_ok v) (some d1)
  have hrec : ∃ cs', (match recoverD (c0 :: cs) with | some (x, cs') => (x, cs') | none => (Value.nilIface, c0 :: cs)) = (v, cs') ∧ cs' = { c0 with mode := u' } :: cs := by
    subst hc0
    generalize hu : c0.mode = u at hm
    cases hm with
    | ret => exact ⟨c0 :: cs, by simp [recoverD, hu], by rw [← hu]⟩
    | pan v => exact ⟨_, by simp [recoverD, hu, mPan]; rfl, rfl⟩
  obtain ⟨cs', hrec, hcs⟩ := hrec
  have hwp := awp_ok hR rest _ hI h
  let R : Ending → FrameMode → World → Prop := fun e u1 w' => (∃ v, e = .returned v) ∧ u1 = u' ∧ ∃ φ' N', Rel H' φ' N' w' ∧ Since H φ N w H' φ' N' w'
  have hS : Code.wpS P rest (bodyPostS P fn c0 cs R) ((({ tmps := vals ++ Array.replicate (fn.ntmps - vals.size) undef, defers := [] } : Act).put (some d0) v).put (some d1) v) cs' w := by
    refine wpS_of_wp (wp_mono hwp ?_)
    rintro e a' w' ⟨ax, s', H1, φ1, N1, rfl, ⟨hq, s'', hW⟩, hI1⟩
    obtain ⟨φ2, N2, hI2⟩ := hW.ok hR hI1
    have fin : a'.defers = [] ∧ ∃ u1, cs' = { c0 with mode := u1 } :: cs ∧ ∃ v, (results fn a'.tmps).run P w' = .ok v w' ∧ R (.returned v) u1 w' :=
      ⟨hI2.defers, u', hcs, _, run_results [] (by rw [hr]; rfl) (by simp) _ _, ⟨_, rfl⟩, rfl, φ2, N2, hI2.rel, hI2.since⟩
    cases ax with
    | normal => exact fin
    | ret => exact fin
    | exit i => exact hq.elim
    | panic v => exact hq.elim
  have tail : wpOpsS P #[o0, o1] (Exit.thenS (Code.wpS P rest (bodyPostS P fn c0 cs R)) (bodyPostS P fn c0 cs R)) [1]
      (({ tmps := vals ++ Array.replicate (fn.ntmps - vals.size) undef, defers := [] } : Act).put (some d0) v) cs' w := by
    have hev : (({ tmps := vals ++ Array.replicate (fn.ntmps - vals.size) undef, defers := [] } : Act).put (some d0) v).eval (.tmp d0) = v := by
      have : d0 < vals.size + (fn.ntmps - vals.size) := Nat.lt_of_lt_of_le hl (by omega)
      simp [Act.eval, Act.put, this]
    have hx : (execOp (({ tmps := vals ++ Array.replicate (fn.ntmps - vals.size) undef, defers := [] } : Act).put (some d0) v).eval o1).run P w = .ok (.value v) w := by
      simp only [execOp, h1, hev]; rfl
    have hw : Region.wanted o1 (yielded #[o0, o1] (({ tmps := vals ++ Array.replicate (fn.ntmps - vals.size) undef, defers := [] } : Act).put (some d0) v).tmps) = true := by simp [Region.wanted, g1]
    simp only [wpOpsS, List.getElem?_toArray, List.getElem?_cons_succ, List.getElem?_cons_zero, hw, if_true, hx, Oper.upon, e1]
    exact hS
  obtain ⟨ats, h0⟩ := h0
  have hx : (execOp (({ tmps := vals ++ Array.replicate (fn.ntmps - vals.size) undef, defers := [] } : Act)).eval o0).run P w = .ok .recover w := by
    simp only [execOp, h0, resolve, Deferred.ofValue, invoke]
    rfl
  have hw : Region.wanted o0 (yielded #[o0, o1] (({ tmps := vals ++ Array.replicate (fn.ntmps - vals.size) undef, defers := [] } : Act)).tmps) = true := by simp [Region.wanted, g0]
  show wpOpsS P #[o0, o1] _ [0, 1] _ _ _
  unfold wpOpsS
  simp only [List.getElem?_toArray, List.getElem?_cons_zero, hw, if_true, hx, e0]
  revert hrec
  cases recoverD (c0 :: cs) with
  | none =>
    intro hrec
    have e1 : Value.nilIface = v := congrArg Prod.fst hrec
    have e2 : c0 :: cs = cs' := congrArg Prod.snd hrec
    simp only [e1, e2]
    exact tail
  | some p =>
    intro hrec
    have e1 : p.1 = v := congrArg Prod.fst hrec
    have e2 : p.2 = cs' := congrArg Prod.snd hrec
    simp only [e1, e2]
    exact tail

/-- What is left of a function where its body has ended and its deferred call is still to come. -/
def AEndD (P : Program) (rs : List ResultVar) (H0 : AHeap) (res : ARes) (H' : AHeap) (g : FuncId) (dargs : List AV) : Post := fun e s H =>
  match e with
  | .normal | .ret => ∃ H1, DoesD P g dargs H .returning H1 .returning ∧ AEndC P rs H0 res H' .ret s H1
  | .panic v => ∃ H1, DoesD P g dargs H (mPan v) H1 (mRec v) ∧ AEndC P rs H0 res H' .ret s H1
  | _ => False
theorem finC {P : Program} {fn : Func} {rs : List ResultVar} (hr : fn.results.toList = rs) {H : AHeap} {φ : Phi} {N : Addr → Prop} {w : World} (hR : Rel H φ N w) {res : ARes} {H' : AHeap} {n : Nat} {ds : List Deferred} {s' : Nat → AV} {H1 : AHeap} {φ1 : Phi} {N1 : Addr → Prop} {a' : Act} {w' : World}
    (hI1 : Inv H φ N w n ds s' H1 φ1 N1 a' w') (h : AEndC P rs H res H' .ret s' H1) : ∃ v, (results fn a'.tmps).run P w' = .ok v w' ∧ ∃ φ' N', Rel H' φ' N' w' ∧ Since H φ N w H' φ' N' w' ∧ REnd H' φ' N' w' res (.returned v) := by
  obtain ⟨avs, s'', hav, hW, rfl⟩ := h
  obtain ⟨us, hus, hl, hru⟩ := resAll_ok hI1.rel hI1.tmps hav
  have hI2 : Inv H φ N w us.length [] (fun t => avs.getD t .top) H1 φ1 N1 { tmps := us.toArray, defers := [] } w' := by
    refine ⟨hI1.rel, fun t => ?_, hI1.since, by simp, rfl⟩
    by_cases ht : t < avs.length
    · have e1 : avs.getD t .top = avs[t] := by simp [List.getD, ht]
      have e2 : (us.toArray : Array Value).getD t undef = us[t]'(by omega) := by
        rw [Array.getD_eq_getD_getElem?]; simp [show t < us.length by omega]
      simp only [e1, e2]
      exact hru t ht (by omega)
    · have e1 : avs.getD t .top = .top := by simp [List.getD, List.getElem?_eq_none (Nat.le_of_not_lt ht)]
      simp only [e1]
      exact .top _
  obtain ⟨φ2, N2, hI3⟩ := hW.ok hR hI2
  refine ⟨_, results_run (by rw [hr]; exact hus), φ2, N2, hI3.rel, hI3.since, ?_⟩
  have at_ : ∀ t, RA H' φ2 N2 w' (s'' t) ((us.toArray : Array Value).getD t undef) := hI3.tmps
  show RA H' φ2 N2 w' (ares (List.range avs.length) s'') _
  match us, hl with
  | [], hl =>
    have : avs = [] := List.eq_nil_of_length_eq_zero hl
    subst this
    exact .tup _ _ rfl fun i h1 => by simp at h1
  | [u], hl =>
    have : avs.length = 1 := hl
    rw [this]
    exact at_ 0
  | u :: v :: l, hl =>
    have e : ares (List.range avs.length) s'' = .tup ((List.range avs.length).map s'') := ares_many _ (by simp [hl]) s''
    rw [e]
    refine .tup _ _ (by simp [hl]) fun i h1 h2 => ?_
    have := at_ i
    rw [Array.getD_eq_getD_getElem?] at this
    simp only [List.size_toArray] at h2
    rw [List.getElem?_toArray, List.getElem?_eq_getElem h2] at this
    simpa using this
/-- The contract of a function that defers one call, out of its body. -/
theorem Does.of_awpD {P : Program} {hint : Nat → Bool} {f : FuncId} {fn : Func} {pre rest : Code} {id : Nat} {o : Oper} {c : Call} {f0 : Operand} (hf : P.funcs[f]? = some fn) (hn : (fn.name == "runtime.NumGoroutine") = false) (hb : fn.body = some (.seq pre (.seq (.region id #[o] false) rest)))
    (rs : List ResultVar) (hr : fn.results.toList = rs) (ho : o.op = .defer c) (hc : c.callee = .value f0) (hg : o.guard = none) (hd : o.dst = none)
    {args : List AV} {H : AHeap} {res : ARes} {H' : AHeap} (ha : args.length ≤ fn.ntmps)
    (h : awp P hint fn.ntmps H pre (fun e s H1 => match e with
      | .normal => ob (asF (aeval s f0)) fun g => awp P hint fn.ntmps H1 rest (AEndD P rs H res H' g.1 (c.args.toList.map (aeval s) ++ g.2)) s H1
      | _ => False) (ainit args) H) : Does P f args H res H' := by
  intro φ N w vals hR hA
  refine .inl ⟨enter_run hf hn (by rw [hb]; rfl) vals w, calls_of_wp_defers hf hb ?_⟩
  have hI : Inv H φ N w fn.ntmps [] (ainit args) H φ N { tmps := vals ++ Array.replicate (fn.ntmps - vals.size) undef, defers := [] } w :=
    ⟨hR, hA.init _, Since.refl, by simp; have := hA.1; omega, rfl⟩
  refine wp_seq (wp_mono (awp_ok hR pre _ hI h) ?_)
  rintro e a1 w1 ⟨ax, s1, H1, φ1, N1, rfl, hq, hI1⟩
  cases ax with
  | normal =>
    cases hfv : asF (aeval s1 f0) with
    | none => simp only [hfv] at hq; exact hq.elim
    | some gc =>
    obtain ⟨g, caps⟩ := gc
    simp only [hfv, ob_some] at hq
    have hf0 : aeval s1 f0 = .fn g caps := by
      revert hfv
      cases aeval s1 f0 <;> intro h <;> cases h
      rfl
    have hfv' := aeval_ok hI1.tmps f0
    rw [hf0] at hfv'
    generalize hfe : a1.eval f0 = fv at hfv'
    cases hfv' with
    | fn _ _ vs hl hh =>
    have hargs : RAs H1 φ1 N1 w1 (c.args.toList.map (aeval s1) ++ caps) (c.args.map a1.eval ++ vs) := by
      refine ⟨by simp [hl], fun i h1 h2 => ?_⟩
      by_cases hi : i < c.args.size
      · rw [List.getElem_append_left (by simpa using hi), Array.getElem_append_left (by simpa using hi)]
        simp only [List.getElem_map, Array.getElem_map, Array.getElem_toList]
        exact aeval_ok hI1.tmps _
      · rw [List.getElem_append_right (by simpa using hi), Array.getElem_append_right (by simpa using hi)]
        simp only [List.length_map, Array.length_toList, Array.size_map]
        exact hh _ (by simp at h1; omega) (by simp at h2; omega)
    let d : Deferred := { target := .fn (.func g) vs, args := c.args.map a1.eval }
    have hrun : (execOp a1.eval o).run P w1 = .ok (.defer d) w1 := by
      simp [execOp, ho, resolve, hc, hfe, Deferred.ofValue, d]
    have hI1' : Inv H1 φ1 N1 w1 fn.ntmps [d] s1 H1 φ1 N1 { a1 with defers := [d] } w1 := ⟨hI1.rel, hI1.tmps, Since.refl, hI1.size, rfl⟩
    refine wp_seq (wp_region ?_)
    have hwpR := awp_ok hI1.rel rest _ hI1' hq
    have hw : Region.wanted o (yielded #[o] a1.tmps) = true := by simp [Region.wanted, hg]
    show wpOps P #[o] _ [0] a1 w1
    simp only [wpOps, List.getElem?_toArray, List.getElem?_cons_zero, hw, if_true]
    refine .inl ?_
    unfold Oper.wp
    rw [hrun, Oper.upon_defer, hd, hI1.defers]
    show (Code.wp P rest _ { a1 with defers := [d] } w1)
    refine wp_mono hwpR ?_
    rintro e a2 w2 ⟨ax, s2, H2, φ2, N2, rfl, hq2, hI2⟩
    have hargs2 := hargs.since hI1.rel hI2.since
    have run : ∀ u u' H3, u ≠ .run → settle u' = .returning → DoesD P g (c.args.toList.map (aeval s1) ++ caps) H2 u H3 u' → AEndC P rs H res H' .ret s2 H3 →
        Leaves P fn a2.tmps (fun e w' => ∃ φ' N', Rel H' φ' N' w' ∧ Since H φ N w H' φ' N' w' ∧ REnd H' φ' N' w' res e) a2.defers u w2 := by
      intro u u' H3 hu hs hD hE
      obtain ⟨hcall, hC⟩ := hD φ2 N2 w2 _ hI2.rel hargs2
      rw [hI2.defers]
      refine leaves_cons hu (by simpa [invoke] using hcall) (CallsD.mono hC ?_)
      rintro e u1 w3 ⟨⟨v, rfl⟩, rfl, φ3, N3, hR3, hS3⟩
      simp only [hs]
      exact finC hr hR (ds := [d]) (a' := a2) (n := fn.ntmps) ⟨hR3, fun t => (hI2.tmps t).since hI2.rel hS3, hI1.since.trans (hI2.since.trans hS3), hI2.size, hI2.defers⟩ hE
    cases ax with
    | normal =>
      obtain ⟨H3, hD, hE⟩ := hq2
      exact run .returning .returning H3 (by simp) rfl hD hE
    | ret =>
      obtain ⟨H3, hD, hE⟩ := hq2
      exact run .returning .returning H3 (by simp) rfl hD hE
    | exit i => exact hq2.elim
    | panic v =>
      obtain ⟨H3, hD, hE⟩ := hq2
      exact run (mPan v) (mRec v) H3 (by simp [mPan]) rfl hD hE
  | exit i => exact hq.elim
  | ret => exact hq.elim
  | panic v => exact hq.elim
end Go.Proofs.YtkapgooedfompaaAw

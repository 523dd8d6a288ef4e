/- slices' symMerge over Val: what it does. -/
import Derived.Test.YtfmmemboakdeiaaInsSV
import Derived.Test.YtfmmemboakdeiaaNat
namespace Go.Proofs.Ytfmmemboakdeiaa
open Go.Proofs.YtfmmemboakdeiaaAw Go.RowKit
set_option linter.unusedVariables false
set_option linter.unusedSimpArgs false
namespace SV
theorem half_eq (n : Nat) (h : n ≤ 2000000000000) : IntKind.i64.wrap (shrI .u64 (IntKind.u64.wrap (n : Int)) 1) = ((n / 2 : Nat) : Int) := by
  rw [wrapU64N n (by omega)]
  have := shrU n 1 (by decide)
  rw [show ((1 : Nat) : Int) = 1 from rfl] at this
  rw [this]
  exact wrapI _ (by omega)
theorem swap_next {L P R : List Val} {x y : Val} (h : L = P ++ x :: y :: R) {i : Nat} (hi : P.length = i) : L[i]? = some x ∧ L[i + 1]? = some y ∧ (L.set i y)[i + 1]? = some y ∧ (L.set (i + 1) x)[i]? = some x ∧ (L.set i y).set (i + 1) x = P ++ y :: x :: R ∧ (L.set (i + 1) x).set i y = P ++ y :: x :: R := by
  subst h hi
  have e : P ++ x :: y :: R = (P ++ [x]) ++ y :: R := by simp
  have e2 : ∀ z : Val, P ++ z :: y :: R = (P ++ [z]) ++ y :: R := by simp
  have h1 : ∀ z : Val, (P ++ [z]).length = P.length + 1 := by simp
  refine ⟨get_at rfl, by rw [e]; exact get_at (h1 x), ?_, ?_, ?_, ?_⟩
  · rw [set_at rfl, e2]; exact get_at (h1 y)
  · rw [e, set_at (h1 x)]
    have : P ++ [x] ++ x :: R = P ++ x :: (x :: R) := by simp
    rw [this]; exact get_at rfl
  · rw [set_at rfl, e2, set_at (h1 y)]; simp
  · rw [e, set_at (h1 x)]
    have : P ++ [x] ++ x :: R = P ++ x :: (x :: R) := by simp
    rw [this, set_at rfl]
theorem memX {P X Y Q L : List Val} {a : Nat} (hL : L = P ++ X ++ Y ++ Q) (ha : P.length = a) : ∀ i x, X[i]? = some x → L[a + i]? = some x := fun i x hx => by
  have := (List.getElem?_eq_some_iff.1 hx).1
  rw [hL, List.append_assoc, List.append_assoc, ← ha, List.getElem?_append_right (by omega), List.getElem?_append_left (by omega), Nat.add_sub_cancel_left]
  exact hx
theorem memY {P X Y Q L : List Val} {m : Nat} (hL : L = P ++ X ++ Y ++ Q) (hm : P.length + X.length = m) : ∀ i y, Y[i]? = some y → L[m + i]? = some y := fun i y hy => by
  have := (List.getElem?_eq_some_iff.1 hy).1
  rw [hL, List.append_assoc (P ++ X), ← hm, List.getElem?_append_right (by simp), List.getElem?_append_left (by simp; omega)]
  simpa [Nat.add_sub_cancel_left] using hy
set_option maxRecDepth 10000 in
set_option maxHeartbeats 4000000 in
theorem sym1_does (H : AHeap) (id ver : Nat) (hid : id < H.length) (g : FuncId) (caps : List AV) (c : Val → Val → Int) (ho : St.Ord (ltC c)) (hc : CmpOk g caps c H id) (n : Nat) (hbig : n ≤ 1000000000000) (P X Y Q L L' : List Val) (a m b : Nat)
    (hL : L = P ++ X ++ Y ++ Q) (hL' : L' = P ++ St.sortS (ltC c) (X ++ Y) ++ Q) (ha : P.length = a) (hm : P.length + X.length = m) (hb : P.length + X.length + Y.length = b) (hX0 : 0 < X.length) (hY0 : 0 < Y.length) (hX : St.Sorted (ltC c) X) (hY : St.Sorted (ltC c) Y) (hn : L.length = n) (h1 : X.length = 1) :
    Does Try.prog 65 [.sl id ver 0 n, iA a, iA m, iA b, .fn g caps] (aH H id ver L) (.ok (.tup [])) (aH H id ver L') := by
  have hnl : P.length + X.length + Y.length + Q.length = n := by rw [← hn, hL]; simp; omega
  have w1 : IntKind.i64.wrap ((m : Int) - (a : Int)) = ((X.length : Nat) : Int) := by rw [wrap64_in _ (by omega) (by omega)]; omega
  have w2 : IntKind.i64.wrap ((b : Int) - (m : Int)) = ((Y.length : Nat) : Int) := by rw [wrap64_in _ (by omega) (by omega)]; omega
  have hLX := memX hL ha
  have hLY := memY hL hm
  generalize hE0 : aH H id ver L = E0
  have gh := aH_get hid ver L
  rw [hE0] at gh
  have hcE : ∀ x y : Val, Does Try.prog g ([.agg (x.enc.map .d), .agg (y.enc.map .d)] ++ caps) E0 (.ok (iA (c x y))) E0 := fun x y => by rw [← hE0]; exact hc.at ver L x y
  refine Does.of_awp (hint := (fun _ => false)) Try.func65 (by kernel_rfl) rfl [] (by kernel_rfl) (by decide) (by simp [Try.ntmps65]) ?_
  rw [Try.ntmps65]
  obtain ⟨x, rfl⟩ : ∃ x, X = [x] := List.length_eq_one_iff.1 h1
  simp (implicitDefEqProofs := false) only [↓reduceIte, go_sem, oread, owrite, Nat.reduceAdd, Nat.reduceSub, Nat.reduceMul, Nat.reduceLT, Nat.reduceLeDiff, Nat.reduceEqDiff, Nat.reduceBEq, Int.reduceLE, Int.reduceLT, Int.reduceEq, Int.reduceNe, Int.reduceAdd, Int.reduceSub, Int.reduceMul, Int.reduceNeg, Int.reduceToNat, Int.reduceNatCast, reduceCtorEq, eq_self, w1, h1, List.length_singleton]
  refine awp_loop _ _ _ _ (fun (z : Nat × Nat) s H' => H' = E0 ∧ z.1 ≤ z.2 ∧ z.2 ≤ Y.length ∧ (z.1 = 0 ∨ ∃ y, Y[z.1 - 1]? = some y ∧ ltC c y x = true) ∧ (z.2 = Y.length ∨ ∃ y, Y[z.2]? = some y ∧ ltC c y x = false) ∧
    s 0 = .sl id ver 0 n ∧ s 1 = iA a ∧ s 4 = .fn g caps ∧ s 10 = iA ((m + z.1 : Nat) : Int) ∧ s 11 = iA ((m + z.2 : Nat) : Int)) (fun z => z.2 - z.1) (0, Y.length) (Weak.refl _ _) ?_ ?_
  · refine ⟨rfl, Nat.zero_le _, Nat.le_refl _, .inl rfl, .inl rfl, ?_⟩
    simp (implicitDefEqProofs := false) only [↓reduceIte, go_sem, oread, owrite, Nat.reduceAdd, Nat.reduceSub, Nat.reduceMul, Nat.reduceLT, Nat.reduceLeDiff, Nat.reduceEqDiff, Nat.reduceBEq, Int.reduceLE, Int.reduceLT, Int.reduceEq, Int.reduceNe, Int.reduceAdd, Int.reduceSub, Int.reduceMul, Int.reduceNeg, Int.reduceToNat, Int.reduceNatCast, reduceCtorEq, eq_self, show m + Y.length = b by omega, Nat.add_zero]
  · rintro ⟨i, j⟩ s H' ⟨rfl, hij, hj, hlo, hhi, t0, t1, t4, t10, t11⟩
    simp only at hij hj hlo hhi t10 t11
    obtain ⟨i', hi'⟩ : ∃ i', i' = m + i := ⟨_, rfl⟩
    obtain ⟨j', hj'⟩ : ∃ j', j' = m + j := ⟨_, rfl⟩
    rw [← hi'] at t10
    rw [← hj'] at t11
    have f1 : ((m : Int) + (i : Int)) = (i' : Int) := by omega
    have f2 : ((m : Int) + (j : Int)) = (j' : Int) := by omega
    by_cases hlt : i < j
    · obtain ⟨q, hq⟩ : ∃ q, q = i' + j' := ⟨_, rfl⟩
      have w3 : IntKind.i64.wrap ((i' : Int) + (j' : Int)) = (q : Int) := by rw [wrap64_in _ (by omega) (by omega)]; omega
      have w4 := half_eq q (by omega)
      obtain ⟨h, hh⟩ : ∃ h, h = q / 2 := ⟨_, rfl⟩
      rw [← hh] at w4
      obtain ⟨y, hy⟩ : ∃ y, Y[h - m]? = some y := ⟨_, List.getElem?_eq_getElem (show h - m < Y.length by omega)⟩
      have gy := get_enc (hLY _ _ hy)
      rw [show m + (h - m) = h by omega] at gy
      have gx := get_enc (hLX 0 x rfl)
      rw [Nat.add_zero] at gx
      have hd := hcE y x
      simp only [Val.enc] at gx gy
      simp only [Val.enc, List.map_cons, List.map_nil] at hd
      have hln : h < n := by omega
      have han : a < n := by omega
      simp (implicitDefEqProofs := false) only [↓reduceIte, go_sem, oread, owrite, Nat.reduceAdd, Nat.reduceSub, Nat.reduceMul, Nat.reduceLT, Nat.reduceLeDiff, Nat.reduceEqDiff, Nat.reduceBEq, Int.reduceLE, Int.reduceLT, Int.reduceEq, Int.reduceNe, Int.reduceAdd, Int.reduceSub, Int.reduceMul, Int.reduceNeg, Int.reduceToNat, Int.reduceNatCast, reduceCtorEq, eq_self, t10, t11, show ((i' : Int) < (j' : Int)) = True from eq_true (by omega), w3, w4]
      refine awp_draw K.mixed (by kernel_rfl) ?_
      simp (implicitDefEqProofs := false) only [↓reduceIte, go_sem, oread, owrite, Nat.reduceAdd, Nat.reduceSub, Nat.reduceMul, Nat.reduceLT, Nat.reduceLeDiff, Nat.reduceEqDiff, Nat.reduceBEq, Int.reduceLE, Int.reduceLT, Int.reduceEq, Int.reduceNe, Int.reduceAdd, Int.reduceSub, Int.reduceMul, Int.reduceNeg, Int.reduceToNat, Int.reduceNatCast, reduceCtorEq, eq_self, t0, t1, t4, gh, gx, gy, hln, han]
      refine KCall.ok hd ?_
      by_cases hcc : c y x < 0
      · have hw5 : IntKind.i64.wrap ((h : Int) + 1) = ((m + (h - m + 1) : Nat) : Int) := by rw [wrap64_in _ (by omega) (by omega)]; omega
        obtain ⟨h2, hh2⟩ : ∃ h2, h2 = m + (h - m + 1) := ⟨_, rfl⟩
        rw [← hh2] at hw5
        simp (implicitDefEqProofs := false) only [↓reduceIte, go_sem, oread, owrite, Nat.reduceAdd, Nat.reduceSub, Nat.reduceMul, Nat.reduceLT, Nat.reduceLeDiff, Nat.reduceEqDiff, Nat.reduceBEq, Int.reduceLE, Int.reduceLT, Int.reduceEq, Int.reduceNe, Int.reduceAdd, Int.reduceSub, Int.reduceMul, Int.reduceNeg, Int.reduceToNat, Int.reduceNatCast, reduceCtorEq, eq_self, hcc, hw5]
        refine ⟨_, _, (h - m + 1, j), Weak.refl _ _, ⟨rfl, by simp only; omega, hj, .inr ⟨y, by simpa using hy, by simp [ltC, hcc]⟩, hhi, ?_⟩, by simp only; omega⟩
        simp (implicitDefEqProofs := false) only [↓reduceIte, go_sem, oread, owrite, Nat.reduceAdd, Nat.reduceSub, Nat.reduceMul, Nat.reduceLT, Nat.reduceLeDiff, Nat.reduceEqDiff, Nat.reduceBEq, Int.reduceLE, Int.reduceLT, Int.reduceEq, Int.reduceNe, Int.reduceAdd, Int.reduceSub, Int.reduceMul, Int.reduceNeg, Int.reduceToNat, Int.reduceNatCast, reduceCtorEq, eq_self, t0, t1, t4, t11, show ((m : Int) + (((h - m : Nat) : Int) + 1)) = (h2 : Int) by omega, f2]
      · simp (implicitDefEqProofs := false) only [↓reduceIte, go_sem, oread, owrite, Nat.reduceAdd, Nat.reduceSub, Nat.reduceMul, Nat.reduceLT, Nat.reduceLeDiff, Nat.reduceEqDiff, Nat.reduceBEq, Int.reduceLE, Int.reduceLT, Int.reduceEq, Int.reduceNe, Int.reduceAdd, Int.reduceSub, Int.reduceMul, Int.reduceNeg, Int.reduceToNat, Int.reduceNatCast, reduceCtorEq, eq_self, hcc]
        refine ⟨_, _, (i, h - m), Weak.refl _ _, ⟨rfl, by simp only; omega, by simp only; omega, hlo, .inr ⟨y, hy, by simp [ltC, hcc]⟩, ?_⟩, by simp only; omega⟩
        simp (implicitDefEqProofs := false) only [↓reduceIte, go_sem, oread, owrite, Nat.reduceAdd, Nat.reduceSub, Nat.reduceMul, Nat.reduceLT, Nat.reduceLeDiff, Nat.reduceEqDiff, Nat.reduceBEq, Int.reduceLE, Int.reduceLT, Int.reduceEq, Int.reduceNe, Int.reduceAdd, Int.reduceSub, Int.reduceMul, Int.reduceNeg, Int.reduceToNat, Int.reduceNatCast, reduceCtorEq, eq_self, t0, t1, t4, t10, show ((m : Int) + ((h - m : Nat) : Int)) = (h : Int) by omega, f1]
    · obtain rfl : j = i := by omega
      have hmg := St.merge_one ho hY hj hlo hhi
      have hw6 : IntKind.i64.wrap ((i' : Int) - 1) = (i' : Int) - 1 := wrap64_in _ (by omega) (by omega)
      simp (implicitDefEqProofs := false) only [↓reduceIte, go_sem, oread, owrite, Nat.reduceAdd, Nat.reduceSub, Nat.reduceMul, Nat.reduceLT, Nat.reduceLeDiff, Nat.reduceEqDiff, Nat.reduceBEq, Int.reduceLE, Int.reduceLT, Int.reduceEq, Int.reduceNe, Int.reduceAdd, Int.reduceSub, Int.reduceMul, Int.reduceNeg, Int.reduceToNat, Int.reduceNatCast, reduceCtorEq, eq_self, t10, t11, show ((i' : Int) < (j' : Int)) = False from eq_false (by omega), t1]
      refine awp_for3 (fun k s H' => (∃ Lk, H' = aH H id ver Lk ∧ Lk = P ++ Y.take k ++ x :: (Y.drop k ++ Q)) ∧ s 0 = .sl id ver 0 n ∧ s 10 = iA i' ∧ s 13 = iA ((a : Int) + (k : Int))) j (by omega) (Weak.refl _ _) ?_ ?_ ?_
      · refine ⟨⟨L, hE0.symm, by rw [hL]; simp⟩, ?_⟩
        simp (implicitDefEqProofs := false) only [↓reduceIte, go_sem, oread, owrite, Nat.reduceAdd, Nat.reduceSub, Nat.reduceMul, Nat.reduceLT, Nat.reduceLeDiff, Nat.reduceEqDiff, Nat.reduceBEq, Int.reduceLE, Int.reduceLT, Int.reduceEq, Int.reduceNe, Int.reduceAdd, Int.reduceSub, Int.reduceMul, Int.reduceNeg, Int.reduceToNat, Int.reduceNatCast, reduceCtorEq, eq_self, t0, t10, Int.add_zero]
      · rintro k s H' hk hw ⟨⟨Lk, rfl, hLk⟩, t0, t10, t13⟩
        have hkY : k < Y.length := by omega
        have e1 : Y.drop k = Y[k] :: Y.drop (k + 1) := List.drop_eq_getElem_cons hkY
        have e2 : Y.take (k + 1) = Y.take k ++ [Y[k]] := List.take_succ_eq_append_getElem hkY
        rw [e1] at hLk
        rw [e2]
        have l1 : (P ++ Y.take k).length = a + k := by simp; omega
        generalize Y[k] = y at *
        generalize Y.drop (k + 1) = Y1 at *
        generalize Y.take k = Y0 at *
        obtain ⟨u, hu⟩ : ∃ u, u = a + k := ⟨_, rfl⟩
        obtain ⟨v, hv⟩ : ∃ v, v = u + 1 := ⟨_, rfl⟩
        rw [← hu] at l1
        obtain ⟨g1, g2, g3, _, g5, _⟩ := swap_next (L := Lk) (P := P ++ Y0) (x := x) (y := y) (R := Y1 ++ Q) (by rw [hLk]; simp) l1
        rw [← hv] at g2 g3 g5
        have f3 : ((a : Int) + (k : Int)) = (u : Int) := by omega
        have hw7 : IntKind.i64.wrap ((u : Int) + 1) = (v : Int) := by rw [wrap64_in _ (by omega) (by omega)]; omega
        rw [f3] at t13
        have gg := aH_get hid ver Lk
        have q1 := get_enc g1
        have q2 := get_enc g2
        have q3 := get_enc g3
        have s1 := set_enc Lk u y
        have s2 := set_enc (Lk.set u y) v x
        rw [g5] at s2
        have hun : u < n := by omega
        have hvn : v < n := by omega
        simp only [Val.enc] at q1 q2 q3 s1 s2
        simp (implicitDefEqProofs := false) only [↓reduceIte, go_sem, oread, owrite, Nat.reduceAdd, Nat.reduceSub, Nat.reduceMul, Nat.reduceLT, Nat.reduceLeDiff, Nat.reduceEqDiff, Nat.reduceBEq, Int.reduceLE, Int.reduceLT, Int.reduceEq, Int.reduceNe, Int.reduceAdd, Int.reduceSub, Int.reduceMul, Int.reduceNeg, Int.reduceToNat, Int.reduceNatCast, reduceCtorEq, eq_self, t10, t13, hw6, show ((u : Int) < (i' : Int) - 1) = True from eq_true (by omega)]
        refine awp_drawN [false, false, false, false, false, false, false, false, false, false, false, false, false, false, true, true, true, true] 14 K.mixed (by kernel_rfl) (by kernel_rfl) (by kernel_rfl) ?_
        simp (implicitDefEqProofs := false) only [↓reduceIte, go_sem, oread, owrite, Nat.reduceAdd, Nat.reduceSub, Nat.reduceMul, Nat.reduceLT, Nat.reduceLeDiff, Nat.reduceEqDiff, Nat.reduceBEq, Int.reduceLE, Int.reduceLT, Int.reduceEq, Int.reduceNe, Int.reduceAdd, Int.reduceSub, Int.reduceMul, Int.reduceNeg, Int.reduceToNat, Int.reduceNatCast, reduceCtorEq, eq_self, t0, t13, hw7, hun, hvn, gg, q1, q2, q3, s1, s2, aH_set, aH_get hid, hid, List.getElem?_set_self, List.set_set]
        refine Rnd.same ⟨⟨_, by rw [← aH_fold], by simp⟩, ?_⟩
        simp (implicitDefEqProofs := false) only [↓reduceIte, go_sem, oread, owrite, Nat.reduceAdd, Nat.reduceSub, Nat.reduceMul, Nat.reduceLT, Nat.reduceLeDiff, Nat.reduceEqDiff, Nat.reduceBEq, Int.reduceLE, Int.reduceLT, Int.reduceEq, Int.reduceNe, Int.reduceAdd, Int.reduceSub, Int.reduceMul, Int.reduceNeg, Int.reduceToNat, Int.reduceNatCast, reduceCtorEq, eq_self, t0, t10, show ((a : Int) + ((k : Int) + 1)) = (v : Int) by omega]
      · rintro s H' ⟨⟨Lk, rfl, hLk⟩, t0, t10, t13⟩
        simp (implicitDefEqProofs := false) only [↓reduceIte, go_sem, oread, owrite, Nat.reduceAdd, Nat.reduceSub, Nat.reduceMul, Nat.reduceLT, Nat.reduceLeDiff, Nat.reduceEqDiff, Nat.reduceBEq, Int.reduceLE, Int.reduceLT, Int.reduceEq, Int.reduceNe, Int.reduceAdd, Int.reduceSub, Int.reduceMul, Int.reduceNeg, Int.reduceToNat, Int.reduceNatCast, reduceCtorEq, eq_self, t10, t13, hw6, show ((a : Int) + (j : Int) < (i' : Int) - 1) = False from eq_false (by omega)]
        have : Lk = L' := by rw [hLk, hL', List.singleton_append, ← hmg]; simp
        rw [this]
        exact ⟨_, Weak.refl _ _, rfl⟩
set_option maxRecDepth 10000 in
set_option maxHeartbeats 4000000 in
theorem sym2_does (H : AHeap) (id ver : Nat) (hid : id < H.length) (g : FuncId) (caps : List AV) (c : Val → Val → Int) (ho : St.Ord (ltC c)) (hc : CmpOk g caps c H id) (n : Nat) (hbig : n ≤ 1000000000000) (P X Y Q L L' : List Val) (a m b : Nat)
    (hL : L = P ++ X ++ Y ++ Q) (hL' : L' = P ++ St.sortS (ltC c) (X ++ Y) ++ Q) (ha : P.length = a) (hm : P.length + X.length = m) (hb : P.length + X.length + Y.length = b) (hX0 : 0 < X.length) (hY0 : 0 < Y.length) (hX : St.Sorted (ltC c) X) (hY : St.Sorted (ltC c) Y) (hn : L.length = n) (h1 : ¬ X.length = 1) (h2 : Y.length = 1) :
    Does Try.prog 65 [.sl id ver 0 n, iA a, iA m, iA b, .fn g caps] (aH H id ver L) (.ok (.tup [])) (aH H id ver L') := by
  have hnl : P.length + X.length + Y.length + Q.length = n := by rw [← hn, hL]; simp; omega
  have w1 : IntKind.i64.wrap ((m : Int) - (a : Int)) = ((X.length : Nat) : Int) := by rw [wrap64_in _ (by omega) (by omega)]; omega
  have w2 : IntKind.i64.wrap ((b : Int) - (m : Int)) = ((Y.length : Nat) : Int) := by rw [wrap64_in _ (by omega) (by omega)]; omega
  have hLX := memX hL ha
  have hLY := memY hL hm
  generalize hE0 : aH H id ver L = E0
  have gh := aH_get hid ver L
  rw [hE0] at gh
  have hcE : ∀ x y : Val, Does Try.prog g ([.agg (x.enc.map .d), .agg (y.enc.map .d)] ++ caps) E0 (.ok (iA (c x y))) E0 := fun x y => by rw [← hE0]; exact hc.at ver L x y
  refine Does.of_awp (hint := (fun _ => false)) Try.func65 (by kernel_rfl) rfl [] (by kernel_rfl) (by decide) (by simp [Try.ntmps65]) ?_
  rw [Try.ntmps65]
  obtain ⟨y, rfl⟩ : ∃ y, Y = [y] := List.length_eq_one_iff.1 h2
  simp (implicitDefEqProofs := false) only [↓reduceIte, go_sem, oread, owrite, Nat.reduceAdd, Nat.reduceSub, Nat.reduceMul, Nat.reduceLT, Nat.reduceLeDiff, Nat.reduceEqDiff, Nat.reduceBEq, Int.reduceLE, Int.reduceLT, Int.reduceEq, Int.reduceNe, Int.reduceAdd, Int.reduceSub, Int.reduceMul, Int.reduceNeg, Int.reduceToNat, Int.reduceNatCast, reduceCtorEq, eq_self, w1, w2, show (((X.length : Nat) : Int) = 1) = False from eq_false (by omega), h2, List.length_singleton]
  refine awp_loop _ _ _ _ (fun (z : Nat × Nat) s H' => H' = E0 ∧ z.1 ≤ z.2 ∧ z.2 ≤ X.length ∧ (z.1 = 0 ∨ ∃ x, X[z.1 - 1]? = some x ∧ ltC c y x = false) ∧ (z.2 = X.length ∨ ∃ x, X[z.2]? = some x ∧ ltC c y x = true) ∧
    s 0 = .sl id ver 0 n ∧ s 2 = iA m ∧ s 4 = .fn g caps ∧ s 14 = iA ((a + z.1 : Nat) : Int) ∧ s 15 = iA ((a + z.2 : Nat) : Int)) (fun z => z.2 - z.1) (0, X.length) (Weak.refl _ _) ?_ ?_
  · refine ⟨rfl, Nat.zero_le _, Nat.le_refl _, .inl rfl, .inl rfl, ?_⟩
    simp (implicitDefEqProofs := false) only [↓reduceIte, go_sem, oread, owrite, Nat.reduceAdd, Nat.reduceSub, Nat.reduceMul, Nat.reduceLT, Nat.reduceLeDiff, Nat.reduceEqDiff, Nat.reduceBEq, Int.reduceLE, Int.reduceLT, Int.reduceEq, Int.reduceNe, Int.reduceAdd, Int.reduceSub, Int.reduceMul, Int.reduceNeg, Int.reduceToNat, Int.reduceNatCast, reduceCtorEq, eq_self, show ((a : Int) + ((X.length : Nat) : Int)) = (m : Int) by omega, Nat.add_zero]
  · rintro ⟨i, j⟩ s H' ⟨rfl, hij, hj, hlo, hhi, t0, t2, t4, t14, t15⟩
    simp only at hij hj hlo hhi t14 t15
    obtain ⟨i', hi'⟩ : ∃ i', i' = a + i := ⟨_, rfl⟩
    obtain ⟨j', hj'⟩ : ∃ j', j' = a + j := ⟨_, rfl⟩
    rw [← hi'] at t14
    rw [← hj'] at t15
    have f1 : ((a : Int) + (i : Int)) = (i' : Int) := by omega
    have f2 : ((a : Int) + (j : Int)) = (j' : Int) := by omega
    by_cases hlt : i < j
    · obtain ⟨q, hq⟩ : ∃ q, q = i' + j' := ⟨_, rfl⟩
      have w3 : IntKind.i64.wrap ((i' : Int) + (j' : Int)) = (q : Int) := by rw [wrap64_in _ (by omega) (by omega)]; omega
      have w4 := half_eq q (by omega)
      obtain ⟨h, hh⟩ : ∃ h, h = q / 2 := ⟨_, rfl⟩
      rw [← hh] at w4
      obtain ⟨x, hx⟩ : ∃ x, X[h - a]? = some x := ⟨_, List.getElem?_eq_getElem (show h - a < X.length by omega)⟩
      have gx := get_enc (hLX _ _ hx)
      rw [show a + (h - a) = h by omega] at gx
      have gy := get_enc (hLY 0 y rfl)
      rw [Nat.add_zero] at gy
      have hd := hcE y x
      simp only [Val.enc] at gx gy
      simp only [Val.enc, List.map_cons, List.map_nil] at hd
      have hln : h < n := by omega
      have hmn : m < n := by omega
      simp (implicitDefEqProofs := false) only [↓reduceIte, go_sem, oread, owrite, Nat.reduceAdd, Nat.reduceSub, Nat.reduceMul, Nat.reduceLT, Nat.reduceLeDiff, Nat.reduceEqDiff, Nat.reduceBEq, Int.reduceLE, Int.reduceLT, Int.reduceEq, Int.reduceNe, Int.reduceAdd, Int.reduceSub, Int.reduceMul, Int.reduceNeg, Int.reduceToNat, Int.reduceNatCast, reduceCtorEq, eq_self, t14, t15, show ((i' : Int) < (j' : Int)) = True from eq_true (by omega), w3, w4]
      refine awp_draw K.mixed (by kernel_rfl) ?_
      simp (implicitDefEqProofs := false) only [↓reduceIte, go_sem, oread, owrite, Nat.reduceAdd, Nat.reduceSub, Nat.reduceMul, Nat.reduceLT, Nat.reduceLeDiff, Nat.reduceEqDiff, Nat.reduceBEq, Int.reduceLE, Int.reduceLT, Int.reduceEq, Int.reduceNe, Int.reduceAdd, Int.reduceSub, Int.reduceMul, Int.reduceNeg, Int.reduceToNat, Int.reduceNatCast, reduceCtorEq, eq_self, t0, t2, t4, gh, gx, gy, hln, hmn]
      refine KCall.ok hd ?_
      by_cases hcc : c y x < 0
      · simp (implicitDefEqProofs := false) only [↓reduceIte, go_sem, oread, owrite, Nat.reduceAdd, Nat.reduceSub, Nat.reduceMul, Nat.reduceLT, Nat.reduceLeDiff, Nat.reduceEqDiff, Nat.reduceBEq, Int.reduceLE, Int.reduceLT, Int.reduceEq, Int.reduceNe, Int.reduceAdd, Int.reduceSub, Int.reduceMul, Int.reduceNeg, Int.reduceToNat, Int.reduceNatCast, reduceCtorEq, eq_self, hcc]
        refine ⟨_, _, (i, h - a), Weak.refl _ _, ⟨rfl, by simp only; omega, by simp only; omega, hlo, .inr ⟨x, hx, by simp [ltC, hcc]⟩, ?_⟩, by simp only; omega⟩
        simp (implicitDefEqProofs := false) only [↓reduceIte, go_sem, oread, owrite, Nat.reduceAdd, Nat.reduceSub, Nat.reduceMul, Nat.reduceLT, Nat.reduceLeDiff, Nat.reduceEqDiff, Nat.reduceBEq, Int.reduceLE, Int.reduceLT, Int.reduceEq, Int.reduceNe, Int.reduceAdd, Int.reduceSub, Int.reduceMul, Int.reduceNeg, Int.reduceToNat, Int.reduceNatCast, reduceCtorEq, eq_self, t0, t2, t4, t14, show ((a : Int) + ((h - a : Nat) : Int)) = (h : Int) by omega, f1]
      · have hw5 : IntKind.i64.wrap ((h : Int) + 1) = ((a + (h - a + 1) : Nat) : Int) := by rw [wrap64_in _ (by omega) (by omega)]; omega
        obtain ⟨h2, hh2⟩ : ∃ h2, h2 = a + (h - a + 1) := ⟨_, rfl⟩
        rw [← hh2] at hw5
        simp (implicitDefEqProofs := false) only [↓reduceIte, go_sem, oread, owrite, Nat.reduceAdd, Nat.reduceSub, Nat.reduceMul, Nat.reduceLT, Nat.reduceLeDiff, Nat.reduceEqDiff, Nat.reduceBEq, Int.reduceLE, Int.reduceLT, Int.reduceEq, Int.reduceNe, Int.reduceAdd, Int.reduceSub, Int.reduceMul, Int.reduceNeg, Int.reduceToNat, Int.reduceNatCast, reduceCtorEq, eq_self, hcc, hw5]
        refine ⟨_, _, (h - a + 1, j), Weak.refl _ _, ⟨rfl, by simp only; omega, hj, .inr ⟨x, by simpa using hx, by simp [ltC, hcc]⟩, hhi, ?_⟩, by simp only; omega⟩
        simp (implicitDefEqProofs := false) only [↓reduceIte, go_sem, oread, owrite, Nat.reduceAdd, Nat.reduceSub, Nat.reduceMul, Nat.reduceLT, Nat.reduceLeDiff, Nat.reduceEqDiff, Nat.reduceBEq, Int.reduceLE, Int.reduceLT, Int.reduceEq, Int.reduceNe, Int.reduceAdd, Int.reduceSub, Int.reduceMul, Int.reduceNeg, Int.reduceToNat, Int.reduceNatCast, reduceCtorEq, eq_self, t0, t2, t4, t15, show ((a : Int) + (((h - a : Nat) : Int) + 1)) = (h2 : Int) by omega, f2]
    · obtain rfl : j = i := by omega
      have hmg := St.merge_last ho hX hj hhi hlo
      simp (implicitDefEqProofs := false) only [↓reduceIte, go_sem, oread, owrite, Nat.reduceAdd, Nat.reduceSub, Nat.reduceMul, Nat.reduceLT, Nat.reduceLeDiff, Nat.reduceEqDiff, Nat.reduceBEq, Int.reduceLE, Int.reduceLT, Int.reduceEq, Int.reduceNe, Int.reduceAdd, Int.reduceSub, Int.reduceMul, Int.reduceNeg, Int.reduceToNat, Int.reduceNatCast, reduceCtorEq, eq_self, t14, t15, show ((i' : Int) < (j' : Int)) = False from eq_false (by omega), t2]
      refine awp_loop _ _ _ _ (fun (k : Nat) s H' => k ≤ X.length - j ∧ (∃ Lk, H' = aH H id ver Lk ∧ Lk = P ++ X.take (j + k) ++ y :: (X.drop (j + k) ++ Q)) ∧ s 0 = .sl id ver 0 n ∧ s 14 = iA i' ∧ s 17 = iA ((i' : Int) + (k : Int))) (fun k => k) (X.length - j) (Weak.refl _ _) ?_ ?_
      · refine ⟨Nat.le_refl _, ⟨L, hE0.symm, ?_⟩, ?_⟩
        · rw [show j + (X.length - j) = X.length by omega, List.take_length, List.drop_length, hL]; simp
        · simp (implicitDefEqProofs := false) only [↓reduceIte, go_sem, oread, owrite, Nat.reduceAdd, Nat.reduceSub, Nat.reduceMul, Nat.reduceLT, Nat.reduceLeDiff, Nat.reduceEqDiff, Nat.reduceBEq, Int.reduceLE, Int.reduceLT, Int.reduceEq, Int.reduceNe, Int.reduceAdd, Int.reduceSub, Int.reduceMul, Int.reduceNeg, Int.reduceToNat, Int.reduceNatCast, reduceCtorEq, eq_self, t0, t14, show ((i' : Int) + ((X.length - j : Nat) : Int)) = (m : Int) by omega]
      · rintro k s H' ⟨hkx, ⟨Lk, rfl, hLk⟩, t0, t14, t17⟩
        cases k with
        | zero =>
          simp (implicitDefEqProofs := false) only [↓reduceIte, go_sem, oread, owrite, Nat.reduceAdd, Nat.reduceSub, Nat.reduceMul, Nat.reduceLT, Nat.reduceLeDiff, Nat.reduceEqDiff, Nat.reduceBEq, Int.reduceLE, Int.reduceLT, Int.reduceEq, Int.reduceNe, Int.reduceAdd, Int.reduceSub, Int.reduceMul, Int.reduceNeg, Int.reduceToNat, Int.reduceNatCast, reduceCtorEq, eq_self, t14, t17, show ((i' : Int) < (i' : Int) + 0) = False from eq_false (by omega), Int.add_zero, Int.lt_irrefl]
          have : Lk = L' := by rw [hLk, hL', Nat.add_zero, ← hmg]; simp
          rw [this]
          exact ⟨_, Weak.refl _ _, rfl⟩
        | succ k =>
          have hkX : j + k < X.length := by omega
          have e1 : X.drop (j + k) = X[j + k] :: X.drop (j + k + 1) := List.drop_eq_getElem_cons hkX
          have e2 : X.take (j + k + 1) = X.take (j + k) ++ [X[j + k]] := List.take_succ_eq_append_getElem hkX
          rw [show j + (k + 1) = j + k + 1 by omega, e2] at hLk
          have l1 : (P ++ X.take (j + k)).length = i' + k := by simp; omega
          obtain ⟨u, hu⟩ : ∃ u, u = i' + k := ⟨_, rfl⟩
          obtain ⟨v, hv⟩ : ∃ v, v = u + 1 := ⟨_, rfl⟩
          rw [← hu] at l1
          have fk : ((i' : Int) + ((k + 1 : Nat) : Int)) = (v : Int) := by omega
          have fk2 : ((i' : Int) + (k : Int)) = (u : Int) := by omega
          rw [fk] at t17
          generalize X[j + k] = x at *
          generalize X.drop (j + k + 1) = X1 at *
          obtain ⟨g1, g2, _, g4, _, g6⟩ := swap_next (L := Lk) (P := P ++ X.take (j + k)) (x := x) (y := y) (R := X1 ++ Q) (by rw [hLk]; simp) l1
          rw [← hv] at g2 g4 g6
          have hw7 : IntKind.i64.wrap ((v : Int) - 1) = (u : Int) := by rw [wrap64_in _ (by omega) (by omega)]; omega
          have gg := aH_get hid ver Lk
          have q1 := get_enc g1
          have q2 := get_enc g2
          have q4 := get_enc g4
          have s1 := set_enc Lk v x
          have s2 := set_enc (Lk.set v x) u y
          rw [g6] at s2
          have hun : u < n := by omega
          have hvn : v < n := by omega
          simp only [Val.enc] at q1 q2 q4 s1 s2
          simp (implicitDefEqProofs := false) only [↓reduceIte, go_sem, oread, owrite, Nat.reduceAdd, Nat.reduceSub, Nat.reduceMul, Nat.reduceLT, Nat.reduceLeDiff, Nat.reduceEqDiff, Nat.reduceBEq, Int.reduceLE, Int.reduceLT, Int.reduceEq, Int.reduceNe, Int.reduceAdd, Int.reduceSub, Int.reduceMul, Int.reduceNeg, Int.reduceToNat, Int.reduceNatCast, reduceCtorEq, eq_self, t14, t17, show ((i' : Int) < (v : Int)) = True from eq_true (by omega)]
          refine awp_drawN [false, false, false, false, false, false, false, false, false, false, false, false, false, false, true, true, true, true] 14 K.mixed (by kernel_rfl) (by kernel_rfl) (by kernel_rfl) ?_
          simp (implicitDefEqProofs := false) only [↓reduceIte, go_sem, oread, owrite, Nat.reduceAdd, Nat.reduceSub, Nat.reduceMul, Nat.reduceLT, Nat.reduceLeDiff, Nat.reduceEqDiff, Nat.reduceBEq, Int.reduceLE, Int.reduceLT, Int.reduceEq, Int.reduceNe, Int.reduceAdd, Int.reduceSub, Int.reduceMul, Int.reduceNeg, Int.reduceToNat, Int.reduceNatCast, reduceCtorEq, eq_self, t0, t17, hw7, hun, hvn, gg, q1, q2, q4, s1, s2, aH_set, aH_get hid, hid, List.getElem?_set_self, List.set_set]
          refine ⟨_, _, k, Weak.refl _ _, ⟨by omega, ⟨_, by rw [← aH_fold], by rw [e1]; simp⟩, ?_⟩, by omega⟩
          simp (implicitDefEqProofs := false) only [↓reduceIte, go_sem, oread, owrite, Nat.reduceAdd, Nat.reduceSub, Nat.reduceMul, Nat.reduceLT, Nat.reduceLeDiff, Nat.reduceEqDiff, Nat.reduceBEq, Int.reduceLE, Int.reduceLT, Int.reduceEq, Int.reduceNe, Int.reduceAdd, Int.reduceSub, Int.reduceMul, Int.reduceNeg, Int.reduceToNat, Int.reduceNatCast, reduceCtorEq, eq_self, t0, t14, fk2]
end SV
end Go.Proofs.Ytfmmemboakdeiaa

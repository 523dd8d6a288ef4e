/- slices' symMerge over Val, the general case: what it does. -/
import Derived.Test.YtfmmemboakdeiaaSymV
namespace Go.Proofs.Ytfmmemboakdeiaa
open Go.Proofs.YtfmmemboakdeiaaAw Go.RowKit
set_option linter.unusedVariables false
set_option linter.unusedSimpArgs false
namespace SV
/-- Hidden from the arithmetic. -/
def Hid (p : Prop) : Prop := p
theorem sym_arith {a m b q mid n0 s0 r0 lx ly : Nat} (hm : a + lx = m) (hb : a + lx + ly = b) (hq : q = a + b) (hmid : mid = q / 2) (hn0 : n0 = mid + m) (hs0 : s0 = if mid < m then n0 - b else a) (hr0 : r0 = if mid < m then mid else m) (hx : 0 < lx) (hy : 0 < ly) (h1 : ¬ lx = 1) :
    (s0 ≤ r0 ∧ a ≤ s0 ∧ r0 ≤ m ∧ r0 ≤ mid) ∧ (n0 ≤ b + s0 ∧ mid < b ∧ a < mid) ∧ Hid (r0 = m ∨ n0 = m + r0) ∧ Hid (s0 = a ∨ n0 = b + s0) ∧ m + r0 ≤ n0 ∧ (mid < m → b ≤ n0) := by
  by_cases h : mid < m
  · rw [if_pos h] at hs0 hr0; unfold Hid; omega
  · rw [if_neg h] at hs0 hr0; unfold Hid; omega
set_option maxRecDepth 10000 in
set_option maxHeartbeats 4000000 in
theorem sym3_does (H : AHeap) (id ver : Nat) (hid : id < H.length) (g : FuncId) (caps : List AV) (c : Val → Val → Int) (ho : St.Ord (ltC c)) (hc : CmpOk g caps c H id) (n : Nat) (hbig : n ≤ 1000000000000) (P X Y Q L L' : List Val) (a m b : Nat)
    (hL : L = P ++ X ++ Y ++ Q) (hL' : L' = P ++ St.sortS (ltC c) (X ++ Y) ++ Q) (ha : P.length = a) (hm : P.length + X.length = m) (hb : P.length + X.length + Y.length = b) (hX0 : 0 < X.length) (hY0 : 0 < Y.length) (hX : St.Sorted (ltC c) X) (hY : St.Sorted (ltC c) Y) (hn : L.length = n) (h1 : ¬ X.length = 1) (h2 : ¬ Y.length = 1)
    (ih : ∀ (P' X' Y' Q' L1 L2 : List Val) (a' m' b' : Nat), X'.length + Y'.length < X.length + Y.length → L1 = P' ++ X' ++ Y' ++ Q' → L2 = P' ++ St.sortS (ltC c) (X' ++ Y') ++ Q' → P'.length = a' → P'.length + X'.length = m' → P'.length + X'.length + Y'.length = b' → 0 < X'.length → 0 < Y'.length →
      St.Sorted (ltC c) X' → St.Sorted (ltC c) Y' → L1.length = n → Does Try.prog 65 [.sl id ver 0 n, iA a', iA m', iA b', .fn g caps] (aH H id ver L1) (.ok (.tup [])) (aH H id ver L2)) :
    Does Try.prog 65 [.sl id ver 0 n, iA a, iA m, iA b, .fn g caps] (aH H id ver L) (.ok (.tup [])) (aH H id ver L') := by
  have hnl : P.length + X.length + Y.length + Q.length = n := by rw [← hn, hL]; simp; omega
  have w1 : IntKind.i64.wrap ((m : Int) - (a : Int)) = ((X.length : Nat) : Int) := by rw [wrap64_in _ (by omega) (by omega)]; omega
  have w2 : IntKind.i64.wrap ((b : Int) - (m : Int)) = ((Y.length : Nat) : Int) := by rw [wrap64_in _ (by omega) (by omega)]; omega
  have hLX := memX hL ha
  have hLY := memY hL hm
  generalize hE0 : aH H id ver L = E0
  have gh := aH_get hid ver L
  rw [hE0] at gh
  have hcE : ∀ x y : Val, Does Try.prog g ([.agg (x.enc.map .d), .agg (y.enc.map .d)] ++ caps) E0 (.ok (iA (c x y))) E0 := fun x y => by rw [← hE0]; exact hc.at ver L x y
  refine Does.of_awp (hint := (fun _ => false)) Try.func65 (by kernel_rfl) rfl [] (by kernel_rfl) (by decide) (by simp [Try.ntmps65]) ?_
  rw [Try.ntmps65]
  obtain ⟨q, hq⟩ : ∃ q, q = a + b := ⟨_, rfl⟩
  obtain ⟨mid, hmid⟩ : ∃ mid, mid = q / 2 := ⟨_, rfl⟩
  obtain ⟨n0, hn0⟩ : ∃ n0, n0 = mid + m := ⟨_, rfl⟩
  obtain ⟨p, hp⟩ : ∃ p, p = n0 - 1 := ⟨_, rfl⟩
  have w3 : IntKind.i64.wrap ((a : Int) + (b : Int)) = (q : Int) := by rw [wrap64_in _ (by omega) (by omega)]; omega
  have w4 := half_eq q (by omega)
  rw [← hmid] at w4
  have w5 : IntKind.i64.wrap ((mid : Int) + (m : Int)) = (n0 : Int) := by rw [wrap64_in _ (by omega) (by omega)]; omega
  have w6 : IntKind.i64.wrap ((n0 : Int) - 1) = (p : Int) := by rw [wrap64_in _ (by omega) (by omega)]; omega
  obtain ⟨s0, hs0⟩ : ∃ s0, s0 = if mid < m then n0 - b else a := ⟨_, rfl⟩
  obtain ⟨r0, hr0⟩ : ∃ r0, r0 = if mid < m then mid else m := ⟨_, rfl⟩
  obtain ⟨a1, a2, a3, a4, a5, a6⟩ := sym_arith (by omega) (by omega) hq hmid hn0 hs0 hr0 hX0 hY0 h1
  have w7 : mid < m → IntKind.i64.wrap ((n0 : Int) - (b : Int)) = (s0 : Int) := fun h => by have := a6 h; rw [if_pos h] at hs0; rw [wrap64_in _ (by omega) (by omega)]; omega
  simp (implicitDefEqProofs := false) only [↓reduceIte, go_sem, oread, owrite, Nat.reduceAdd, Nat.reduceSub, Nat.reduceMul, Nat.reduceLT, Nat.reduceLeDiff, Nat.reduceEqDiff, Nat.reduceBEq, Int.reduceLE, Int.reduceLT, Int.reduceEq, Int.reduceNe, Int.reduceAdd, Int.reduceSub, Int.reduceMul, Int.reduceNeg, Int.reduceToNat, Int.reduceNatCast, reduceCtorEq, eq_self, w1, w2, show (((X.length : Nat) : Int) = 1) = False from eq_false (by omega), show (((Y.length : Nat) : Int) = 1) = False from eq_false (by omega), w3, w4, w5]
  refine acond_cut (fun s H' => H' = E0 ∧ s 0 = .sl id ver 0 n ∧ s 1 = iA a ∧ s 2 = iA m ∧ s 3 = iA b ∧ s 4 = .fn g caps ∧ s 18 = iA mid ∧ s 19 = iA n0 ∧ s 20 = iA s0 ∧ s 21 = iA r0) rfl ?_ ?_
  · by_cases hmm : mid < m
    · simp (implicitDefEqProofs := false) only [↓reduceIte, go_sem, oread, owrite, Nat.reduceAdd, Nat.reduceSub, Nat.reduceMul, Nat.reduceLT, Nat.reduceLeDiff, Nat.reduceEqDiff, Nat.reduceBEq, Int.reduceLE, Int.reduceLT, Int.reduceEq, Int.reduceNe, Int.reduceAdd, Int.reduceSub, Int.reduceMul, Int.reduceNeg, Int.reduceToNat, Int.reduceNatCast, reduceCtorEq, eq_self, eq_true hmm, w7 hmm]
      rw [hr0, if_pos hmm]
    · simp (implicitDefEqProofs := false) only [↓reduceIte, go_sem, oread, owrite, Nat.reduceAdd, Nat.reduceSub, Nat.reduceMul, Nat.reduceLT, Nat.reduceLeDiff, Nat.reduceEqDiff, Nat.reduceBEq, Int.reduceLE, Int.reduceLT, Int.reduceEq, Int.reduceNe, Int.reduceAdd, Int.reduceSub, Int.reduceMul, Int.reduceNeg, Int.reduceToNat, Int.reduceNatCast, reduceCtorEq, eq_self, eq_false hmm]
      rw [hs0, hr0, if_neg hmm, if_neg hmm]
      exact ⟨rfl, rfl⟩
  · clear hs0 hr0 w3 w4 w5 w7 a6 hmid
    rintro s H' ⟨rfl, t0, t1, t2, t3, t4, t18, t19, t20, t21⟩
    simp (implicitDefEqProofs := false) only [↓reduceIte, go_sem, oread, owrite, Nat.reduceAdd, Nat.reduceSub, Nat.reduceMul, Nat.reduceLT, Nat.reduceLeDiff, Nat.reduceEqDiff, Nat.reduceBEq, Int.reduceLE, Int.reduceLT, Int.reduceEq, Int.reduceNe, Int.reduceAdd, Int.reduceSub, Int.reduceMul, Int.reduceNeg, Int.reduceToNat, Int.reduceNatCast, reduceCtorEq, eq_self, t19, w6]
    refine awp_cutB (fun s H1 => H1 = H' ∧ (∃ st, s0 ≤ st ∧ st ≤ r0 ∧ Hid (st = s0 ∨ ∃ x y, X[st - 1 - a]? = some x ∧ Y[n0 - st - m]? = some y ∧ ltC c y x = false) ∧ Hid (st = r0 ∨ ∃ x y, X[st - a]? = some x ∧ Y[p - st - m]? = some y ∧ ltC c y x = true) ∧ s 20 = iA st) ∧
      s 0 = .sl id ver 0 n ∧ s 1 = iA a ∧ s 2 = iA m ∧ s 3 = iA b ∧ s 4 = .fn g caps ∧ s 18 = iA mid ∧ s 19 = iA n0) rfl ?_ ?_
    · refine awp_loop _ _ _ _ (fun (z : Nat × Nat) s H1 => H1 = H' ∧ s0 ≤ z.1 ∧ z.1 ≤ z.2 ∧ z.2 ≤ r0 ∧ Hid (z.1 = s0 ∨ ∃ x y, X[z.1 - 1 - a]? = some x ∧ Y[n0 - z.1 - m]? = some y ∧ ltC c y x = false) ∧ Hid (z.2 = r0 ∨ ∃ x y, X[z.2 - a]? = some x ∧ Y[p - z.2 - m]? = some y ∧ ltC c y x = true) ∧
        s 0 = .sl id ver 0 n ∧ s 1 = iA a ∧ s 2 = iA m ∧ s 3 = iA b ∧ s 4 = .fn g caps ∧ s 18 = iA mid ∧ s 19 = iA n0 ∧ s 20 = iA z.1 ∧ s 21 = iA z.2 ∧ s 22 = iA p) (fun z => z.2 - z.1) (s0, r0) (Weak.refl _ _) ?_ ?_
      · refine ⟨rfl, Nat.le_refl _, a1.1, Nat.le_refl _, .inl rfl, .inl rfl, ?_⟩
        simp (implicitDefEqProofs := false) only [↓reduceIte, go_sem, oread, owrite, Nat.reduceAdd, Nat.reduceSub, Nat.reduceMul, Nat.reduceLT, Nat.reduceLeDiff, Nat.reduceEqDiff, Nat.reduceBEq, Int.reduceLE, Int.reduceLT, Int.reduceEq, Int.reduceNe, Int.reduceAdd, Int.reduceSub, Int.reduceMul, Int.reduceNeg, Int.reduceToNat, Int.reduceNatCast, reduceCtorEq, eq_self, t0, t1, t2, t3, t4, t18, t19, t20, t21]
      · rintro ⟨i, j⟩ s H1 ⟨rfl, hi0, hij, hj0, hlo, hhi, t0, t1, t2, t3, t4, t18, t19, t20, t21, t22⟩
        simp only at hi0 hij hj0 hlo hhi t20 t21
        by_cases hlt : i < j
        · obtain ⟨qq, hqq⟩ : ∃ qq, qq = i + j := ⟨_, rfl⟩
          have v3 : IntKind.i64.wrap ((i : Int) + (j : Int)) = (qq : Int) := by rw [wrap64_in _ (by omega) (by omega)]; omega
          have v4 := half_eq qq (by omega)
          obtain ⟨h, hh⟩ : ∃ h, h = qq / 2 := ⟨_, rfl⟩
          rw [← hh] at v4
          have hpc : m ≤ p - h ∧ p - h < b ∧ h < m ∧ a ≤ h := by omega
          obtain ⟨pc, hpc2⟩ : ∃ pc, pc = p - h := ⟨_, rfl⟩
          have v5 : IntKind.i64.wrap ((p : Int) - (h : Int)) = (pc : Int) := by rw [wrap64_in _ (by omega) (by omega)]; omega
          obtain ⟨x, hx⟩ : ∃ x, X[h - a]? = some x := ⟨_, List.getElem?_eq_getElem (show h - a < X.length by omega)⟩
          obtain ⟨y, hy⟩ : ∃ y, Y[pc - m]? = some y := ⟨_, List.getElem?_eq_getElem (show pc - m < Y.length by omega)⟩
          have gx := get_enc (hLX _ _ hx)
          rw [show a + (h - a) = h by omega] at gx
          have gy := get_enc (hLY _ _ hy)
          rw [show m + (pc - m) = pc by omega] at gy
          have hd := hcE y x
          simp only [Val.enc] at gx gy
          simp only [Val.enc, List.map_cons, List.map_nil] at hd
          have hln : h < n := by omega
          have hpn : pc < n := by omega
          simp (implicitDefEqProofs := false) only [↓reduceIte, go_sem, oread, owrite, Nat.reduceAdd, Nat.reduceSub, Nat.reduceMul, Nat.reduceLT, Nat.reduceLeDiff, Nat.reduceEqDiff, Nat.reduceBEq, Int.reduceLE, Int.reduceLT, Int.reduceEq, Int.reduceNe, Int.reduceAdd, Int.reduceSub, Int.reduceMul, Int.reduceNeg, Int.reduceToNat, Int.reduceNatCast, reduceCtorEq, eq_self, t20, t21, eq_true hlt, v3, v4]
          refine awp_draw K.mixed (by kernel_rfl) ?_
          simp (implicitDefEqProofs := false) only [↓reduceIte, go_sem, oread, owrite, Nat.reduceAdd, Nat.reduceSub, Nat.reduceMul, Nat.reduceLT, Nat.reduceLeDiff, Nat.reduceEqDiff, Nat.reduceBEq, Int.reduceLE, Int.reduceLT, Int.reduceEq, Int.reduceNe, Int.reduceAdd, Int.reduceSub, Int.reduceMul, Int.reduceNeg, Int.reduceToNat, Int.reduceNatCast, reduceCtorEq, eq_self, t0, t4, t22, gh, gx, gy, hln, hpn, v5]
          refine KCall.ok hd ?_
          by_cases hcc : c y x < 0
          · simp (implicitDefEqProofs := false) only [↓reduceIte, go_sem, oread, owrite, Nat.reduceAdd, Nat.reduceSub, Nat.reduceMul, Nat.reduceLT, Nat.reduceLeDiff, Nat.reduceEqDiff, Nat.reduceBEq, Int.reduceLE, Int.reduceLT, Int.reduceEq, Int.reduceNe, Int.reduceAdd, Int.reduceSub, Int.reduceMul, Int.reduceNeg, Int.reduceToNat, Int.reduceNatCast, reduceCtorEq, eq_self, hcc]
            refine ⟨_, _, (i, h), Weak.refl _ _, ⟨rfl, hi0, by simp only; omega, by simp only; omega, hlo, .inr ⟨x, y, hx, by rw [← hpc2]; exact hy, by simp [ltC, hcc]⟩, ?_⟩, by simp only; omega⟩
            simp (implicitDefEqProofs := false) only [↓reduceIte, go_sem, oread, owrite, Nat.reduceAdd, Nat.reduceSub, Nat.reduceMul, Nat.reduceLT, Nat.reduceLeDiff, Nat.reduceEqDiff, Nat.reduceBEq, Int.reduceLE, Int.reduceLT, Int.reduceEq, Int.reduceNe, Int.reduceAdd, Int.reduceSub, Int.reduceMul, Int.reduceNeg, Int.reduceToNat, Int.reduceNatCast, reduceCtorEq, eq_self, t0, t1, t2, t3, t4, t18, t19, t20, t22]
          · have v6 : IntKind.i64.wrap ((h : Int) + 1) = (h : Int) + 1 := wrap64_in _ (by omega) (by omega)
            simp (implicitDefEqProofs := false) only [↓reduceIte, go_sem, oread, owrite, Nat.reduceAdd, Nat.reduceSub, Nat.reduceMul, Nat.reduceLT, Nat.reduceLeDiff, Nat.reduceEqDiff, Nat.reduceBEq, Int.reduceLE, Int.reduceLT, Int.reduceEq, Int.reduceNe, Int.reduceAdd, Int.reduceSub, Int.reduceMul, Int.reduceNeg, Int.reduceToNat, Int.reduceNatCast, reduceCtorEq, eq_self, hcc, v6]
            refine ⟨_, _, (h + 1, j), Weak.refl _ _, ⟨rfl, by simp only; omega, by simp only; omega, hj0, .inr ⟨x, y, by simpa using hx, by rw [show n0 - (h + 1) - m = pc - m by omega]; exact hy, by simp [ltC, hcc]⟩, hhi, ?_⟩, by simp only; omega⟩
            simp (implicitDefEqProofs := false) only [↓reduceIte, go_sem, oread, owrite, Nat.reduceAdd, Nat.reduceSub, Nat.reduceMul, Nat.reduceLT, Nat.reduceLeDiff, Nat.reduceEqDiff, Nat.reduceBEq, Int.reduceLE, Int.reduceLT, Int.reduceEq, Int.reduceNe, Int.reduceAdd, Int.reduceSub, Int.reduceMul, Int.reduceNeg, Int.reduceToNat, Int.reduceNatCast, reduceCtorEq, eq_self, t0, t1, t2, t3, t4, t18, t19, t21, t22]
        · obtain rfl : j = i := by omega
          simp (implicitDefEqProofs := false) only [↓reduceIte, go_sem, oread, owrite, Nat.reduceAdd, Nat.reduceSub, Nat.reduceMul, Nat.reduceLT, Nat.reduceLeDiff, Nat.reduceEqDiff, Nat.reduceBEq, Int.reduceLE, Int.reduceLT, Int.reduceEq, Int.reduceNe, Int.reduceAdd, Int.reduceSub, Int.reduceMul, Int.reduceNeg, Int.reduceToNat, Int.reduceNatCast, reduceCtorEq, eq_self, t20, t21, Nat.lt_irrefl]
          exact ⟨⟨j, hi0, hj0, hlo, hhi, rfl⟩, t0, t1, t2, t3, t4, t18, t19⟩
    · rintro s H1 ⟨rfl, ⟨st, hst0, hst1, hlo, hhi, t20⟩, t0, t1, t2, t3, t4, t18, t19⟩
      clear w6
      obtain ⟨e, he⟩ : ∃ e, e = n0 - st := ⟨_, rfl⟩
      obtain ⟨sX, hsX⟩ : ∃ sX, sX = st - a := ⟨_, rfl⟩
      obtain ⟨eY, heY⟩ : ∃ eY, eY = e - m := ⟨_, rfl⟩
      have w8 : IntKind.i64.wrap ((n0 : Int) - (st : Int)) = (e : Int) := by rw [wrap64_in _ (by omega) (by omega)]; omega
      have b1 : sX ≤ X.length ∧ eY ≤ Y.length ∧ m ≤ e ∧ e ≤ b ∧ mid = st + eY ∧ e = mid + (m - st) := by omega
      have hcut := St.merge_cut ho hX hY (s := sX) (e := eY) b1.1 b1.2.1 ?_ ?_
      rotate_left
      · rcases hhi with h | ⟨x, y, hx, hy, h⟩
        · rcases a3 with h3 | h3
          · exact .inl (by omega)
          · exact .inr (.inl (by omega))
        · exact .inr (.inr ⟨x, y, by rw [hsX]; exact hx, by rw [show eY - 1 = p - st - m by omega]; exact hy, h⟩)
      · rcases hlo with h | ⟨x, y, hx, hy, h⟩
        · rcases a4 with h4 | h4
          · exact .inl (by omega)
          · exact .inr (.inl (by omega))
        · exact .inr (.inr ⟨x, y, by rw [show sX - 1 = st - 1 - a by omega]; exact hx, by rw [show eY = n0 - st - m by omega]; exact hy, h⟩)
      have hXs := hX
      have hYs := hY
      have eX : X.take sX ++ X.drop sX = X := List.take_append_drop _ _
      have eY' : Y.take eY ++ Y.drop eY = Y := List.take_append_drop _ _
      have lA : (X.take sX).length = sX := by rw [List.length_take]; omega
      have lU : (X.drop sX).length = X.length - sX := List.length_drop
      have lV : (Y.take eY).length = eY := by rw [List.length_take]; omega
      have lB : (Y.drop eY).length = Y.length - eY := List.length_drop
      rw [← eX] at hXs
      rw [← eY'] at hYs
      have sA := hXs.left
      have sU := hXs.right
      have sV := hYs.left
      have sB := hYs.right
      clear hXs hYs hlo hhi a3 a4
      generalize hA : X.take sX = A at *
      generalize hU : X.drop sX = U at *
      generalize hV : Y.take eY = V at *
      generalize hB : Y.drop eY = B at *
      have hLL : L = P ++ A ++ U ++ V ++ (B ++ Q) := by rw [hL, ← eX, ← eY']; simp
      obtain ⟨L1, hL1⟩ : ∃ L1, L1 = P ++ A ++ V ++ U ++ (B ++ Q) := ⟨_, rfl⟩
      obtain ⟨L2, hL2⟩ : ∃ L2, L2 = P ++ St.sortS (ltC c) (A ++ V) ++ U ++ B ++ Q := ⟨_, rfl⟩
      have hL3 : L' = P ++ St.sortS (ltC c) (A ++ V) ++ St.sortS (ltC c) (U ++ B) ++ Q := by rw [hL', ← hcut]; simp
      have n1 : L1.length = n := by rw [← hn, hLL, hL1]; simp; omega
      have n2 : L2.length = n := by rw [← hn, hLL, hL2]; simp [St.sortS_len]; omega
      rw [awp_seq]
      refine awp_cut (fun s H2 => H2 = aH H id ver L ∧ s 0 = .sl id ver 0 n ∧ s 1 = iA a ∧ s 2 = iA m ∧ s 3 = iA b ∧ s 4 = .fn g caps ∧ s 18 = iA mid ∧ s 20 = iA st ∧ s 24 = iA e) rfl (by simp (implicitDefEqProofs := false) only [↓reduceIte, go_sem, oread, owrite, Nat.reduceAdd, Nat.reduceSub, Nat.reduceMul, Nat.reduceLT, Nat.reduceLeDiff, Nat.reduceEqDiff, Nat.reduceBEq, Int.reduceLE, Int.reduceLT, Int.reduceEq, Int.reduceNe, Int.reduceAdd, Int.reduceSub, Int.reduceMul, Int.reduceNeg, Int.reduceToNat, Int.reduceNatCast, reduceCtorEq, eq_self, t0, t1, t2, t3, t4, t18, t19, t20, w8, hE0]) ?_
      rintro s H2 ⟨rfl, t0, t1, t2, t3, t4, t18, t20, t24⟩
      rw [awp_seq]
      refine awp_cut (fun s H2 => H2 = aH H id ver L1 ∧ s 0 = .sl id ver 0 n ∧ s 1 = iA a ∧ s 2 = iA m ∧ s 3 = iA b ∧ s 4 = .fn g caps ∧ s 18 = iA mid ∧ s 20 = iA st ∧ s 24 = iA e) rfl ?_ ?_
      · have same : U = [] ∨ V = [] → aH H id ver L = aH H id ver L1 := fun h => by
          rw [hL1, hLL]; rcases h with rfl | rfl <;> simp
        by_cases c1 : st < m
        · by_cases c2 : m < e
          · simp (implicitDefEqProofs := false) only [↓reduceIte, go_sem, oread, owrite, Nat.reduceAdd, Nat.reduceSub, Nat.reduceMul, Nat.reduceLT, Nat.reduceLeDiff, Nat.reduceEqDiff, Nat.reduceBEq, Int.reduceLE, Int.reduceLT, Int.reduceEq, Int.reduceNe, Int.reduceAdd, Int.reduceSub, Int.reduceMul, Int.reduceNeg, Int.reduceToNat, Int.reduceNatCast, reduceCtorEq, eq_self, t2, t20, t24, eq_true c1, eq_true c2]
            simp (implicitDefEqProofs := false) only [↓reduceIte, go_sem, oread, owrite, Nat.reduceAdd, Nat.reduceSub, Nat.reduceMul, Nat.reduceLT, Nat.reduceLeDiff, Nat.reduceEqDiff, Nat.reduceBEq, Int.reduceLE, Int.reduceLT, Int.reduceEq, Int.reduceNe, Int.reduceAdd, Int.reduceSub, Int.reduceMul, Int.reduceNeg, Int.reduceToNat, Int.reduceNatCast, reduceCtorEq, eq_self, t0, t2, t4, t20, t24]
            refine KCall.ok (rotate_does H id ver hid g caps (P ++ A) U V (B ++ Q) L L1 hLL (by rw [hL1]) st m e n (by simp; omega) (by simp; omega) (by simp; omega) (by omega) (by omega) hn hbig) ?_
            simp (implicitDefEqProofs := false) only [↓reduceIte, go_sem, oread, owrite, Nat.reduceAdd, Nat.reduceSub, Nat.reduceMul, Nat.reduceLT, Nat.reduceLeDiff, Nat.reduceEqDiff, Nat.reduceBEq, Int.reduceLE, Int.reduceLT, Int.reduceEq, Int.reduceNe, Int.reduceAdd, Int.reduceSub, Int.reduceMul, Int.reduceNeg, Int.reduceToNat, Int.reduceNatCast, reduceCtorEq, eq_self, t0, t1, t2, t3, t4, t18, t20, t24]
          · simp (implicitDefEqProofs := false) only [↓reduceIte, go_sem, oread, owrite, Nat.reduceAdd, Nat.reduceSub, Nat.reduceMul, Nat.reduceLT, Nat.reduceLeDiff, Nat.reduceEqDiff, Nat.reduceBEq, Int.reduceLE, Int.reduceLT, Int.reduceEq, Int.reduceNe, Int.reduceAdd, Int.reduceSub, Int.reduceMul, Int.reduceNeg, Int.reduceToNat, Int.reduceNatCast, reduceCtorEq, eq_self, t2, t20, t24, eq_true c1, eq_false c2]
            simp (implicitDefEqProofs := false) only [↓reduceIte, go_sem, oread, owrite, Nat.reduceAdd, Nat.reduceSub, Nat.reduceMul, Nat.reduceLT, Nat.reduceLeDiff, Nat.reduceEqDiff, Nat.reduceBEq, Int.reduceLE, Int.reduceLT, Int.reduceEq, Int.reduceNe, Int.reduceAdd, Int.reduceSub, Int.reduceMul, Int.reduceNeg, Int.reduceToNat, Int.reduceNatCast, reduceCtorEq, eq_self, t0, t1, t2, t3, t4, t18, t20, t24]
            exact same (.inr (List.eq_nil_of_length_eq_zero (by omega)))
        · simp (implicitDefEqProofs := false) only [↓reduceIte, go_sem, oread, owrite, Nat.reduceAdd, Nat.reduceSub, Nat.reduceMul, Nat.reduceLT, Nat.reduceLeDiff, Nat.reduceEqDiff, Nat.reduceBEq, Int.reduceLE, Int.reduceLT, Int.reduceEq, Int.reduceNe, Int.reduceAdd, Int.reduceSub, Int.reduceMul, Int.reduceNeg, Int.reduceToNat, Int.reduceNatCast, reduceCtorEq, eq_self, t2, t20, t24, eq_false c1]
          simp (implicitDefEqProofs := false) only [↓reduceIte, go_sem, oread, owrite, Nat.reduceAdd, Nat.reduceSub, Nat.reduceMul, Nat.reduceLT, Nat.reduceLeDiff, Nat.reduceEqDiff, Nat.reduceBEq, Int.reduceLE, Int.reduceLT, Int.reduceEq, Int.reduceNe, Int.reduceAdd, Int.reduceSub, Int.reduceMul, Int.reduceNeg, Int.reduceToNat, Int.reduceNatCast, reduceCtorEq, eq_self, t0, t1, t2, t3, t4, t18, t20, t24]
          exact same (.inl (List.eq_nil_of_length_eq_zero (by omega)))
      rintro s H2 ⟨rfl, t0, t1, t2, t3, t4, t18, t20, t24⟩
      rw [awp_seq]
      refine awp_cut (fun s H2 => H2 = aH H id ver L2 ∧ s 0 = .sl id ver 0 n ∧ s 3 = iA b ∧ s 4 = .fn g caps ∧ s 18 = iA mid ∧ s 24 = iA e) rfl ?_ ?_
      · have same : A = [] ∨ V = [] → aH H id ver L1 = aH H id ver L2 := fun h => by
          have : St.sortS (ltC c) (A ++ V) = A ++ V := by
            rcases h with rfl | rfl
            · simpa using St.sortS_self ho sV
            · simpa using St.sortS_self ho sA
          rw [hL1, hL2, this]; simp
        by_cases c1 : a < st
        · by_cases c2 : st < mid
          · simp (implicitDefEqProofs := false) only [↓reduceIte, go_sem, oread, owrite, Nat.reduceAdd, Nat.reduceSub, Nat.reduceMul, Nat.reduceLT, Nat.reduceLeDiff, Nat.reduceEqDiff, Nat.reduceBEq, Int.reduceLE, Int.reduceLT, Int.reduceEq, Int.reduceNe, Int.reduceAdd, Int.reduceSub, Int.reduceMul, Int.reduceNeg, Int.reduceToNat, Int.reduceNatCast, reduceCtorEq, eq_self, t1, t18, t20, eq_true c1, eq_true c2]
            simp (implicitDefEqProofs := false) only [↓reduceIte, go_sem, oread, owrite, Nat.reduceAdd, Nat.reduceSub, Nat.reduceMul, Nat.reduceLT, Nat.reduceLeDiff, Nat.reduceEqDiff, Nat.reduceBEq, Int.reduceLE, Int.reduceLT, Int.reduceEq, Int.reduceNe, Int.reduceAdd, Int.reduceSub, Int.reduceMul, Int.reduceNeg, Int.reduceToNat, Int.reduceNatCast, reduceCtorEq, eq_self, t0, t1, t4, t18, t20]
            refine KCall.ok (ih P A V (U ++ (B ++ Q)) L1 L2 a st mid (by omega) (by rw [hL1]; simp) (by rw [hL2]; simp) ha (by omega) (by omega) (by omega) (by omega) sA sV n1) ?_
            simp (implicitDefEqProofs := false) only [↓reduceIte, go_sem, oread, owrite, Nat.reduceAdd, Nat.reduceSub, Nat.reduceMul, Nat.reduceLT, Nat.reduceLeDiff, Nat.reduceEqDiff, Nat.reduceBEq, Int.reduceLE, Int.reduceLT, Int.reduceEq, Int.reduceNe, Int.reduceAdd, Int.reduceSub, Int.reduceMul, Int.reduceNeg, Int.reduceToNat, Int.reduceNatCast, reduceCtorEq, eq_self, t0, t1, t2, t3, t4, t18, t20, t24]
          · simp (implicitDefEqProofs := false) only [↓reduceIte, go_sem, oread, owrite, Nat.reduceAdd, Nat.reduceSub, Nat.reduceMul, Nat.reduceLT, Nat.reduceLeDiff, Nat.reduceEqDiff, Nat.reduceBEq, Int.reduceLE, Int.reduceLT, Int.reduceEq, Int.reduceNe, Int.reduceAdd, Int.reduceSub, Int.reduceMul, Int.reduceNeg, Int.reduceToNat, Int.reduceNatCast, reduceCtorEq, eq_self, t1, t18, t20, eq_true c1, eq_false c2]
            simp (implicitDefEqProofs := false) only [↓reduceIte, go_sem, oread, owrite, Nat.reduceAdd, Nat.reduceSub, Nat.reduceMul, Nat.reduceLT, Nat.reduceLeDiff, Nat.reduceEqDiff, Nat.reduceBEq, Int.reduceLE, Int.reduceLT, Int.reduceEq, Int.reduceNe, Int.reduceAdd, Int.reduceSub, Int.reduceMul, Int.reduceNeg, Int.reduceToNat, Int.reduceNatCast, reduceCtorEq, eq_self, t0, t1, t2, t3, t4, t18, t20, t24]
            exact same (.inr (List.eq_nil_of_length_eq_zero (by omega)))
        · simp (implicitDefEqProofs := false) only [↓reduceIte, go_sem, oread, owrite, Nat.reduceAdd, Nat.reduceSub, Nat.reduceMul, Nat.reduceLT, Nat.reduceLeDiff, Nat.reduceEqDiff, Nat.reduceBEq, Int.reduceLE, Int.reduceLT, Int.reduceEq, Int.reduceNe, Int.reduceAdd, Int.reduceSub, Int.reduceMul, Int.reduceNeg, Int.reduceToNat, Int.reduceNatCast, reduceCtorEq, eq_self, t1, t18, t20, eq_false c1]
          simp (implicitDefEqProofs := false) only [↓reduceIte, go_sem, oread, owrite, Nat.reduceAdd, Nat.reduceSub, Nat.reduceMul, Nat.reduceLT, Nat.reduceLeDiff, Nat.reduceEqDiff, Nat.reduceBEq, Int.reduceLE, Int.reduceLT, Int.reduceEq, Int.reduceNe, Int.reduceAdd, Int.reduceSub, Int.reduceMul, Int.reduceNeg, Int.reduceToNat, Int.reduceNatCast, reduceCtorEq, eq_self, t0, t1, t2, t3, t4, t18, t20, t24]
          exact same (.inl (List.eq_nil_of_length_eq_zero (by omega)))
      rintro s H2 ⟨rfl, t0, t3, t4, t18, t24⟩
      have same : U = [] ∨ B = [] → aH H id ver L2 = aH H id ver L' := fun h => by
        have : St.sortS (ltC c) (U ++ B) = U ++ B := by
          rcases h with rfl | rfl
          · simpa using St.sortS_self ho sB
          · simpa using St.sortS_self ho sU
        rw [hL2, hL3, this]; simp
      by_cases c1 : mid < e
      · by_cases c2 : e < b
        · simp (implicitDefEqProofs := false) only [↓reduceIte, go_sem, oread, owrite, Nat.reduceAdd, Nat.reduceSub, Nat.reduceMul, Nat.reduceLT, Nat.reduceLeDiff, Nat.reduceEqDiff, Nat.reduceBEq, Int.reduceLE, Int.reduceLT, Int.reduceEq, Int.reduceNe, Int.reduceAdd, Int.reduceSub, Int.reduceMul, Int.reduceNeg, Int.reduceToNat, Int.reduceNatCast, reduceCtorEq, eq_self, t3, t18, t24, eq_true c1, eq_true c2]
          simp (implicitDefEqProofs := false) only [↓reduceIte, go_sem, oread, owrite, Nat.reduceAdd, Nat.reduceSub, Nat.reduceMul, Nat.reduceLT, Nat.reduceLeDiff, Nat.reduceEqDiff, Nat.reduceBEq, Int.reduceLE, Int.reduceLT, Int.reduceEq, Int.reduceNe, Int.reduceAdd, Int.reduceSub, Int.reduceMul, Int.reduceNeg, Int.reduceToNat, Int.reduceNatCast, reduceCtorEq, eq_self, t0, t3, t4, t18, t24]
          have lS := St.sortS_len (lt := ltC c) (A ++ V)
          rw [List.length_append] at lS
          refine KCall.ok (ih (P ++ St.sortS (ltC c) (A ++ V)) U B Q L2 L' mid e b (by omega) (by rw [hL2]) (by rw [hL3]) (by simp; omega) (by simp; omega) (by simp; omega) (by omega) (by omega) sU sB n2) ?_
          simp (implicitDefEqProofs := false) only [↓reduceIte, go_sem, oread, owrite, Nat.reduceAdd, Nat.reduceSub, Nat.reduceMul, Nat.reduceLT, Nat.reduceLeDiff, Nat.reduceEqDiff, Nat.reduceBEq, Int.reduceLE, Int.reduceLT, Int.reduceEq, Int.reduceNe, Int.reduceAdd, Int.reduceSub, Int.reduceMul, Int.reduceNeg, Int.reduceToNat, Int.reduceNatCast, reduceCtorEq, eq_self]
          exact ⟨_, Weak.refl _ _, rfl⟩
        · simp (implicitDefEqProofs := false) only [↓reduceIte, go_sem, oread, owrite, Nat.reduceAdd, Nat.reduceSub, Nat.reduceMul, Nat.reduceLT, Nat.reduceLeDiff, Nat.reduceEqDiff, Nat.reduceBEq, Int.reduceLE, Int.reduceLT, Int.reduceEq, Int.reduceNe, Int.reduceAdd, Int.reduceSub, Int.reduceMul, Int.reduceNeg, Int.reduceToNat, Int.reduceNatCast, reduceCtorEq, eq_self, t3, t18, t24, eq_true c1, eq_false c2]
          rw [same (.inr (List.eq_nil_of_length_eq_zero (by omega)))]
          exact ⟨_, Weak.refl _ _, rfl⟩
      · simp (implicitDefEqProofs := false) only [↓reduceIte, go_sem, oread, owrite, Nat.reduceAdd, Nat.reduceSub, Nat.reduceMul, Nat.reduceLT, Nat.reduceLeDiff, Nat.reduceEqDiff, Nat.reduceBEq, Int.reduceLE, Int.reduceLT, Int.reduceEq, Int.reduceNe, Int.reduceAdd, Int.reduceSub, Int.reduceMul, Int.reduceNeg, Int.reduceToNat, Int.reduceNatCast, reduceCtorEq, eq_self, t3, t18, t24, eq_false c1]
        rw [same (.inl (List.eq_nil_of_length_eq_zero (by omega)))]
        exact ⟨_, Weak.refl _ _, rfl⟩
end SV
end Go.Proofs.Ytfmmemboakdeiaa

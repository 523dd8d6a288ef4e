/- slices.SortStableFunc over Val: what it does. slices.CompactFunc over Val: what it does. Arguments of the laws, as Lean's data. dict.Words, the laws' few and shown: what they do. Words, codes and places: in plain Lean. dict.width, dict.Bytes: what they do. plain.Of of nothing, dict.used: what they do. Functions that defer a call; deferred functions that recover. leb.Get, leb.Zag: what they do. bits.From, Left, Get, Unpack: what they do. bits.Unpack: what it does. What numbers of bytes come to: plain facts. leb.ToText: what it does. flt.Bits, val.float, val.Of: what they do. val.Of: what it does. dict.read: what it does. plain.Bytes, plain.Of: what they do. The document's Same for values. rle.last, Runs: what they do. rle.Bytes: what it does. dict.ToCodes, dict.Of: what they do. dict.Of: what it does. seg.codecs: what it does. -/
import Derived.Recover
import Derived.Test.YtmbagpfmfiegkaaGreatM04
namespace Go.Proofs.YtmbagpfmfiegkaaGreat
open Go.Proofs.YtmbagpfmfiegkaaGreatAw Go.RowKit
set_option linter.unusedVariables false
set_option linter.unusedSimpArgs false
namespace SV
theorem symMerge_does (H : AHeap) (id ver : Nat) (hid : id < H.length) (g : FuncId) (caps : List AV) (c : Val → Val → Int) (ho : St.Ord (ltC c)) (hc : CmpOk g caps c H id) (n : Nat) (hbig : n ≤ 1000000000000) : ∀ (N : Nat) (P X Y Q L L' : List Val) (a m b : Nat), X.length + Y.length ≤ N →
    L = P ++ X ++ Y ++ Q → L' = P ++ St.sortS (ltC c) (X ++ Y) ++ Q → P.length = a → P.length + X.length = m → P.length + X.length + Y.length = b → 0 < X.length → 0 < Y.length → St.Sorted (ltC c) X → St.Sorted (ltC c) Y → L.length = n →
    Does Tryz.prog 180 [.sl id ver 0 n, iA a, iA m, iA b, .fn g caps] (aH H id ver L) (.ok (.tup [])) (aH H id ver L') := by
  intro N
  induction N with
  | zero => intros; omega
  | succ N ih =>
    intro P X Y Q L L' a m b hN hL hL' ha hm hb hX0 hY0 hX hY hn
    by_cases h1 : X.length = 1
    · exact sym1_does H id ver hid g caps c ho hc n hbig P X Y Q L L' a m b hL hL' ha hm hb hX0 hY0 hX hY hn h1
    · by_cases h2 : Y.length = 1
      · exact sym2_does H id ver hid g caps c ho hc n hbig P X Y Q L L' a m b hL hL' ha hm hb hX0 hY0 hX hY hn h1 h2
      · exact sym3_does H id ver hid g caps c ho hc n hbig P X Y Q L L' a m b hL hL' ha hm hb hX0 hY0 hX hY hn h1 h2 fun P' X' Y' Q' L1 L2 a' m' b' hlt => ih P' X' Y' Q' L1 L2 a' m' b' (by omega)
set_option maxRecDepth 10000 in
set_option maxHeartbeats 4000000 in
theorem stable_does (H : AHeap) (id ver : Nat) (hid : id < H.length) (g : FuncId) (caps : List AV) (c : Val → Val → Int) (ho : St.Ord (ltC c)) (hc : CmpOk g caps c H id) (n : Nat) (hbig : n ≤ 100000000000) (L : List Val) (hn : L.length = n) :
    Does Tryz.prog 172 [.sl id ver 0 n, iA n, .fn g caps] (aH H id ver L) (.ok (.tup [])) (aH H id ver (St.sortS (ltC c) L)) := by
  generalize hE0 : aH H id ver L = E0
  generalize hE1 : aH H id ver (St.sortS (ltC c) L) = E1
  refine Does.of_awp (hint := (fun _ => false)) Tryz.func172 (by kernel_rfl) rfl [] (by kernel_rfl) (by decide) (by simp [Tryz.ntmps172]) ?_
  rw [Tryz.ntmps172]
  simp (implicitDefEqProofs := false) only [↓reduceIte, go_sem, Nat.reduceLT, Nat.reduceEqDiff, eq_self]
  refine awp_cutB (fun s H' => (∃ Lk, H' = aH H id ver Lk ∧ St.StEq (ltC c) Lk L ∧ Lk.length = n ∧ (∃ k, k * 20 ≤ n ∧ n < (k + 1) * 20 ∧ (∀ j, j < k → St.Sorted (ltC c) (St.blk 20 j Lk)) ∧ s 7 = iA ((k * 20 : Nat) : Int))) ∧ s 0 = .sl id ver 0 n ∧ s 1 = iA n ∧ s 2 = .fn g caps ∧ s 6 = iA 20) rfl ?_ ?_
  · refine awp_loop _ _ _ _ (fun (k : Nat) s H' => k * 20 ≤ n ∧ (∃ Lk, H' = aH H id ver Lk ∧ St.StEq (ltC c) Lk L ∧ Lk.length = n ∧ ∀ j, j < k → St.Sorted (ltC c) (St.blk 20 j Lk)) ∧ s 0 = .sl id ver 0 n ∧ s 1 = iA n ∧ s 2 = .fn g caps ∧ s 6 = iA 20 ∧ s 7 = iA ((k * 20 : Nat) : Int) ∧ s 8 = iA (((k + 1) * 20 : Nat) : Int)) (fun k => n - k) 0 (Weak.refl _ _) ?_ ?_
    · refine ⟨by omega, ⟨L, hE0.symm, .refl _, hn, fun j hj => by omega⟩, ?_⟩
      simp (implicitDefEqProofs := false) only [↓reduceIte, go_sem, Nat.reduceLT, Nat.reduceEqDiff, reduceCtorEq, eq_self]
    · rintro k s H' ⟨hk, ⟨Lk, rfl, hst, hlen, hso⟩, t0, t1, t2, t6, t7, t8⟩
      obtain ⟨a, ha⟩ : ∃ a, a = k * 20 := ⟨_, rfl⟩
      obtain ⟨b, hb⟩ : ∃ b, b = (k + 1) * 20 := ⟨_, rfl⟩
      rw [← ha] at t7
      rw [← hb] at t8
      by_cases hbn : b ≤ n
      · obtain ⟨P, hP⟩ : ∃ P, P = Lk.take a := ⟨_, rfl⟩
        obtain ⟨X, hX⟩ : ∃ X, X = (Lk.drop a).take 20 := ⟨_, rfl⟩
        obtain ⟨Q, hQ⟩ : ∃ Q, Q = Lk.drop (a + 20) := ⟨_, rfl⟩
        have hc3 : Lk = P ++ X ++ Q := by rw [hP, hX, hQ, St.cut3]
        have lP : P.length = a := by rw [hP, List.length_take]; omega
        have lX : X.length = 20 := by rw [hX, List.length_take, List.length_drop]; omega
        obtain ⟨L1, hL1⟩ : ∃ L1, L1 = P ++ St.sortS (ltC c) X ++ Q := ⟨_, rfl⟩
        have lL1 : L1.length = n := by rw [hL1, ← hlen, hc3]; simp [St.sortS_len]
        have hso1 : ∀ j, j < k + 1 → St.Sorted (ltC c) (St.blk 20 j L1) := by
          rw [hL1]; exact St.blk_more ho (by omega) (by rw [← hc3]; exact hso) (.inl lX)
        have hst1 : St.StEq (ltC c) L1 L := by
          refine St.StEq.trans ?_ hst
          rw [hL1, hc3]; exact St.steq_part ho P X Q
        have w1 : IntKind.i64.wrap ((b : Int) + 20) = (((k + 1 + 1) * 20 : Nat) : Int) := by rw [wrap64_in _ (by omega) (by omega)]; omega
        obtain ⟨b2, hb2⟩ : ∃ b2, b2 = (k + 1 + 1) * 20 := ⟨_, rfl⟩
        rw [← hb2] at w1
        simp (implicitDefEqProofs := false) only [↓reduceIte, go_sem, Nat.reduceLT, Nat.reduceEqDiff, reduceCtorEq, eq_self, t1, t8, eq_true hbn]
        simp (implicitDefEqProofs := false) only [go_sem, t0, t2, t7]
        refine KCall.ok (insSort_does H id ver hid g caps c ho hc P X Q Lk L1 hc3 hL1 a b n lP (by omega) hlen (by omega)) ?_
        simp (implicitDefEqProofs := false) only [↓reduceIte, go_sem, Nat.reduceLT, Nat.reduceEqDiff, eq_self, t6, t8, w1]
        refine ⟨_, _, k + 1, Weak.refl _ _, ⟨by omega, ⟨L1, rfl, hst1, lL1, hso1⟩, ?_⟩, by omega⟩
        rw [← hb, ← hb2]
        simp (implicitDefEqProofs := false) only [↓reduceIte, go_sem, Nat.reduceLT, Nat.reduceEqDiff, reduceCtorEq, eq_self, t0, t1, t2, t6]
      · simp (implicitDefEqProofs := false) only [↓reduceIte, go_sem, Nat.reduceLT, Nat.reduceEqDiff, reduceCtorEq, eq_self, t1, t8, eq_false hbn]
        refine ⟨⟨Lk, rfl, hst, hlen, k, by omega, by omega, hso, ?_⟩, ?_⟩
        · rw [← ha]; simp (implicitDefEqProofs := false) only [go_sem, eq_self, t7]
        · simp (implicitDefEqProofs := false) only [go_sem, eq_self, t0, t2, t6]
  rintro s H' ⟨⟨Lk, rfl, hst, hlen, k, hk1, hk2, hso, t7⟩, t0, t1, t2, t6⟩
  obtain ⟨a, ha⟩ : ∃ a, a = k * 20 := ⟨_, rfl⟩
  rw [← ha] at t7
  have hc3 : Lk = Lk.take a ++ Lk.drop a ++ [] := by simp
  obtain ⟨L1, hL1⟩ : ∃ L1, L1 = Lk.take a ++ St.sortS (ltC c) (Lk.drop a) ++ [] := ⟨_, rfl⟩
  have lP : (Lk.take a).length = a := by rw [List.length_take]; omega
  have lX : (Lk.drop a).length = n - a := by rw [List.length_drop]; omega
  have lL1 : L1.length = n := by rw [hL1]; simp only [List.length_append, St.sortS_len, lP, lX, List.length_nil]; omega
  have hst1 : St.StEq (ltC c) L1 L := by
    refine St.StEq.trans ?_ hst
    rw [hL1]
    have := St.steq_part ho (Lk.take a) (Lk.drop a) []
    rwa [← hc3] at this
  have hb1 : ∀ j, St.Sorted (ltC c) (St.blk 20 j L1) := by
    intro j
    rcases Nat.lt_or_ge j (k + 1) with h | h
    · rw [hL1]
      exact St.blk_more ho (by omega) (by rw [← hc3]; exact hso) (.inr ⟨by omega, rfl⟩) j h
    · have := Nat.mul_le_mul_right 20 h
      rw [St.blk_out (by omega)]
      exact List.Pairwise.nil
  simp (implicitDefEqProofs := false) only [↓reduceIte, go_sem, Nat.reduceLT, Nat.reduceEqDiff, eq_self, t0, t1, t2, t7]
  refine KCall.ok (insSort_does H id ver hid g caps c ho hc _ _ _ Lk L1 hc3 hL1 a n n lP (by omega) hlen (by omega)) ?_
  clear hc3 hL1 lP lX hst hso hlen
  simp (implicitDefEqProofs := false) only [go_sem]
  refine awp_loop _ _ _ _ (fun (z : Nat) s H' => 20 ≤ z ∧ z ≤ 2 * n + 20 ∧ (∃ Lk, H' = aH H id ver Lk ∧ St.StEq (ltC c) Lk L ∧ Lk.length = n ∧ ∀ j, St.Sorted (ltC c) (St.blk z j Lk)) ∧ s 0 = .sl id ver 0 n ∧ s 1 = iA n ∧ s 2 = .fn g caps ∧ s 6 = iA z) (fun z => n - z) 20 (Weak.refl _ _) ?_ ?_
  · refine ⟨Nat.le_refl _, by omega, ⟨L1, rfl, hst1, lL1, hb1⟩, ?_⟩
    simp (implicitDefEqProofs := false) only [↓reduceIte, go_sem, Nat.reduceEqDiff, reduceCtorEq, eq_self, t0, t1, t2, t6]
  clear hb1 hst1 lL1 t0 t1 t2 t6 t7 hk1 hk2 ha
  rintro z s H' ⟨hz1, hz2, ⟨Lk, rfl, hst, hlen, hbl⟩, t0, t1, t2, t6⟩
  by_cases hzn : z < n
  · have w1 : IntKind.i64.wrap (2 * (z : Int)) = ((2 * z : Nat) : Int) := by rw [wrap64_in _ (by omega) (by omega)]; omega
    have w1' : IntKind.i64.wrap ((z : Int) * 2) = ((2 * z : Nat) : Int) := by rw [wrap64_in _ (by omega) (by omega)]; omega
    obtain ⟨y, hy⟩ : ∃ y, y = 2 * z := ⟨_, rfl⟩
    rw [← hy] at w1 w1'
    simp (implicitDefEqProofs := false) only [↓reduceIte, go_sem, Nat.reduceLT, Nat.reduceEqDiff, eq_self, t1, t6, eq_true hzn, w1]
    refine awp_cutB (fun s H' => (∃ Lk, H' = aH H id ver Lk ∧ St.StEq (ltC c) Lk L ∧ Lk.length = n ∧ ∃ k a, a = k * y ∧ a = 2 * k * z ∧ a ≤ n ∧ n < a + y ∧ (∀ j, j < k → St.Sorted (ltC c) (St.blk y j Lk)) ∧ (∀ j, 2 * k ≤ j → St.Sorted (ltC c) (St.blk z j Lk)) ∧ s 7 = iA a) ∧ s 0 = .sl id ver 0 n ∧ s 1 = iA n ∧ s 2 = .fn g caps ∧ s 6 = iA z) rfl ?_ ?_
    · refine awp_loop _ _ _ _ (fun (k : Nat) s H' => (∃ a, a = k * y ∧ a = 2 * k * z ∧ a ≤ n ∧ s 7 = iA a ∧ s 8 = iA ((a + y : Nat) : Int)) ∧ (∃ Lk, H' = aH H id ver Lk ∧ St.StEq (ltC c) Lk L ∧ Lk.length = n ∧ (∀ j, j < k → St.Sorted (ltC c) (St.blk y j Lk)) ∧ (∀ j, 2 * k ≤ j → St.Sorted (ltC c) (St.blk z j Lk))) ∧ s 0 = .sl id ver 0 n ∧ s 1 = iA n ∧ s 2 = .fn g caps ∧ s 6 = iA z) (fun k => n + 1 - k * y) 0 (Weak.refl _ _) ?_ ?_
      · refine ⟨⟨0, by omega, by omega, by omega, ?_⟩, ⟨Lk, rfl, hst, hlen, fun j hj => by omega, fun j _ => hbl j⟩, ?_⟩
        · simp (implicitDefEqProofs := false) only [↓reduceIte, go_sem, Nat.reduceLT, Nat.reduceEqDiff, eq_self, Nat.zero_add]
        · simp (implicitDefEqProofs := false) only [↓reduceIte, go_sem, Nat.reduceEqDiff, reduceCtorEq, eq_self, t0, t1, t2, t6]
      clear hst hlen hbl Lk t0 t1 t2 t6
      rintro k s H' ⟨⟨a, ha, ha2, han, t7, t8⟩, ⟨Lk, rfl, hst, hlen, hso, hso2⟩, t0, t1, t2, t6⟩
      obtain ⟨b, hb⟩ : ∃ b, b = a + y := ⟨_, rfl⟩
      rw [← hb] at t8
      have hk1 : (k + 1) * y = a + y := by rw [Nat.add_mul, ← ha, Nat.one_mul]
      have hk2 : 2 * (k + 1) * z = a + 2 * z := by rw [Nat.mul_add, Nat.add_mul, ← ha2]
      have hk3 : (2 * k + 1) * z = a + z := by rw [Nat.add_mul, ← ha2, Nat.one_mul]
      by_cases hbn : b ≤ n
      · obtain ⟨P, hP⟩ : ∃ P, P = Lk.take a := ⟨_, rfl⟩
        obtain ⟨X, hX⟩ : ∃ X, X = (Lk.drop a).take z := ⟨_, rfl⟩
        obtain ⟨Y, hY⟩ : ∃ Y, Y = (Lk.drop (a + z)).take z := ⟨_, rfl⟩
        obtain ⟨Q, hQ⟩ : ∃ Q, Q = Lk.drop (a + z + z) := ⟨_, rfl⟩
        have hc4 : Lk = P ++ X ++ Y ++ Q := by rw [hP, hX, hY, hQ, St.cut4]
        have hc5 : Lk = P ++ (X ++ Y) ++ Q := by rw [hc4]; simp
        have lP : P.length = a := by rw [hP, List.length_take]; omega
        have lX : X.length = z := by rw [hX, List.length_take, List.length_drop]; omega
        have lY : Y.length = z := by rw [hY, List.length_take, List.length_drop]; omega
        have lXY : (X ++ Y).length = y := by rw [List.length_append]; omega
        have sX : St.Sorted (ltC c) X := by have := hso2 (2 * k) (Nat.le_refl _); rw [St.blk, ← ha2, ← hX] at this; exact this
        have sY : St.Sorted (ltC c) Y := by have := hso2 (2 * k + 1) (by omega); rw [St.blk, hk3, ← hY] at this; exact this
        obtain ⟨L1, hL1⟩ : ∃ L1, L1 = P ++ St.sortS (ltC c) (X ++ Y) ++ Q := ⟨_, rfl⟩
        have lL1 : L1.length = n := by rw [hL1, ← hlen, hc5]; simp [St.sortS_len]; try omega
        have hst1 : St.StEq (ltC c) L1 L := by
          refine St.StEq.trans ?_ hst
          rw [hL1, hc5]; exact St.steq_part ho P (X ++ Y) Q
        have hso1 : ∀ j, j < k + 1 → St.Sorted (ltC c) (St.blk y j L1) := by
          rw [hL1]; exact St.blk_more ho (by omega) (by rw [← hc5]; exact hso) (.inl lXY)
        have hso3 : ∀ j, 2 * (k + 1) ≤ j → St.Sorted (ltC c) (St.blk z j L1) := fun j hj => by
          have h1 := Nat.mul_le_mul_right z hj
          rw [hL1, St.blk_behind (X' := X ++ Y) (St.sortS_len _) (by rw [St.sortS_len, lXY, lP]; omega), ← hc5]
          exact hso2 j (by omega)
        clear hP hX hY hQ hst hso hso2
        obtain ⟨m, hm⟩ : ∃ m, m = a + z := ⟨_, rfl⟩
        obtain ⟨b2, hb2⟩ : ∃ b2, b2 = b + y := ⟨_, rfl⟩
        have w2 : IntKind.i64.wrap ((a : Int) + (z : Int)) = (m : Int) := by rw [wrap64_in _ (by omega) (by omega)]; omega
        have w3 : IntKind.i64.wrap ((b : Int) + (y : Int)) = (b2 : Int) := by rw [wrap64_in _ (by omega) (by omega)]; omega
        simp (implicitDefEqProofs := false) only [↓reduceIte, go_sem, Nat.reduceLT, Nat.reduceEqDiff, reduceCtorEq, eq_self, t1, t8, eq_true hbn]
        simp (implicitDefEqProofs := false) only [↓reduceIte, go_sem, Nat.reduceLT, Nat.reduceEqDiff, eq_self, t0, t2, t6, t7, t8, w2]
        refine KCall.ok (symMerge_does H id ver hid g caps c ho hc n (by omega) _ P X Y Q Lk L1 a m b (Nat.le_refl _) hc4 hL1 lP (by omega) (by omega) (by omega) (by omega) sX sY hlen) ?_
        simp (implicitDefEqProofs := false) only [↓reduceIte, go_sem, Nat.reduceLT, Nat.reduceEqDiff, eq_self, t6, t8, w1, w3]
        refine ⟨_, _, k + 1, Weak.refl _ _, ⟨⟨b, by omega, by omega, hbn, ?_⟩, ⟨L1, rfl, hst1, lL1, hso1, hso3⟩, ?_⟩, by omega⟩
        · simp (implicitDefEqProofs := false) only [↓reduceIte, go_sem, Nat.reduceLT, Nat.reduceEqDiff, eq_self, show ((b : Int) + (y : Int)) = (b2 : Int) by omega]
        · simp (implicitDefEqProofs := false) only [↓reduceIte, go_sem, Nat.reduceEqDiff, reduceCtorEq, eq_self, t0, t1, t2, t6]
      · simp (implicitDefEqProofs := false) only [↓reduceIte, go_sem, Nat.reduceLT, Nat.reduceEqDiff, reduceCtorEq, eq_self, t1, t8, eq_false hbn]
        refine ⟨⟨Lk, rfl, hst, hlen, k, a, ha, ha2, han, by omega, hso, hso2, ?_⟩, ?_⟩
        · simp (implicitDefEqProofs := false) only [go_sem, eq_self, t7]
        · simp (implicitDefEqProofs := false) only [go_sem, eq_self, t0, t2, t6]
    clear hst hlen hbl Lk t0 t1 t2 t6
    rintro s H' ⟨⟨Lk, rfl, hst, hlen, k, a, ha, ha2, han, hna, hso, hso2, t7⟩, t0, t1, t2, t6⟩
    have hk3 : (2 * k + 1) * z = a + z := by rw [Nat.add_mul, ← ha2, Nat.one_mul]
    have hk1 : (k + 1) * y = a + y := by rw [Nat.add_mul, ← ha, Nat.one_mul]
    obtain ⟨m, hm⟩ : ∃ m, m = a + z := ⟨_, rfl⟩
    have w2 : IntKind.i64.wrap ((a : Int) + (z : Int)) = (m : Int) := by rw [wrap64_in _ (by omega) (by omega)]; omega
    have all : ∀ L1 : List Val, L1.length = n → (∀ j, j < k + 1 → St.Sorted (ltC c) (St.blk y j L1)) → ∀ j, St.Sorted (ltC c) (St.blk y j L1) := fun L1 hl h j => by
      rcases Nat.lt_or_ge j (k + 1) with h1 | h1
      · exact h j h1
      · have := Nat.mul_le_mul_right y h1
        rw [St.blk_out (by omega)]
        exact List.Pairwise.nil
    by_cases hmn : m < n
    · obtain ⟨P, hP⟩ : ∃ P, P = Lk.take a := ⟨_, rfl⟩
      obtain ⟨X, hX⟩ : ∃ X, X = (Lk.drop a).take z := ⟨_, rfl⟩
      obtain ⟨Y, hY⟩ : ∃ Y, Y = (Lk.drop (a + z)).take z := ⟨_, rfl⟩
      have hQ : Lk.drop (a + z + z) = [] := List.drop_of_length_le (by omega)
      have hc4 : Lk = P ++ X ++ Y ++ [] := by rw [hP, hX, hY, ← hQ, St.cut4]
      have hc5 : Lk = P ++ (X ++ Y) ++ [] := by rw [hc4]; simp
      have lP : P.length = a := by rw [hP, List.length_take]; omega
      have lX : X.length = z := by rw [hX, List.length_take, List.length_drop]; omega
      have lY : Y.length = n - m := by rw [hY, List.length_take, List.length_drop]; omega
      have lXY : (X ++ Y).length ≤ y := by rw [List.length_append]; omega
      have sX : St.Sorted (ltC c) X := by have := hso2 (2 * k) (Nat.le_refl _); rw [St.blk, ← ha2, ← hX] at this; exact this
      have sY : St.Sorted (ltC c) Y := by have := hso2 (2 * k + 1) (by omega); rw [St.blk, hk3, ← hY] at this; exact this
      obtain ⟨L1, hL1⟩ : ∃ L1, L1 = P ++ St.sortS (ltC c) (X ++ Y) ++ [] := ⟨_, rfl⟩
      have lL1 : L1.length = n := by rw [hL1, ← hlen, hc5]; simp [St.sortS_len]; try omega
      have hst1 : St.StEq (ltC c) L1 L := by
        refine St.StEq.trans ?_ hst
        rw [hL1]
        have := St.steq_part ho P (X ++ Y) []
        rwa [← hc5] at this
      have hso1 : ∀ j, j < k + 1 → St.Sorted (ltC c) (St.blk y j L1) := by
        rw [hL1]; exact St.blk_more ho (by omega) (by rw [← hc5]; exact hso) (.inr ⟨lXY, rfl⟩)
      clear hP hX hY hQ hst hso hso2
      simp (implicitDefEqProofs := false) only [↓reduceIte, go_sem, Nat.reduceLT, Nat.reduceEqDiff, reduceCtorEq, eq_self, t1, t6, t7, w2, eq_true hmn]
      simp (implicitDefEqProofs := false) only [go_sem, t0, t2]
      refine KCall.ok (symMerge_does H id ver hid g caps c ho hc n (by omega) _ P X Y [] Lk L1 a m n (Nat.le_refl _) hc4 hL1 lP (by omega) (by omega) (by omega) (by omega) sX sY hlen) ?_
      simp (implicitDefEqProofs := false) only [↓reduceIte, go_sem, Nat.reduceLT, Nat.reduceEqDiff, eq_self, t6, w1']
      refine ⟨_, _, y, Weak.refl _ _, ⟨by omega, by omega, ⟨L1, rfl, hst1, lL1, all L1 lL1 hso1⟩, ?_⟩, by omega⟩
      simp (implicitDefEqProofs := false) only [↓reduceIte, go_sem, Nat.reduceLT, Nat.reduceEqDiff, reduceCtorEq, eq_self, t0, t1, t2]
    · have hso1 : ∀ j, j < k + 1 → St.Sorted (ltC c) (St.blk y j Lk) := fun j hj => by
        rcases Nat.lt_or_ge j k with h | h
        · exact hso j h
        · obtain rfl : j = k := by omega
          have h1 := hso2 (2 * j) (Nat.le_refl _)
          unfold St.blk at h1 ⊢
          rw [← ha2, List.take_of_length_le (by rw [List.length_drop]; omega)] at h1
          rw [← ha, List.take_of_length_le (by rw [List.length_drop]; omega)]
          exact h1
      simp (implicitDefEqProofs := false) only [↓reduceIte, go_sem, Nat.reduceLT, Nat.reduceEqDiff, eq_self, t1, t6, t7, w2, eq_false hmn, w1']
      refine ⟨_, _, y, Weak.refl _ _, ⟨by omega, by omega, ⟨Lk, rfl, hst, hlen, all Lk hlen hso1⟩, ?_⟩, by omega⟩
      simp (implicitDefEqProofs := false) only [↓reduceIte, go_sem, Nat.reduceLT, Nat.reduceEqDiff, reduceCtorEq, eq_self, t0, t1, t2]
  · simp (implicitDefEqProofs := false) only [↓reduceIte, go_sem, Nat.reduceLT, Nat.reduceEqDiff, eq_self, t1, t6, eq_false hzn]
    have h0 := hbl 0
    unfold St.blk at h0
    rw [Nat.zero_mul, List.drop_zero, List.take_of_length_le (by omega)] at h0
    rw [← hE1, St.sortS_eq ho h0 hst]
    exact ⟨_, Weak.refl _ _, rfl⟩
set_option maxRecDepth 10000 in
theorem sort_does (H : AHeap) (id ver : Nat) (hid : id < H.length) (g : FuncId) (caps : List AV) (c : Val → Val → Int) (ho : St.Ord (ltC c)) (hc : CmpOk g caps c H id) (n : Nat) (hbig : n ≤ 100000000000) (L : List Val) (hn : L.length = n) :
    Does Tryz.prog 152 [.sl id ver 0 n, .fn g caps] (aH H id ver L) (.ok (.tup [])) (aH H id ver (St.sortS (ltC c) L)) := by
  have gh := aH_get hid ver L
  have hs := stable_does H id ver hid g caps c ho hc n hbig L hn
  generalize aH H id ver L = E0 at *
  refine Does.of_awp (hint := (fun _ => false)) Tryz.func152 (by kernel_rfl) rfl [] (by kernel_rfl) (by decide) (by simp [Tryz.ntmps152]) ?_
  rw [Tryz.ntmps152]
  simp (implicitDefEqProofs := false) only [↓reduceIte, go_sem, Nat.reduceLT, Nat.reduceEqDiff, reduceCtorEq, eq_self, gh]
  refine KCall.ok hs ?_
  simp (implicitDefEqProofs := false) only [go_sem]
  exact ⟨_, Weak.refl _ _, rfl⟩
end SV
end Go.Proofs.YtmbagpfmfiegkaaGreat
namespace Go.Proofs.YtmbagpfmfiegkaaGreat
open Go.Proofs.YtmbagpfmfiegkaaGreatAw Go.RowKit
set_option linter.unusedVariables false
set_option linter.unusedSimpArgs false
namespace SV
def EqOk (g : FuncId) (caps : List AV) (c : Val → Val → Bool) (H : AHeap) (id : Nat) : Prop := ∀ (o : AObj) (x y : Val), Does Tryz.prog g ([.agg (x.enc.map .d), .agg (y.enc.map .d)] ++ caps) (H.set id o) (.ok (bA (c x y))) (H.set id o)
def zrow : List D := [iD 0, iD 0, .v (.string ⟨#[]⟩)]
def compH (H : AHeap) (id ver : Nat) (c : Val → Val → Bool) (L : List Val) : AHeap := H.set id (.arr 25 3 ver ((St.compactP c L).map Val.enc ++ List.replicate (L.length - (St.compactP c L).length) zrow))
theorem compH_same (H : AHeap) (id ver : Nat) (c : Val → Val → Bool) (L : List Val) (h : St.compactP c L = L) : compH H id ver c L = aH H id ver L := by
  unfold compH aH
  rw [h, Nat.sub_self, List.replicate_zero, List.append_nil]
set_option maxRecDepth 10000 in
set_option maxHeartbeats 4000000 in
theorem compact_does (H : AHeap) (id ver : Nat) (hid : id < H.length) (g : FuncId) (caps : List AV) (c : Val → Val → Bool) (hc : EqOk g caps c H id) (n : Nat) (hbig : n ≤ 100000000000) (L : List Val) (hn : L.length = n) :
    Does Tryz.prog 153 [.sl id ver 0 n, .fn g caps] (aH H id ver L) (.ok (.sl id ver 0 (St.compactP c L).length)) (compH H id ver c L) := by
  have gh := aH_get hid ver L
  have hcE : ∀ M : List Val, ∀ x y : Val, Does Tryz.prog g ([.agg (x.enc.map .d), .agg (y.enc.map .d)] ++ caps) (aH H id ver M) (.ok (bA (c x y))) (aH H id ver M) := fun M x y => hc _ x y
  generalize hE1 : compH H id ver c L = E1
  by_cases h2 : n < 2
  · have hsame : St.compactP c L = L := by
      cases L with
      | nil => rfl
      | cons x t =>
        cases t with
        | nil => rfl
        | cons y t => simp at hn; omega
    have he : aH H id ver L = E1 := by rw [← hE1, compH_same _ _ _ _ _ hsame]
    rw [hsame, hn]
    generalize aH H id ver L = E0 at *
    subst he
    refine Does.of_awp (hint := (fun _ => false)) Tryz.func153 (by kernel_rfl) rfl [4] (by kernel_rfl) (by decide) (by simp [Tryz.ntmps153]) ?_
    rw [Tryz.ntmps153]
    simp (implicitDefEqProofs := false) only [↓reduceIte, go_sem, Nat.reduceLT, reduceCtorEq, eq_self, gh, show ((n : Int) < 2) = True from eq_true (by omega)]
    refine AEnd.ret0 ?_
    simp (implicitDefEqProofs := false) only [↓reduceIte, go_sem, Nat.reduceLT, eq_self]
  generalize hE0 : aH H id ver L = E0 at gh
  refine Does.of_awp (hint := (fun _ => false)) Tryz.func153 (by kernel_rfl) rfl [4] (by kernel_rfl) (by decide) (by simp [Tryz.ntmps153]) ?_
  rw [Tryz.ntmps153]
  simp (implicitDefEqProofs := false) only [↓reduceIte, go_sem, Nat.reduceLT, reduceCtorEq, eq_self, gh, show ((n : Int) < 2) = False from eq_false (by omega)]
  refine awp_for3 (fun k s H' => H' = E0 ∧ St.compactP c (L.take (k + 1)) = L.take (k + 1) ∧ s 0 = .sl id ver 0 n ∧ s 1 = .fn g caps ∧ s 5 = iA ((k : Int) + 1)) (n - 1) (by omega) (Weak.refl _ _) ?_ ?_ ?_
  · refine ⟨rfl, ?_, ?_⟩
    · cases L <;> rfl
    · simp (implicitDefEqProofs := false) only [↓reduceIte, go_sem, Nat.reduceLT, Nat.reduceEqDiff, Int.reduceAdd, reduceCtorEq, eq_self]
  · rintro k s H' hk hw ⟨rfl, hp, t0, t1, t5⟩
    obtain ⟨q, hq⟩ : ∃ q, q = k + 1 := ⟨_, rfl⟩
    obtain ⟨x, hx⟩ : ∃ x, L[q]? = some x := ⟨_, List.getElem?_eq_getElem (by omega)⟩
    obtain ⟨y, hy⟩ : ∃ y, L[k]? = some y := ⟨_, List.getElem?_eq_getElem (by omega)⟩
    have e1 : L.take (q + 1) = L.take q ++ [x] := by rw [List.take_add_one, hx]; rfl
    have hsn : St.compactP c (L.take (q + 1)) = St.compactP c (L.take q) ++ (if c x y = true then [] else [x]) := by
      rw [e1]
      exact St.compactP_snoc (k := k) (by rw [List.length_take]; omega) (by rw [List.getElem?_take, if_pos (by omega)]; exact hy)
    rw [← hq] at hp
    have f1 : ((k : Int) + 1) = (q : Int) := by omega
    rw [f1] at t5
    have gx := get_enc hx
    have gy := get_enc hy
    have hd := hcE L x y
    rw [hE0] at hd
    have w1 : IntKind.i64.wrap ((q : Int) - 1) = (k : Int) := by rw [wrap64_in _ (by omega) (by omega)]; omega
    have w2 : IntKind.i64.wrap ((q : Int) + 1) = (q : Int) + 1 := wrap64_in _ (by omega) (by omega)
    have hqn : q < n := by omega
    have hkn : k < n := by omega
    simp only [Val.enc] at gx gy
    simp only [Val.enc, List.map_cons, List.map_nil] at hd
    simp (implicitDefEqProofs := false) only [↓reduceIte, go_sem, Nat.reduceLT, Nat.reduceEqDiff, reduceCtorEq, eq_self, t0, t5, gh, eq_true hqn]
    refine awp_draw K.mixed (by kernel_rfl) ?_
    simp (implicitDefEqProofs := false) only [↓reduceIte, go_sem, oread, Nat.reduceAdd, Nat.reduceLT, Nat.reduceEqDiff, reduceCtorEq, eq_self, t0, t1, t5, gh, gx, gy, hqn, hkn, w1]
    refine KCall.ok hd ?_
    cases hcc : c x y with
    | false =>
      rw [hcc] at hsn
      simp (implicitDefEqProofs := false) only [↓reduceIte, go_sem, Nat.reduceLT, Nat.reduceEqDiff, eq_self, t5, w2]
      refine Rnd.same ⟨rfl, ?_, ?_⟩
      · rw [← hq, hsn, hp, e1]; rfl
      · simp (implicitDefEqProofs := false) only [↓reduceIte, go_sem, Nat.reduceLT, Nat.reduceEqDiff, reduceCtorEq, eq_self, t0, t1, show ((k : Int) + 1) = (q : Int) by omega]
    | true =>
      rw [hcc] at hsn
      have hsn2 : St.compactP c (L.take (q + 1)) = L.take q := by rw [hsn, hp]; simp
      simp (implicitDefEqProofs := false) only [↓reduceIte, go_sem, Nat.reduceLT, Nat.reduceEqDiff, reduceCtorEq, eq_self, t0, t5, gh]
      refine ⟨by omega, .inr (by omega), ?_⟩
      have hnq : ((n : Int).toNat - q) = n - q := by omega
      refine awp_for3 (fun k2 s H' => (∃ C K1, H' = aH H id ver C ∧ C = K1 ++ L.drop K1.length ∧ K1 = St.compactP c (L.take (q + k2 + 1)) ∧ K1.length ≤ q + k2 ∧ s 5 = iA K1.length) ∧ s 0 = .sl id ver 0 n ∧ s 1 = .fn g caps ∧ s 6 = .sl id ver q (n - q) ∧ s 7 = iA ((k2 : Int) + 1)) (n - q - 1) (by omega) (Weak.refl _ _) ?_ ?_ ?_
      · refine ⟨⟨L, L.take q, hE0.symm, ?_, ?_, ?_, ?_⟩, ?_⟩
        · rw [List.length_take, Nat.min_eq_left (by omega), List.take_append_drop]
        · rw [Nat.add_zero]; exact hsn2.symm
        · rw [List.length_take]; omega
        · rw [List.length_take, Nat.min_eq_left (by omega)]; simp (implicitDefEqProofs := false) only [↓reduceIte, go_sem, Nat.reduceEqDiff, eq_self, t5]
        · simp (implicitDefEqProofs := false) only [↓reduceIte, go_sem, Nat.reduceLT, Nat.reduceEqDiff, Int.reduceAdd, reduceCtorEq, eq_self, t0, t1]
      · rintro k2 s H' hk2 hw3 ⟨⟨C, K1, rfl, hC, hK1, hKl, t5⟩, t0, t1, t6, t7⟩
        obtain ⟨u, hu⟩ : ∃ u, u = k2 + 1 := ⟨_, rfl⟩
        obtain ⟨v, hv⟩ : ∃ v, v = q + u := ⟨_, rfl⟩
        obtain ⟨x2, hx2⟩ : ∃ x, L[v]? = some x := ⟨_, List.getElem?_eq_getElem (by omega)⟩
        obtain ⟨y2, hy2⟩ : ∃ y, L[v - 1]? = some y := ⟨_, List.getElem?_eq_getElem (by omega)⟩
        have hCg : ∀ i, K1.length ≤ i → C[i]? = L[i]? := fun i hi => by
          rw [hC, List.getElem?_append_right hi, List.getElem?_drop, Nat.add_sub_cancel' hi]
        have hCl : C.length = n := by rw [hC, List.length_append, List.length_drop]; omega
        have e2 : L.take (v + 1) = L.take v ++ [x2] := by rw [List.take_add_one, hx2]; rfl
        have hsn3 : St.compactP c (L.take (v + 1)) = K1 ++ (if c x2 y2 = true then [] else [x2]) := by
          rw [e2, hK1, show q + k2 + 1 = v by omega]
          exact St.compactP_snoc (k := v - 1) (by rw [List.length_take]; omega) (by rw [List.getElem?_take, if_pos (by omega)]; exact hy2)
        have gx2 := get_enc ((hCg v (by omega)).trans hx2)
        have gy2 := get_enc ((hCg (v - 1) (by omega)).trans hy2)
        have hd2 := hcE C x2 y2
        have gC := aH_get hid ver C
        have f2 : ((k2 : Int) + 1) = (u : Int) := by omega
        rw [f2] at t7
        have w3 : IntKind.i64.wrap ((u : Int) - 1) = (k2 : Int) := by rw [wrap64_in _ (by omega) (by omega)]; omega
        have w4 : IntKind.i64.wrap ((u : Int) + 1) = (u : Int) + 1 := wrap64_in _ (by omega) (by omega)
        have f3 : q + u = v := hv.symm
        have f4 : q + k2 = v - 1 := by omega
        have hun : u < n - q := by omega
        have hkn2 : k2 < n - q := by omega
        simp only [Val.enc] at gx2 gy2
        simp only [Val.enc, List.map_cons, List.map_nil] at hd2
        simp (implicitDefEqProofs := false) only [↓reduceIte, go_sem, Nat.reduceLT, Nat.reduceEqDiff, eq_self, t6, t7, gC, eq_true hun]
        refine awp_draw K.mixed (by kernel_rfl) ?_
        simp (implicitDefEqProofs := false) only [↓reduceIte, go_sem, oread, Nat.reduceAdd, Nat.reduceLT, Nat.reduceEqDiff, eq_self, t1, t6, t7, gC, w3, hun, hkn2, f3, f4, gx2, gy2]
        refine KCall.ok hd2 ?_
        cases hc2 : c x2 y2 with
        | true =>
          rw [hc2] at hsn3
          simp (implicitDefEqProofs := false) only [↓reduceIte, go_sem, Nat.reduceLT, Nat.reduceEqDiff, eq_self, t7, w4]
          refine Rnd.same ⟨⟨C, K1, rfl, hC, ?_, by omega, ?_⟩, ?_⟩
          · rw [show q + (k2 + 1) + 1 = v + 1 by omega, hsn3]; simp
          · simp (implicitDefEqProofs := false) only [↓reduceIte, go_sem, Nat.reduceEqDiff, eq_self, t5]
          · simp (implicitDefEqProofs := false) only [↓reduceIte, go_sem, Nat.reduceLT, Nat.reduceEqDiff, reduceCtorEq, eq_self, t0, t1, t6, show ((k2 : Int) + 1) = (u : Int) by omega]
        | false =>
          rw [hc2] at hsn3
          obtain ⟨r, hr⟩ : ∃ r, r = K1.length := ⟨_, rfl⟩
          rw [← hr] at t5
          have hrn : r < n := by omega
          have w5 : IntKind.i64.wrap ((r : Int) + 1) = ((r + 1 : Nat) : Int) := by rw [wrap64_in _ (by omega) (by omega)]; omega
          obtain ⟨r2, hr2⟩ : ∃ r2, r2 = r + 1 := ⟨_, rfl⟩
          rw [← hr2] at w5
          have s1 := set_enc C r x2
          obtain ⟨z0, hz0⟩ : ∃ z, C[r]? = some z := ⟨_, List.getElem?_eq_getElem (by omega)⟩
          have gz := get_enc hz0
          simp only [Val.enc] at s1 gz
          simp (implicitDefEqProofs := false) only [↓reduceIte, go_sem, oread, owrite, Nat.reduceAdd, Nat.reduceLT, Nat.reduceEqDiff, reduceCtorEq, eq_self, t0, t5, t6, t7, gC, hun, hrn, f3, gx2, gz, s1, aH_set, w4, w5]
          refine Rnd.same ⟨⟨C.set r x2, K1 ++ [x2], by rw [← aH_fold], ?_, ?_, ?_, ?_⟩, ?_⟩
          · have e3 : L.drop r = L[r]'(by omega) :: L.drop (r + 1) := List.drop_eq_getElem_cons (by omega)
            rw [hC, ← hr, e3, set_at hr.symm]; simp [hr]
          · rw [show q + (k2 + 1) + 1 = v + 1 by omega, hsn3]; simp
          · rw [List.length_append, List.length_singleton]; omega
          · simp (implicitDefEqProofs := false) only [↓reduceIte, go_sem, Nat.reduceLT, Nat.reduceEqDiff, eq_self, List.length_append, show ((K1.length : Int) + 1) = (r2 : Int) by omega]
          · simp (implicitDefEqProofs := false) only [↓reduceIte, go_sem, Nat.reduceLT, Nat.reduceEqDiff, reduceCtorEq, eq_self, t0, t1, t6, show ((k2 : Int) + 1) = (u : Int) by omega]
      · rintro s H' ⟨⟨C, K1, rfl, hC, hK1, hKl, t5⟩, t0, t1, t6, t7⟩
        have hK2 : St.compactP c L = K1 := by rw [hK1, List.take_of_length_le (by omega)]
        have hCl : C.length = n := by rw [hC, List.length_append, List.length_drop]; omega
        have gC := aH_get hid ver C
        have hlt : ((((n - q - 1 : Nat) : Int) + 1) < ((n - q : Nat) : Int)) = False := eq_false (by omega)
        obtain ⟨r, hr⟩ : ∃ r, r = K1.length := ⟨_, rfl⟩
        rw [← hr] at t5
        have hrn : ((n : Int).toNat - r) = n - r := by omega
        have hCt : C.take r = K1 := by rw [hC, hr, List.take_left]
        have hsr : setRows (C.map Val.enc) r (zrows (.agg #[.int .i64 0, .int .i64 0, .string ⟨#[]⟩]) (n - r)) = (St.compactP c L).map Val.enc ++ List.replicate (L.length - (St.compactP c L).length) zrow := by
          unfold setRows
          rw [← List.map_take, hCt, List.drop_of_length_le (by simp [zrows]; omega), List.append_nil, hK2, hn, ← hr]
          rfl
        have hfo : H.set id (.arr 25 3 ver ((St.compactP c L).map Val.enc ++ List.replicate (L.length - (St.compactP c L).length) zrow)) = E1 := hE1
        have gE : E1[id]? = some (.arr 25 3 ver ((St.compactP c L).map Val.enc ++ List.replicate (L.length - (St.compactP c L).length) zrow)) := by rw [← hfo]; simp [hid]
        simp (implicitDefEqProofs := false) only [↓reduceIte, go_sem, Nat.reduceAdd, Nat.reduceLT, Nat.reduceEqDiff, reduceCtorEq, eq_self, t0, t5, t6, t7, gC, hlt]
        refine ⟨by omega, .inr (by omega), ?_⟩
        rw [hsr, aH_set, hfo]
        simp (implicitDefEqProofs := false) only [↓reduceIte, go_sem, Nat.reduceLT, Int.reduceLE, Int.reduceToNat, eq_self, gE]
        refine ⟨by omega, .inl trivial, _, Weak.refl _ _, ?_⟩
        simp (implicitDefEqProofs := false) only [↓reduceIte, go_sem, Nat.reduceLT, eq_self, hK2, ← hr, Nat.sub_zero]
  · rintro s H' ⟨rfl, hp, t0, t1, t5⟩
    have hsame : St.compactP c L = L := by rwa [show n - 1 + 1 = n by omega, ← hn, List.take_length] at hp
    have he : H' = E1 := by rw [← hE1, compH_same _ _ _ _ _ hsame, hE0]
    simp (implicitDefEqProofs := false) only [↓reduceIte, go_sem, Nat.reduceLT, Nat.reduceEqDiff, reduceCtorEq, eq_self, t0, t5, gh, show (((n - 1 : Nat) : Int) + 1 < (n : Int)) = False from eq_false (by omega)]
    rw [← he, hsame, hn]
    refine AEnd.ret0 ?_
    simp (implicitDefEqProofs := false) only [↓reduceIte, go_sem, Nat.reduceLT, eq_self]
end SV
end Go.Proofs.YtmbagpfmfiegkaaGreat
namespace Go.Proofs.YtmbagpfmfiegkaaGreat
open Go.Proofs.YtmbagpfmfiegkaaGreatAw Go.RowKit
set_option linter.unusedVariables false
def I64 (n : Int) : Prop := -9223372036854775808 ≤ n ∧ n ≤ 9223372036854775807
theorem I64.of {n : Int} (h : (Lit.int .i64 n).wf = true) : I64 n := by
  have h : IntKind.i64.min ≤ n ∧ n ≤ IntKind.i64.max := by simpa [Lit.wf] using h
  have h0 : IntKind.i64.min = -9223372036854775808 := by decide
  have h1 : IntKind.i64.max = 9223372036854775807 := by decide
  exact ⟨by omega, by omega⟩
theorem FitsL.nil_inv {xs : List D} (h : FitsL [] xs) : xs = [] := by cases h; rfl
theorem FitsL.cons_inv {s : Sh} {ss : List Sh} {xs : List D} (h : FitsL (s :: ss) xs) : ∃ x xs', xs = x :: xs' ∧ Fits s x ∧ FitsL ss xs' := by cases h with | cons h t => exact ⟨_, _, rfl, h, t⟩
theorem Fits.int_inv {k : IntKind} {d : D} (h : Fits (.int k) d) : ∃ n, d = .v (.int k n) ∧ (Lit.int k n).wf = true := by cases h with | int k n h => exact ⟨n, rfl, h⟩
theorem Fits.i64_inv {d : D} (h : Fits (.int .i64) d) : ∃ n, d = .v (.int .i64 n) ∧ I64 n := by obtain ⟨n, rfl, g⟩ := Fits.int_inv h; exact ⟨n, rfl, .of g⟩
theorem Fits.str_inv {d : D} (h : Fits .str d) : ∃ s, d = .v (.string s) ∧ s.size ≤ 140737488351232 := by cases h with | str s h => exact ⟨s, rfl, h⟩
theorem Fits.slice_inv {b : Nat} {es : List Sh} {d : D} (h : Fits (.slice b es) d) : ∃ l, d = .list false l ∧ l.length * b ≤ 140737488351232 ∧ ∀ e ∈ l, FitsL es e := by cases h with | slice b es l h1 h2 h => exact ⟨l, rfl, h1, h⟩
theorem map_inv {α : Type} {enc : α → List D} {p : α → Prop} : ∀ {l : List (List D)}, (∀ e ∈ l, ∃ a, e = enc a ∧ p a) → ∃ la : List α, l = la.map enc ∧ ∀ a ∈ la, p a
  | [], _ => ⟨[], rfl, fun a h => by simp at h⟩
  | e :: l, h => by
    obtain ⟨a, rfl, ha⟩ := h e (List.mem_cons_self ..)
    obtain ⟨la, rfl, hl⟩ := map_inv (l := l) fun e he => h e (by simp [he])
    exact ⟨a :: la, rfl, fun b hb => by rcases List.mem_cons.1 hb with rfl | hb; exact ha; exact hl b hb⟩
structure Val.Ok (v : Val) : Prop where
  kind : I64 v.kind
  i : I64 v.i
  s : v.s.size ≤ 140737488351232
structure Atom.Ok (a : Atom) : Prop where
  col : I64 a.col
  op : I64 a.op
  val : a.val.Ok
def shVal : List Sh := [.int .i64, .int .i64, .str]
theorem val_inv {ds : List D} (h : FitsL shVal ds) : ∃ v : Val, ds = v.enc ∧ v.Ok := by
  obtain ⟨x, xs, rfl, hx, h⟩ := FitsL.cons_inv h
  obtain ⟨y, xs, rfl, hy, h⟩ := FitsL.cons_inv h
  obtain ⟨z, xs, rfl, hz, h⟩ := FitsL.cons_inv h
  cases FitsL.nil_inv h
  obtain ⟨k, rfl, hk⟩ := Fits.i64_inv hx
  obtain ⟨i, rfl, hi⟩ := Fits.i64_inv hy
  obtain ⟨s, rfl, hs⟩ := Fits.str_inv hz
  exact ⟨⟨k, i, s⟩, rfl, hk, hi, hs⟩
theorem vals_inv {b : Nat} {d : D} (h : Fits (.slice b shVal) d) : ∃ l : List Val, d = .list false (l.map Val.enc) ∧ l.length * b ≤ 140737488351232 ∧ ∀ v ∈ l, v.Ok := by
  obtain ⟨l, rfl, h1, h2⟩ := Fits.slice_inv h
  obtain ⟨la, rfl, h3⟩ := map_inv (enc := Val.enc) (p := Val.Ok) fun e he => val_inv (h2 e he)
  exact ⟨la, rfl, by simpa using h1, h3⟩
theorem arg_one {P : Program} {t : TypeId} {x : AV} {sh : Sh} (h : ArgOk P t x) (hg : agB P t = some false) (hs : shOf P 9 t = some [sh]) : ∃ d, x = .d d ∧ Fits sh d := by
  rcases h with ⟨_, sh', d, hs', hf, rfl⟩ | ⟨hg', _⟩
  · rw [hs] at hs'; cases hs'; exact ⟨d, rfl, hf⟩
  · rw [hg] at hg'; cases hg'
end Go.Proofs.YtmbagpfmfiegkaaGreat
namespace Go.Proofs.YtmbagpfmfiegkaaGreat
open Go.Proofs.YtmbagpfmfiegkaaGreatAw Go.RowKit
set_option linter.unusedVariables false
set_option linter.unusedSimpArgs false
def eqV (a b : Val) : Bool := decide (cmpV a b = 0)
set_option maxRecDepth 10000 in
set_option maxHeartbeats 1000000 in
theorem words1_does (a b : Val) (H : AHeap) : Does Tryz.prog 154 [a.av, b.av] H (.ok (bA (eqV a b))) H := by
  refine Does.of_awp (hint := (fun _ => false)) Tryz.func154 (by kernel_rfl) rfl [4] (by kernel_rfl) (by decide) (by simp [Tryz.ntmps154]) ?_
  rw [Tryz.ntmps154]
  simp (implicitDefEqProofs := false) only [↓reduceIte, go_sem, oread, Nat.reduceAdd, Nat.reduceLT, Nat.reduceEqDiff, eq_self]
  refine KCall.ok (vcmp_does a b _) ?_
  simp (implicitDefEqProofs := false) only [↓reduceIte, go_sem, Nat.reduceLT, eq_self]
  refine AEnd.ret ?_
  simp (implicitDefEqProofs := false) only [↓reduceIte, go_sem, Nat.reduceLT, eq_self, eqV]
set_option maxRecDepth 10000 in
set_option maxHeartbeats 1000000 in
theorem words_does (l : List Val) (nn : Bool) (H : AHeap) (hl : l.length ≤ 10000000000) : Does Tryz.prog 119 [.d (.list nn (l.map Val.enc))] H (.ok (.d (.list false ((wordsP cmpV l).map Val.enc)))) H := by
  have ho : St.Ord (SV.ltC cmpV) := cmpV_tri.ord
  obtain ⟨H1, hH1⟩ : ∃ H1, H1 = H ++ [AObj.arr 25 3 1 (l.map Val.enc)] := ⟨_, rfl⟩
  have hid : H.length < H1.length := by rw [hH1]; simp
  have e0 : H1 = SV.aH H1 H.length 1 l := by
    unfold SV.aH
    rw [hH1]; simp
  have hs := SV.sort_does H1 H.length 1 hid 63 [] cmpV ho (fun o x y => vcmp_does x y _) l.length (by omega) l rfl
  rw [← e0] at hs
  have hc := SV.compact_does H1 H.length 1 hid 154 [] eqV (fun o x y => words1_does x y _) l.length (by omega) (St.sortS (SV.ltC cmpV) l) (St.sortS_len _)
  have hk := SV.clone_does l nn H (by omega)
  rw [← hH1] at hk
  have hn : St.compactP eqV (St.sortS (SV.ltC cmpV) l) = wordsP cmpV l := rfl
  have hfin : SV.compH H1 H.length 1 eqV (St.sortS (SV.ltC cmpV) l) = H ++ [AObj.arr 25 3 1 ((wordsP cmpV l).map Val.enc ++ List.replicate (l.length - (wordsP cmpV l).length) SV.zrow)] := by
    unfold SV.compH
    rw [hH1, St.sortS_len, hn]
    simp
  refine Does.of_awp (hint := (fun _ => false)) Tryz.func119 (by kernel_rfl) rfl [2] (by kernel_rfl) (by decide) (by simp [Tryz.ntmps119]) ?_
  rw [Tryz.ntmps119]
  simp (implicitDefEqProofs := false) only [↓reduceIte, go_sem, Nat.reduceLT, reduceCtorEq, eq_self]
  refine KCall.ok hk ?_
  simp (implicitDefEqProofs := false) only [↓reduceIte, go_sem, Nat.reduceLT, eq_self]
  refine KCall.ok hs ?_
  simp (implicitDefEqProofs := false) only [↓reduceIte, go_sem, Nat.reduceLT, Nat.reduceEqDiff, eq_self]
  refine KCall.ok hc ?_
  rw [hfin]
  simp (implicitDefEqProofs := false) only [↓reduceIte, go_sem, Nat.reduceLT, eq_self, hn]
  refine AEnd.ret ?_
  have ht : ((wordsP cmpV l).map Val.enc ++ List.replicate (l.length - (wordsP cmpV l).length) SV.zrow).take (wordsP cmpV l).length = (wordsP cmpV l).map Val.enc := by rw [List.take_left' (by simp)]
  simp (implicitDefEqProofs := false) only [↓reduceIte, go_sem, Nat.reduceLT, eq_self, ht]
end Go.Proofs.YtmbagpfmfiegkaaGreat
namespace Go.Proofs.YtmbagpfmfiegkaaGreat
open Go.Proofs.YtmbagpfmfiegkaaGreatAw Go.RowKit
set_option linter.unusedVariables false
set_option linter.unusedSimpArgs false
theorem Tri.congr_l {α : Type} {c : α → α → Int} (h : Tri c) {x y z : α} (e : c x y = 0) : c x z < 0 ↔ c y z < 0 := by
  have e' := (h.zero x y).1 e
  constructor
  · intro g
    rcases h.ntrans x y z g with g1 | g1
    · omega
    · exact g1
  · intro g
    rcases h.ntrans y x z g with g1 | g1
    · omega
    · exact g1
def Rise (W : List Val) : Prop := W.Pairwise (fun x y => ltT cmpV x y = true)
theorem Rise.get {W : List Val} (h : Rise W) {i j : Nat} {x y : Val} (hx : W[i]? = some x) (hy : W[j]? = some y) : cmpV x y < 0 ↔ i < j := by
  have key : ∀ {i j : Nat} {x y : Val}, W[i]? = some x → W[j]? = some y → i < j → cmpV x y < 0 := by
    intro i j x y hx hy hij
    obtain ⟨h1, rfl⟩ := List.getElem?_eq_some_iff.1 hx
    obtain ⟨h2, rfl⟩ := List.getElem?_eq_some_iff.1 hy
    have := List.pairwise_iff_getElem.1 h i j h1 h2 hij
    simpa [ltT] using this
  constructor
  · intro g
    rcases Nat.lt_trichotomy i j with h1 | h1 | h1
    · exact h1
    · subst h1
      rw [hx] at hy; cases hy
      have := cmpV_tri.self x
      omega
    · have := key hy hx h1
      have := (cmpV_tri.anti x y).1 g
      omega
  · exact key hx hy
theorem Rise.below {v : Val} : ∀ {W : List Val}, Rise W → ∀ {i : Nat} {y : Val}, W[i]? = some y → (cmpV y v < 0 ↔ i < belowP W v)
  | [], _, i, y, hy => by simp at hy
  | x :: t, h, i, y, hy => by
    have h1 := List.pairwise_cons.1 h
    have hb : belowP (x :: t) v = belowP t v + if cmpV x v < 0 then 1 else 0 := by
      unfold belowP
      rw [List.countP_cons]
      by_cases h : cmpV x v < 0 <;> simp [h]
    by_cases hx : cmpV x v < 0
    · rw [hb, if_pos hx]
      cases i with
      | zero =>
        simp at hy; subst hy
        simp [hx]
      | succ i =>
        have := Rise.below (v := v) h1.2 (i := i) (y := y) (by simpa using hy)
        omega
    · rw [hb, if_neg hx, Nat.add_zero]
      have hz : belowP t v = 0 := by
        unfold belowP
        rw [List.countP_eq_zero]
        intro w hw
        have h2 := h1.1 w hw
        intro h3
        have h4 := cmpV_tri.ord.trans h2 (show ltT cmpV w v = true by simpa [ltT] using h3)
        exact hx (by simpa [ltT] using h4)
      rw [hz]
      refine ⟨fun g => ?_, fun g => by omega⟩
      exfalso
      cases i with
      | zero => simp at hy; subst hy; exact hx g
      | succ i =>
        have hyt : y ∈ t := List.mem_of_getElem? (i := i) (by simpa using hy)
        have : 0 < belowP t v := by
          unfold belowP
          rw [List.countP_pos_iff]
          exact ⟨y, hyt, by simpa using g⟩
        omega
theorem words_Rise (l : List Val) : Rise (wordsP cmpV l) := words_rise cmpV_tri l
theorem place_spec {W : List Val} {a : Val} (h : ∃ y ∈ W, cmpV y a = 0) : ∃ (i : Nat) (y : Val), placeP W a = i ∧ W[i]? = some y ∧ cmpV y a = 0 := by
  obtain ⟨y, hy, hc⟩ := h
  have hany : W.any (fun w => decide (cmpV w a = 0)) = true := List.any_eq_true.2 ⟨y, hy, by simpa using hc⟩
  have hlt : W.findIdx (fun w => decide (cmpV w a = 0)) < W.length := List.findIdx_lt_length_of_exists ⟨y, hy, by simpa using hc⟩
  refine ⟨W.findIdx (fun w => decide (cmpV w a = 0)), W[W.findIdx (fun w => decide (cmpV w a = 0))], ?_, List.getElem?_eq_getElem hlt, ?_⟩
  · unfold placeP idxP
    rw [if_pos hany]
  · have := List.findIdx_getElem (w := hlt)
    simpa using this
theorem words_place {l : List Val} {a : Val} (h : a ∈ l) : ∃ (i : Nat) (y : Val), placeP (wordsP cmpV l) a = i ∧ (wordsP cmpV l)[i]? = some y ∧ cmpV y a = 0 := by
  obtain ⟨y, hy, hc⟩ := words_has cmpV_tri h
  exact place_spec ⟨y, hy, (cmpV_tri.zero a y).1 hc⟩
def codeW (l : List Val) (a : Val) : Nat := (placeP (wordsP cmpV l) a).toNat
theorem codesOk_words (l : List Val) : codesOk (wordsP cmpV l) l = true := by
  unfold codesOk
  rw [List.all_eq_true]
  intro a ha
  obtain ⟨i, y, hi, _⟩ := words_place ha
  rw [hi]; simp
theorem codesR_words (l : List Val) : codesR (wordsP cmpV l) l = .tup [.d (.list false (us (l.map (codeW l)))), iA 0] := by
  unfold codesR codesP codesE
  rw [codesOk_words]
  rfl
end Go.Proofs.YtmbagpfmfiegkaaGreat
namespace Go.Proofs.YtmbagpfmfiegkaaGreat
open Go.Proofs.YtmbagpfmfiegkaaGreatAw Go.RowKit
set_option linter.unusedVariables false
set_option linter.unusedSimpArgs false
def widP (n : Nat) : Nat := lenN (n - 1)
theorem widP_le {n : Nat} (h : n ≤ 4096) : widP n ≤ 12 := (lenN_le _ 12).2 (by omega)
theorem widP_one (n : Nat) : widthP [n] = lenN n := by simp [widthP]
set_option maxRecDepth 10000 in
theorem dwidth_does (n : Nat) (hn : n ≤ 1000000000000) (H : AHeap) : Does Tryz.prog 122 [iA n] H (.ok (iA (widP n))) H := by
  have hw := fun H => width_does [n - 1] true H (by simp) (by intro x hx; simp at hx; omega)
  rw [widP_one] at hw
  have m : max (IntKind.i64.wrap ((n : Int) - 1)) 0 = ((n - 1 : Nat) : Int) := by rw [wrap64_in _ (by omega) (by omega)]; omega
  have u := wrapU64N (n - 1) (by omega)
  have hus : us [n - 1] = [[.v (.int .u64 ((n - 1 : Nat) : Int))]] := rfl
  rw [hus] at hw
  unfold widP
  generalize ((n - 1 : Nat) : Int) = q at *
  generalize lenN (n - 1) = r at *
  refine Does.of_awp (hint := (fun _ => false)) Tryz.func122 (by kernel_rfl) rfl [2] (by kernel_rfl) (by decide) (by simp [Tryz.ntmps122]) ?_
  rw [Tryz.ntmps122]
  simp (implicitDefEqProofs := false) only [↓reduceIte, go_sem, Nat.reduceLT, Nat.reduceLeDiff, reduceCtorEq, eq_self, m, u, List.foldl_cons, List.foldl_nil]
  refine KCall.ok (hw _) ?_
  simp (implicitDefEqProofs := false) only [↓reduceIte, go_sem, Nat.reduceLT, eq_self]
  refine AEnd.ret0 ?_
  simp (implicitDefEqProofs := false) only [↓reduceIte, go_sem, Nat.reduceLT, eq_self]
def wbytes (W : List Val) : List Nat := W.flatMap valB
theorem wbytes_snoc (W : List Val) (v : Val) : wbytes (W ++ [v]) = wbytes W ++ valB v := by simp [wbytes]
/-- Dict's bytes. -/
def dictB (l : List Val) : List Nat := putP (wordsP cmpV l).length ++ wbytes (wordsP cmpV l) ++ packP (l.map (codeW l)) (widP (wordsP cmpV l).length)
def dictL (l : List Val) (k : Int) : List Nat := if plainP l k = 0 then dictB l else []
theorem plainP_may {l : List Val} {k : Int} (h : plainP l k = 0) : ∀ v ∈ l, mayV v = true := by
  unfold plainP at h
  intro v hv
  by_cases h1 : l.any (fun v => !mayV v) = true
  · rw [if_pos h1] at h
    repeat' split at h
    all_goals omega
  · have h2 : l.any (fun v => !mayV v) = false := by simpa using h1
    have := List.any_eq_false.1 h2 v hv
    simpa using this
theorem codeW_lt {l : List Val} {a : Val} (h : a ∈ l) : codeW l a < (wordsP cmpV l).length := by
  obtain ⟨i, y, h1, h2, _⟩ := words_place h
  unfold codeW
  rw [h1]
  have := (List.getElem?_eq_some_iff.1 h2).1
  omega
theorem words_len (l : List Val) : (wordsP cmpV l).length ≤ l.length := by
  have h := St.compactP_len (eq := fun a b => decide (cmpV a b = 0)) (St.sortS (ltT cmpV) l)
  rwa [St.sortS_len] at h
theorem code_fits {l : List Val} : ∀ n ∈ l.map (codeW l), n < 2 ^ widP (wordsP cmpV l).length := fun n hn => by
  obtain ⟨a, ha, rfl⟩ := List.mem_map.1 hn
  have h1 := codeW_lt ha
  have h2 := (lenN_le ((wordsP cmpV l).length - 1) (widP (wordsP cmpV l).length)).1 (Nat.le_refl _)
  omega
theorem valB_len {v : Val} (hi : -9223372036854775808 ≤ v.i ∧ v.i ≤ 9223372036854775807) (hm : mayV v = true) : (valB v).length ≤ 1035 := by
  unfold valB
  have hz := zigP_lt hi.1 hi.2
  by_cases h1 : v.kind = 1
  · rw [if_pos h1]; have := putP_len 10 (zigP v.i) (by omega); omega
  rw [if_neg h1]
  by_cases h2 : v.kind = 2
  · rw [if_pos h2, beP_len]; omega
  rw [if_neg h2]
  by_cases h3 : v.kind = 3
  · rw [if_pos h3]
    have hs := may_size hm h3
    have := putP_len 10 v.s.size (by omega)
    rw [textP, List.length_append, sbytes_len]
    omega
  · rw [if_neg h3]; simp
set_option maxRecDepth 10000 in
set_option maxHeartbeats 2000000 in
theorem dictBytes_does (l : List Val) (k : Int) (hok : ∀ v ∈ l, I64 v.i) (H : AHeap) (hl : l.length ≤ 1000000000000) :
    Does Tryz.prog 84 [.d (.list false (l.map Val.enc)), iA k] H (.ok (.tup [.d (.list false (bys (dictL l k))), iA (plainP l k)])) H := by
  by_cases hp : plainP l k = 0
  · have hd : dictL l k = dictB l := by unfold dictL; rw [if_pos hp]
    have hmay := plainP_may hp
    have h4 := plainP_len hp
    have hwl := words_len l
    have hW : ∀ w ∈ wordsP cmpV l, w ∈ l := fun w hw => words_mem cmpV_tri hw
    have hcf := code_fits (l := l)
    have hcd := fun H => codes_does (wordsP cmpV l) l false false H (by omega) (by omega)
    have hwd := fun H => words_does l false H (by omega)
    rw [codesR_words] at hcd
    have hB : dictB l = putP (wordsP cmpV l).length ++ wbytes (wordsP cmpV l) ++ packP (l.map (codeW l)) (widP (wordsP cmpV l).length) := rfl
    have hcl : (l.map (codeW l)).length = l.length := by simp
    rw [hd, hp]
    generalize l.map (codeW l) = C at *
    generalize wordsP cmpV l = W at *
    have hpk := packP
    have hwid := widP_le (n := W.length) (by omega)
    have l1 := putP_len 10 W.length (by omega)
    have hWb : ∀ k, k ≤ W.length → (wbytes (W.take k)).length ≤ k * 1035 := by
      intro k
      induction k with
      | zero => intro _; simp [wbytes]
      | succ k ih =>
        intro hk
        have hk' : k < W.length := by omega
        rw [List.take_succ_eq_append_getElem hk', wbytes_snoc, List.length_append]
        have h1 := ih (by omega)
        have hm := hW _ (List.getElem_mem hk')
        have h2 := valB_len (hok _ hm) (hmay _ hm)
        omega
    refine Does.of_awp (hint := (fun _ => false)) Tryz.func84 (by kernel_rfl) rfl [4, 5] (by kernel_rfl) (by decide) (by simp [Tryz.ntmps84]) ?_
    rw [Tryz.ntmps84]
    simp (implicitDefEqProofs := false) only [↓reduceIte, go_sem, Nat.reduceLT, Nat.reduceEqDiff, reduceCtorEq, eq_self]
    refine KCall.ok (plain_does l k false _ (by omega)) ?_
    rw [hp]
    simp (implicitDefEqProofs := false) only [↓reduceIte, go_sem, Nat.reduceLT, reduceCtorEq, eq_self]
    refine KCall.ok (hwd _) ?_
    simp (implicitDefEqProofs := false) only [↓reduceIte, go_sem, Nat.reduceLT, eq_self, List.length_map, wrapU64N W.length (by omega)]
    refine KCall.ok (putOwn_does W.length (by omega) _) ?_
    simp (implicitDefEqProofs := false) only [↓reduceIte, go_sem, Nat.reduceLT, Nat.reduceEqDiff, eq_self, List.length_map]
    refine awp_for (fun j s H' => ∃ ver, H' = H ++ [.arr 5 1 ver (bys (putP W.length ++ wbytes (W.take j)))] ∧ s 0 = .d (.list false (l.map Val.enc)) ∧ s 7 = .d (.list false (W.map Val.enc)) ∧ s 8 = .sl H.length ver 0 (putP W.length ++ wbytes (W.take j)).length ∧ s 29 = .d (.list false (W.map Val.enc)) ∧ s 30 = iA W.length ∧ s 31 = iA j) W.length (by omega) (Weak.refl _ _) ?_ ?_ ?_
    · refine ⟨(putP W.length).length, ?_, ?_⟩
      · rw [show wbytes (W.take 0) = [] from rfl, List.append_nil]
      · rw [show wbytes (W.take 0) = [] from rfl, List.append_nil]
        simp (implicitDefEqProofs := false) only [↓reduceIte, go_sem, Nat.reduceLT, Nat.reduceEqDiff, reduceCtorEq, eq_self]
    · rintro j s H' hj hw ⟨ver, rfl, t0, t7, t8, t29, t30, t31⟩
      have hx := List.getElem?_eq_getElem hj
      have hm := hW _ (List.getElem_mem hj)
      have hb := hWb j (by omega)
      have hvl := valB_len (hok _ hm) (hmay _ hm)
      have e1 : putP W.length ++ wbytes (W.take (j + 1)) = (putP W.length ++ wbytes (W.take j)) ++ valB W[j] := by rw [List.take_succ_eq_append_getElem hj, wbytes_snoc, List.append_assoc]
      have hvd := fun H => valBytes_does W[j] (hok _ hm) (hmay _ hm) H
      rw [e1]
      have hBl : (putP W.length ++ wbytes (W.take j)).length ≤ 11 + j * 1035 := by rw [List.length_append]; omega
      generalize putP W.length ++ wbytes (W.take j) = B at *
      generalize W[j] = w at *
      simp (implicitDefEqProofs := false) only [↓reduceIte, go_sem, oread, owrite, Nat.reduceAdd, Nat.reduceLT, Nat.reduceEqDiff, eq_self, t29, t30, t31, hj, hx, Val.enc]
      refine KCall.ok (hvd _) ?_
      simp (implicitDefEqProofs := false) only [↓reduceIte, go_sem, Nat.reduceLT, Nat.reduceEqDiff, eq_self, t8, bys_one, bys_len, bys_app]
      refine ⟨by omega, by omega, ?_⟩
      simp (implicitDefEqProofs := false) only [↓reduceIte, go_sem, Nat.reduceLT, eq_self, t31]
      refine Rnd.cut [.arr 5 1 (ver + 1) (bys (B ++ valB w))] [.box 25 3 0 1 [iA w.kind, iA w.i, sA w.s]] 1 rfl rfl (by simp (implicitDefEqProofs := false) only [go_sem, eq_self]) ?_
      refine ⟨ver + 1, rfl, ?_⟩
      simp (implicitDefEqProofs := false) only [↓reduceIte, go_sem, Nat.reduceLT, Nat.reduceEqDiff, reduceCtorEq, eq_self, t0, t7, t29, t30, hw]
    · rintro s H' ⟨ver, rfl, t0, t7, t8, t29, t30, t31⟩
      rw [show W.take W.length = W from List.take_length] at *
      have hb := hWb W.length (Nat.le_refl _)
      rw [List.take_length] at hb
      have l3 : (packP C (widP W.length)).length ≤ 100000 := by
        rw [packP, packB_len, bitsL_len]
        have : C.length * widP W.length ≤ 4096 * 12 := Nat.mul_le_mul (by omega) hwid
        omega
      have l4 : (putP W.length ++ wbytes W).length ≤ 11 + 4096 * 1035 := by rw [List.length_append]; omega
      simp (implicitDefEqProofs := false) only [↓reduceIte, go_sem, Nat.reduceLT, Nat.reduceEqDiff, reduceCtorEq, eq_self, t0, t7, t30, t31]
      refine KCall.ok (hcd _) ?_
      simp (implicitDefEqProofs := false) only [↓reduceIte, go_sem, Nat.reduceLT, Nat.reduceEqDiff, eq_self, t7, List.length_map]
      refine KCall.ok (dwidth_does W.length (by omega) _) ?_
      simp (implicitDefEqProofs := false) only [↓reduceIte, go_sem, Nat.reduceLT, Nat.reduceEqDiff, eq_self]
      refine KCall.ok (pack_does C (widP W.length) (by omega) hcf (by omega) false _) ?_
      rw [hB]
      generalize packP C (widP W.length) = Z at *
      generalize putP W.length ++ wbytes W = B at *
      simp (implicitDefEqProofs := false) only [↓reduceIte, go_sem, Nat.reduceLT, Nat.reduceEqDiff, eq_self, t8, bys_one, bys_len, bys_app]
      refine ⟨by omega, by omega, AEnd.ret ?_⟩
      have ht : (bys (B ++ Z)).take (B.length + Z.length) = bys (B ++ Z) := List.take_of_length_le (by rw [bys_len, List.length_append]; omega)
      simp (implicitDefEqProofs := false) only [↓reduceIte, go_sem, Nat.reduceLT, Nat.reduceEqDiff, eq_self, ht]
  · have hd : dictL l k = [] := by unfold dictL; rw [if_neg hp]
    rw [hd]
    refine Does.subT (cs := [.d (.v (.slice none 0 0)), iA (plainP l k)]) ?_ (.cons .nil (.cons (.refl _) .nil))
    refine Does.of_awp (hint := (fun _ => false)) Tryz.func84 (by kernel_rfl) rfl [4, 5] (by kernel_rfl) (by decide) (by simp [Tryz.ntmps84]) ?_
    rw [Tryz.ntmps84]
    simp (implicitDefEqProofs := false) only [↓reduceIte, go_sem, Nat.reduceLT, Nat.reduceEqDiff, reduceCtorEq, eq_self]
    refine KCall.ok (plain_does l k false _ (by omega)) ?_
    simp (implicitDefEqProofs := false) only [↓reduceIte, go_sem, Nat.reduceLT, Nat.reduceEqDiff, eq_self, hp]
    refine AEnd.ret0 ?_
    simp (implicitDefEqProofs := false) only [↓reduceIte, go_sem, Nat.reduceLT, Nat.reduceEqDiff, eq_self]
end Go.Proofs.YtmbagpfmfiegkaaGreat
namespace Go.Proofs.YtmbagpfmfiegkaaGreat
open Go.Proofs.YtmbagpfmfiegkaaGreatAw Go.RowKit
set_option linter.unusedVariables false
set_option linter.unusedSimpArgs false
set_option maxRecDepth 10000 in
theorem plainNone_does (k : Int) (H : AHeap) : Does Tryz.prog 78 [.d (.v (.slice none 0 0)), iA 0, iA k] H (.ok (.tup [.d (.v (.slice none 0 0)), iA (if kindsP k then 0 else 1)])) H := by
  cases hk : kindsP k with
  | false =>
    refine Does.of_awp (hint := (fun _ => false)) Tryz.func78 (by kernel_rfl) rfl [6, 7] (by kernel_rfl) (by decide) (by simp [Tryz.ntmps78]) ?_
    rw [Tryz.ntmps78]
    simp (implicitDefEqProofs := false) only [↓reduceIte, go_sem, oread, Nat.reduceLT, Nat.reduceEqDiff, eq_self]
    refine KCall.ok (kinds_does k _) ?_
    simp (implicitDefEqProofs := false) only [↓reduceIte, go_sem, Nat.reduceLT, eq_self, hk]
    refine AEnd.ret ?_
    simp (implicitDefEqProofs := false) only [↓reduceIte, go_sem, Nat.reduceLT, Nat.reduceEqDiff, eq_self, Bool.false_eq_true]
  | true =>
    refine Does.of_awp (hint := (fun _ => false)) Tryz.func78 (by kernel_rfl) rfl [6, 7] (by kernel_rfl) (by decide) (by simp [Tryz.ntmps78]) ?_
    rw [Tryz.ntmps78]
    simp (implicitDefEqProofs := false) only [↓reduceIte, go_sem, oread, Nat.reduceLT, Nat.reduceEqDiff, eq_self]
    refine KCall.ok (kinds_does k _) ?_
    simp (implicitDefEqProofs := false) only [↓reduceIte, go_sem, Nat.reduceLT, Nat.reduceEqDiff, Int.reduceLT, reduceCtorEq, eq_self, hk]
    refine awp_for (fun j s H' => H' = H ++ [.box 22 1 0 1 [.d (.v (.slice none 0 0))], .box 3 1 0 1 [iA k]] ∧ s 3 = .ptr H.length 0 0 0 ∧ s 9 = .d (.v (.slice none 0 0)) ∧ s 24 = iA 0 ∧ s 25 = iA j) 0 (by omega) (Weak.refl _ _) ?_ ?_ ?_
    · refine ⟨rfl, ?_⟩
      simp (implicitDefEqProofs := false) only [↓reduceIte, go_sem, Nat.reduceLT, Nat.reduceEqDiff, eq_self]
    · rintro j s H' hj
      omega
    · rintro s H' ⟨rfl, t3, t9, t24, t25⟩
      simp (implicitDefEqProofs := false) only [↓reduceIte, go_sem, oread, Nat.reduceLT, Nat.reduceEqDiff, Int.reduceLT, eq_self, t3, t9, t24, t25]
      refine AEnd.ret ?_
      simp (implicitDefEqProofs := false) only [↓reduceIte, go_sem, Nat.reduceLT, Nat.reduceEqDiff, eq_self]
def toldC (o : List Nat) (c : Nat) : List Nat := if c ∈ o then o else o ++ [c]
def toldL (l : List Nat) : List Nat := l.foldl toldC []
def toldE (l : List Nat) : List (Int × AV) := l.map fun (c : Nat) => ((c : Int), bA true)
theorem mpIdx_in (c : Nat) : ∀ (l : List Nat) (i : Nat), c ∈ l → ∃ j, mpIdx (c : Int) (toldE l) i = some (i + j, bA true) ∧ l[j]? = some c
  | [], _, h => by simp at h
  | m :: l, i, h => by
    simp only [toldE, List.map_cons, mpIdx]
    by_cases e : c = m
    · exact ⟨0, by simp [e], by simp [e]⟩
    · rw [if_neg (by omega)]
      obtain ⟨j, h1, h2⟩ := mpIdx_in c l (i + 1) (by simpa [e] using h)
      exact ⟨j + 1, by rw [show mpIdx (c : Int) (List.map (fun (c : Nat) => ((c : Int), bA true)) l) (i + 1) = _ from h1, Nat.add_assoc, Nat.add_comm 1], by simpa using h2⟩
theorem mpIdx_out (c : Nat) : ∀ (l : List Nat) (i : Nat), c ∉ l → mpIdx (c : Int) (toldE l) i = none
  | [], _, _ => rfl
  | m :: l, i, h => by
    simp only [List.mem_cons, not_or] at h
    simp only [toldE, List.map_cons, mpIdx]
    rw [if_neg (by omega)]
    exact mpIdx_out c l (i + 1) h.2
theorem toldE_len (l : List Nat) : (toldE l).length = l.length := by simp [toldE]
theorem mpPut_told (c : Nat) (l : List Nat) : mpPut (c : Int) (bA true) (toldE l) = toldE (toldC l c) := by
  unfold mpPut toldC
  by_cases h : c ∈ l
  · obtain ⟨j, h1, h2⟩ := mpIdx_in c l 0 h
    rw [if_pos h, h1, Nat.zero_add]
    simp only
    obtain ⟨hj, he⟩ := List.getElem?_eq_some_iff.1 h2
    apply List.ext_getElem
    · simp
    · intro i i1 i2
      rw [List.getElem_set]
      split
      · rename_i e
        subst e
        simp [toldE, he]
      · rfl
  · rw [if_neg h, mpIdx_out c l 0 h]
    simp [toldE]
theorem toldL_take (l : List Nat) (k : Nat) (h : k < l.length) : toldL (l.take (k + 1)) = toldC (toldL (l.take k)) l[k] := by
  unfold toldL
  rw [List.take_succ_eq_append_getElem h, List.foldl_append]; rfl
theorem toldC_mem (o : List Nat) (c x : Nat) : x ∈ toldC o c ↔ x ∈ o ∨ x = c := by
  unfold toldC
  split
  · rename_i h
    constructor
    · exact .inl
    · rintro (h' | rfl)
      · exact h'
      · exact h
  · simp
theorem toldF_mem (x : Nat) : ∀ (l o : List Nat), x ∈ l.foldl toldC o ↔ x ∈ o ∨ x ∈ l
  | [], o => by simp
  | c :: l, o => by
    rw [List.foldl_cons, toldF_mem x l, toldC_mem, List.mem_cons, or_assoc]
theorem toldL_mem (l : List Nat) (x : Nat) : x ∈ toldL l ↔ x ∈ l := by
  unfold toldL
  rw [toldF_mem]; simp
theorem toldF_nodup : ∀ (l o : List Nat), o.Nodup → (l.foldl toldC o).Nodup
  | [], o, h => h
  | c :: l, o, h => by
    rw [List.foldl_cons]
    refine toldF_nodup l _ ?_
    unfold toldC
    split
    · exact h
    · rename_i hc
      rw [List.nodup_append]
      refine ⟨h, by simp, ?_⟩
      intro a ha b hb e
      simp at hb
      subst hb
      exact hc (e ▸ ha)
theorem toldL_nodup (l : List Nat) : (toldL l).Nodup := toldF_nodup l [] List.nodup_nil
theorem toldC_len (o : List Nat) (c : Nat) : (toldC o c).length ≤ o.length + 1 := by unfold toldC; split <;> simp
theorem toldF_len : ∀ (l o : List Nat), (l.foldl toldC o).length ≤ o.length + l.length
  | [], o => by simp
  | c :: l, o => by
    rw [List.foldl_cons, List.length_cons]
    have h1 := toldF_len l (toldC o c)
    have h2 := toldC_len o c
    omega
theorem toldL_len (l : List Nat) : (toldL l).length ≤ l.length := by have := toldF_len l []; simpa [toldL] using this
def usedP (codes : List Nat) (n : Nat) : Bool := (toldL codes).all (fun c => decide (c < n)) && decide ((toldL codes).length = n)
/-- Places that differ and are below a number are no more than it. -/
theorem seen_len : ∀ {m : Nat} {seen : List Nat}, seen.Nodup → (∀ j ∈ seen, j < m) → seen.length ≤ m
  | 0, seen, _, hm => by
    cases seen with
    | nil => simp
    | cons j r => have := hm j (by simp); omega
  | m + 1, seen, h, hm => by
    by_cases hi : m ∈ seen
    · have h1 := seen_len (m := m) (h.erase m) fun j hj => by
        have h2 := (h.mem_erase_iff).1 hj
        have := hm j h2.2
        omega
      rw [List.length_erase_of_mem hi] at h1
      omega
    · have h1 := seen_len (m := m) h fun j hj => by
        have := hm j hj
        have : j ≠ m := fun e => hi (e ▸ hj)
        omega
      omega
set_option maxRecDepth 10000 in
set_option maxHeartbeats 1000000 in
theorem used_does (codes : List Nat) (n : Nat) (H : AHeap) (hn : n ≤ 1000000000000) (hl : codes.length ≤ 1000000000000) (hc : ∀ c ∈ codes, c < 18446744073709551616) :
    Does Tryz.prog 157 [.d (.list false (us codes)), iA n] H (.ok (bA (usedP codes n))) H := by
  have hU : usedP codes n = ((toldL codes).all (fun c => decide (c < n)) && decide ((toldL codes).length = n)) := rfl
  have hml := toldL_len codes
  have hnu := wrapU64N n (by omega)
  refine Does.of_awp (hint := (fun _ => false)) Tryz.func157 (by kernel_rfl) rfl [4] (by kernel_rfl) (by decide) (by simp [Tryz.ntmps157]) ?_
  rw [Tryz.ntmps157]
  simp (implicitDefEqProofs := false) only [↓reduceIte, go_sem, Nat.reduceLT, reduceCtorEq, eq_self]
  refine awp_for (fun k s H' => H' = H ++ [.mp .u64 (toldE (toldL (codes.take k)))] ∧ s 1 = iA n ∧ s 5 = .mp H.length ∧ s 10 = .d (.list false (us codes)) ∧ s 11 = iA codes.length ∧ s 12 = iA k) codes.length (by omega) (Weak.refl _ _) ?_ ?_ ?_
  · refine ⟨rfl, ?_⟩
    simp (implicitDefEqProofs := false) only [↓reduceIte, go_sem, Nat.reduceLT, Nat.reduceEqDiff, eq_self, us_len]
  · rintro k s H' hk hw ⟨rfl, t1, t5, t10, t11, t12⟩
    have hx := us_get codes k hk
    have hp := mpPut_told codes[k] (toldL (codes.take k))
    rw [toldL_take codes k hk]
    generalize codes[k] = c at *
    generalize toldL (codes.take k) = o at *
    simp (implicitDefEqProofs := false) only [↓reduceIte, go_sem, Nat.reduceLT, Nat.reduceEqDiff, eq_self, t5, t10, t11, t12, hk, hx, hp]
    refine Rnd.same ⟨rfl, ?_⟩
    simp (implicitDefEqProofs := false) only [↓reduceIte, go_sem, Nat.reduceLT, Nat.reduceEqDiff, eq_self, t1, t5, t10, t11, hw]
  · rintro s H' ⟨rfl, t1, t5, t10, t11, t12⟩
    rw [List.take_length]
    have hE : ∀ j e, (toldE (toldL codes))[j]? = some e → ∃ c : Nat, (toldL codes)[j]? = some c ∧ e = ((c : Int), bA true) ∧ c < 18446744073709551616 := fun j e he => by
      unfold toldE at he
      rw [List.getElem?_map] at he
      rcases hc' : (toldL codes)[j]? with _ | (c : Nat)
      · rw [hc'] at he; simp at he
      · rw [hc'] at he
        simp at he
        exact ⟨c, hc', he.symm, hc c ((toldL_mem codes c).1 (List.mem_of_getElem? hc'))⟩
    generalize hT : toldL codes = T at *
    have hel := toldE_len T
    simp (implicitDefEqProofs := false) only [↓reduceIte, go_sem, Nat.reduceLT, Nat.reduceEqDiff, eq_self, t5, t11, t12]
    refine awp_loop Tryz.prog _ _ _ (fun seen s H' => H' = H ++ [.mp .u64 (toldE T), .iter H.length T.length seen] ∧ seen.Nodup ∧ (∀ j ∈ seen, j < T.length ∧ ∀ c, T[j]? = some c → c < n) ∧ s 1 = iA n ∧ s 5 = .mp H.length ∧ s 20 = .ptr (H.length + 1) 0 0 0) (fun seen => T.length - seen.length) [] (Weak.refl _ _) ?_ ?_
    · refine ⟨by rw [hel], List.nodup_nil, by simp, ?_⟩
      simp (implicitDefEqProofs := false) only [↓reduceIte, go_sem, Nat.reduceLT, Nat.reduceEqDiff, eq_self, t1, t5]
    · rintro seen s H' ⟨rfl, hnd, hse, t1, t5, t20⟩
      simp (implicitDefEqProofs := false) only [↓reduceIte, go_sem, Nat.reduceLT, Nat.reduceEqDiff, eq_self, t1, t5, t20, hel]
      refine ⟨?_, ?_⟩
      · intro hall
        have hq : usedP codes n = decide (T.length = n) := by
          rw [hU, List.all_eq_true.2 fun c hc => ?_, Bool.true_and]
          obtain ⟨j, hj, rfl⟩ := List.mem_iff_getElem.1 hc
          simpa using (hse j (hall j hj)).2 _ (List.getElem?_eq_getElem hj)
        refine AEnd.ret ?_
        rw [hq, show decide (T.length = n) = decide ((T.length : Int) = (n : Int)) from decide_eq_decide.2 (by omega)]
        simp (implicitDefEqProofs := false) only [↓reduceIte, go_sem, Nat.reduceLT, eq_self]
      · intro j e hj hns
        obtain ⟨c, h1, rfl, h3⟩ := hE j e hj
        have hjl := (List.getElem?_eq_some_iff.1 h1).1
        by_cases hcn : n ≤ c
        · have hq : usedP codes n = false := by
            rw [hU, Bool.and_eq_false_iff]
            exact .inl (List.all_eq_false.2 ⟨c, List.mem_of_getElem? h1, by simpa using hcn⟩)
          simp (implicitDefEqProofs := false) only [↓reduceIte, go_sem, Nat.reduceLT, Nat.reduceEqDiff, eq_self, List.getLast?_concat, hj, hel, t1, hnu, hcn]
          refine AEnd.ret ?_
          rw [hq]
          simp (implicitDefEqProofs := false) only [↓reduceIte, go_sem, Nat.reduceLT, eq_self]
        · simp (implicitDefEqProofs := false) only [↓reduceIte, go_sem, Nat.reduceLT, Nat.reduceEqDiff, eq_self, List.getLast?_concat, hj, hel, t1, hnu, hcn]
          refine ⟨_, _, seen ++ [j], Weak.refl _ _, ⟨rfl, ?_, ?_, ?_⟩, ?_⟩
          · rw [List.nodup_append]
            refine ⟨hnd, by simp, fun a ha b hb e => ?_⟩
            simp at hb
            subst hb
            exact hns (e ▸ ha)
          · intro i hi
            rcases List.mem_append.1 hi with h | h
            · exact hse i h
            · simp at h
              subst h
              refine ⟨hjl, fun d hd => ?_⟩
              rw [h1] at hd
              cases hd
              omega
          · simp (implicitDefEqProofs := false) only [↓reduceIte, go_sem, Nat.reduceEqDiff, eq_self, t1, t5, t20]
          · have hnd2 : (seen ++ [j]).Nodup := by
              rw [List.nodup_append]
              refine ⟨hnd, by simp, fun a ha b hb e => ?_⟩
              simp at hb
              subst hb
              exact hns (e ▸ ha)
            have := seen_len hnd2 (m := T.length) fun i hi => by
              rcases List.mem_append.1 hi with h | h
              · exact (hse i h).1
              · simp at h; subst h; exact hjl
            simp only [List.length_append, List.length_singleton] at this ⊢
            omega
end Go.Proofs.YtmbagpfmfiegkaaGreat
namespace Go.Proofs.YtmbagpfmfiegkaaGreatAw
open Go.RowKit
set_option linter.unusedVariables false
set_option linter.unusedSimpArgs false
def mPan (v : Value) : FrameMode := .panicking [{ v := v, recovered := false }]
def mRec (v : Value) : FrameMode := .panicking [{ v := v, recovered := true }]
/-- What recover answers in a mode, and the mode afterwards. -/
inductive Mode : FrameMode → Value → FrameMode → Prop
  | ret : Mode .returning .nilIface .returning
  | pan (v : Value) : Mode (mPan v) v (mRec v)
/-- The contract of a deferred function: it ends well, and leaves its caller in such a mode. -/
def DoesD (P : Program) (f : FuncId) (args : List AV) (H : AHeap) (u : FrameMode) (H' : AHeap) (u' : FrameMode) : Prop :=
  ∀ φ N w vals, Rel H φ N w → RAs H φ N w args vals → (callFunc f vals).run P w = .ok (.enter f vals) w ∧
    CallsD P f vals u w fun e u1 w' => (∃ v, e = .returned v) ∧ u1 = u' ∧ ∃ φ' N', Rel H' φ' N' w' ∧ Since H φ N w H' φ' N' w'

theorem RAs.since {H H' : AHeap} {φ φ' : Phi} {N N' : Addr → Prop} {w w' : World} {args : List AV} {vals : Array Value} (h : RAs H φ N w args vals) (hR : Rel H φ N w) (hS : Since H φ N w H' φ' N' w') : RAs H' φ' N' w' args vals :=
  ⟨h.1, fun i h1 h2 => (h.2 i h1 h2).since hR hS⟩

theorem DoesD.of_awp {P : Program} {hint : Nat → Bool} {f : FuncId} {fn : Func} {id : Nat} {o0 o1 : Oper} {rest : Code} {d0 d1 : Tmp} (hf : P.funcs[f]? = some fn) (hn : (fn.name == "runtime.NumGoroutine") = false) (hb : fn.body = some (.seq (.region id #[o0, o1] false) rest))
    (h0 : ∃ ats, o0.op = .call { callee := .builtin .recover, args := #[], argTypes := ats }) (g0 : o0.guard = none) (e0 : o0.dst = some d0) (h1 : o1.op = .assign (.tmp d0)) (g1 : o1.guard = none) (e1 : o1.dst = some d1) (hl : d0 < fn.ntmps) (hr : fn.results = #[])
    {args : List AV} {H H' : AHeap} {u u' : FrameMode} {v : Value} (ha : args.length ≤ fn.ntmps) (hm : Mode u v u')
    (h : awp P hint fn.ntmps H rest (fun e s H1 => (match e with | .normal | .ret => True | _ => False) ∧ ∃ s', Weak H s H1 s' H') (aput fn.ntmps (aput fn.ntmps (ainit args) (some d0) (aconst v)) (some d1) (aconst v)) H) (hmk : hint 2000000 = false := by rfl) : DoesD P f args H u H' u' := by
  intro φ N w vals hR hA
  refine ⟨enter_run hf hn (by rw [hb]; rfl) vals w, callsD_of_wpS hf hb fun c0 cs hc0 => wpS_seq (wpS_region ?_)⟩
  have hI : Inv H φ N w fn.ntmps ⟨false, []⟩ (aput fn.ntmps (aput fn.ntmps (ainit args) (some d0) (aconst v)) (some d1) (aconst v)) H φ N (({ tmps := vals ++ Array.replicate (fn.ntmps - vals.size) undef, defers := [] } : Act).put (some d0) v |>.put (some d1) v) w := by
    have h : Inv H φ N w fn.ntmps ⟨false, []⟩ (ainit args) H φ N { tmps := vals ++ Array.replicate (fn.ntmps - vals.size) undef, defers := [] } w :=
      ⟨hR, hA.init _, Since.refl, by simp; have := hA.1; omega, DefS.refl⟩
    exact (h.put hR Since.refl (aconst_ok v) (some d0)).put hR Since.refl (aconst_ok v) (some d1)
  have hrec : ∃ cs', (match recoverD (c0 :: cs) with | some (x, cs') => (x, cs') | none => (Value.nilIface, c0 :: cs)) = (v, cs') ∧ cs' = { c0 with mode := u' } :: cs := by
    subst hc0
    generalize hu : c0.mode = u at hm
    cases hm with
    | ret => exact ⟨c0 :: cs, by simp [recoverD, hu], by rw [← hu]⟩
    | pan v => exact ⟨_, by simp [recoverD, hu, mPan]; rfl, rfl⟩
  obtain ⟨cs', hrec, hcs⟩ := hrec
  have hwp := awp_ok (fun e => by rw [hmk] at e; cases e) hR rest _ hI h
  let R : Ending → FrameMode → World → Prop := fun e u1 w' => (∃ v, e = .returned v) ∧ u1 = u' ∧ ∃ φ' N', Rel H' φ' N' w' ∧ Since H φ N w H' φ' N' w'
  have hS : Code.wpS P rest (bodyPostS P fn c0 cs R) ((({ tmps := vals ++ Array.replicate (fn.ntmps - vals.size) undef, defers := [] } : Act).put (some d0) v).put (some d1) v) cs' w := by
    refine wpS_of_wp (wp_mono hwp ?_)
    rintro e a' w' ⟨ax, s', H1, φ1, N1, rfl, ⟨hq, s'', hW⟩, hI1⟩
    obtain ⟨φ2, N2, hI2⟩ := hW.ok hR hI1
    have fin : a'.defers = [] ∧ ∃ u1, cs' = { c0 with mode := u1 } :: cs ∧ ∃ v, (results fn a'.tmps).run P w' = .ok v w' ∧ R (.returned v) u1 w' :=
      ⟨hI2.defers.eq, u', hcs, _, run_results [] (by rw [hr]; rfl) (by simp) _ _, ⟨_, rfl⟩, rfl, φ2, N2, hI2.rel, hI2.since⟩
    cases ax with
    | normal => exact fin
    | ret => exact fin
    | exit i => exact hq.elim
    | panic v => exact hq.elim
  have tail : wpOpsS P #[o0, o1] (Exit.thenS (Code.wpS P rest (bodyPostS P fn c0 cs R)) (bodyPostS P fn c0 cs R)) [1]
      (({ tmps := vals ++ Array.replicate (fn.ntmps - vals.size) undef, defers := [] } : Act).put (some d0) v) cs' w := by
    have hev : (({ tmps := vals ++ Array.replicate (fn.ntmps - vals.size) undef, defers := [] } : Act).put (some d0) v).eval (.tmp d0) = v := by
      have : d0 < vals.size + (fn.ntmps - vals.size) := Nat.lt_of_lt_of_le hl (by omega)
      simp [Act.eval, Act.put, this]
    have hx : (execOp (({ tmps := vals ++ Array.replicate (fn.ntmps - vals.size) undef, defers := [] } : Act).put (some d0) v).eval o1).run P w = .ok (.value v) w := by
      simp only [execOp, h1, hev]; rfl
    have hw : Region.wanted o1 (yielded #[o0, o1] (({ tmps := vals ++ Array.replicate (fn.ntmps - vals.size) undef, defers := [] } : Act).put (some d0) v).tmps) = true := by simp [Region.wanted, g1]
    simp only [wpOpsS, List.getElem?_toArray, List.getElem?_cons_succ, List.getElem?_cons_zero, hw, if_true, hx, Oper.upon, e1]
    exact hS
  obtain ⟨ats, h0⟩ := h0
  have hx : (execOp (({ tmps := vals ++ Array.replicate (fn.ntmps - vals.size) undef, defers := [] } : Act)).eval o0).run P w = .ok .recover w := by
    simp only [execOp, h0, resolve, invoke]
    rfl
  have hw : Region.wanted o0 (yielded #[o0, o1] (({ tmps := vals ++ Array.replicate (fn.ntmps - vals.size) undef, defers := [] } : Act)).tmps) = true := by simp [Region.wanted, g0]
  show wpOpsS P #[o0, o1] _ [0, 1] _ _ _
  unfold wpOpsS
  simp only [List.getElem?_toArray, List.getElem?_cons_zero, hw, if_true, hx, e0]
  revert hrec
  cases recoverD (c0 :: cs) with
  | none =>
    intro hrec
    have e1 : Value.nilIface = v := congrArg Prod.fst hrec
    have e2 : c0 :: cs = cs' := congrArg Prod.snd hrec
    simp only [e1, e2]
    exact tail
  | some p =>
    intro hrec
    have e1 : p.1 = v := congrArg Prod.fst hrec
    have e2 : p.2 = cs' := congrArg Prod.snd hrec
    simp only [e1, e2]
    exact tail

/-- What is left of a function where its body has ended and its deferred call is still to come. -/
def AEndD (P : Program) (rs : List ResultVar) (H0 : AHeap) (res : ARes) (H' : AHeap) (g : FuncId) (dargs : List AV) : Post := fun e s H =>
  match e with
  | .normal | .ret => ∃ H1, DoesD P g dargs H .returning H1 .returning ∧ AEndC P rs H0 res H' .ret s H1
  | .panic v => ∃ H1, DoesD P g dargs H (mPan v) H1 (mRec v) ∧ AEndC P rs H0 res H' .ret s H1
  | _ => False
theorem finC {P : Program} {fn : Func} {rs : List ResultVar} (hr : fn.results.toList = rs) {H : AHeap} {φ : Phi} {N : Addr → Prop} {w : World} (hR : Rel H φ N w) {res : ARes} {H' : AHeap} {n : Nat} {ds : DS} {s' : Nat → AV} {H1 : AHeap} {φ1 : Phi} {N1 : Addr → Prop} {a' : Act} {w' : World}
    (hI1 : Inv H φ N w n ds s' H1 φ1 N1 a' w') (h : AEndC P rs H res H' .ret s' H1) : ∃ v, (results fn a'.tmps).run P w' = .ok v w' ∧ ∃ φ' N', Rel H' φ' N' w' ∧ Since H φ N w H' φ' N' w' ∧ REnd H' φ' N' w' res (.returned v) := by
  obtain ⟨avs, s'', hav, hW, rfl⟩ := h
  obtain ⟨us, hus, hl, hru⟩ := resAll_ok hI1.rel hI1.tmps hav
  have hI2 : Inv H φ N w us.length ⟨true, []⟩ (fun t => avs.getD t .top) H1 φ1 N1 { tmps := us.toArray, defers := [] } w' := by
    refine ⟨hI1.rel, fun t => ?_, hI1.since, by simp, DefS.refl⟩
    by_cases ht : t < avs.length
    · have e1 : avs.getD t .top = avs[t] := by simp [List.getD, ht]
      have e2 : (us.toArray : Array Value).getD t undef = us[t]'(by omega) := by
        rw [Array.getD_eq_getD_getElem?]; simp [show t < us.length by omega]
      simp only [e1, e2]
      exact hru t ht (by omega)
    · have e1 : avs.getD t .top = .top := by simp [List.getD, List.getElem?_eq_none (Nat.le_of_not_lt ht)]
      simp only [e1]
      exact .top _
  obtain ⟨φ2, N2, hI3⟩ := hW.ok hR hI2
  refine ⟨_, results_run (by rw [hr]; exact hus), φ2, N2, hI3.rel, hI3.since, ?_⟩
  have at_ : ∀ t, RA H' φ2 N2 w' (s'' t) ((us.toArray : Array Value).getD t undef) := hI3.tmps
  show RA H' φ2 N2 w' (ares (List.range avs.length) s'') _
  match us, hl with
  | [], hl =>
    have : avs = [] := List.eq_nil_of_length_eq_zero hl
    subst this
    exact .tup _ _ rfl fun i h1 => by simp at h1
  | [u], hl =>
    have : avs.length = 1 := hl
    rw [this]
    exact at_ 0
  | u :: v :: l, hl =>
    have e : ares (List.range avs.length) s'' = .tup ((List.range avs.length).map s'') := ares_many _ (by simp [hl]) s''
    rw [e]
    refine .tup _ _ (by simp [hl]) fun i h1 h2 => ?_
    have := at_ i
    rw [Array.getD_eq_getD_getElem?] at this
    simp only [List.size_toArray] at h2
    rw [List.getElem?_toArray, List.getElem?_eq_getElem h2] at this
    simpa using this
/-- The contract of a function that defers one call, out of its body. -/
theorem Does.of_awpD {P : Program} {hint : Nat → Bool} {f : FuncId} {fn : Func} {pre rest : Code} {id : Nat} {o : Oper} {c : Call} {f0 : Operand} (hf : P.funcs[f]? = some fn) (hn : (fn.name == "runtime.NumGoroutine") = false) (hb : fn.body = some (.seq pre (.seq (.region id #[o] false) rest)))
    (rs : List ResultVar) (hr : fn.results.toList = rs) (ho : o.op = .defer c) (hc : c.callee = .value f0) (hg : o.guard = none) (hd : o.dst = none)
    {args : List AV} {H : AHeap} {res : ARes} {H' : AHeap} (ha : args.length ≤ fn.ntmps)
    (h : awp P hint fn.ntmps H pre (fun e s H1 => match e with
      | .normal => ob (asF (aeval s f0)) fun g => awp P hint fn.ntmps H1 rest (AEndD P rs H res H' g.1 (c.args.toList.map (aeval s) ++ g.2)) s H1
      | _ => False) (ainit args) H) (hmk : hint 2000000 = false := by rfl) : Does P f args H res H' := by
  intro φ N w vals hR hA
  refine .inl ⟨enter_run hf hn (by rw [hb]; rfl) vals w, calls_of_wp_defers hf hb ?_⟩
  have hI : Inv H φ N w fn.ntmps ⟨false, []⟩ (ainit args) H φ N { tmps := vals ++ Array.replicate (fn.ntmps - vals.size) undef, defers := [] } w :=
    ⟨hR, hA.init _, Since.refl, by simp; have := hA.1; omega, DefS.refl⟩
  refine wp_seq (wp_mono (awp_ok (fun e => by rw [hmk] at e; cases e) hR pre _ hI h) ?_)
  rintro e a1 w1 ⟨ax, s1, H1, φ1, N1, rfl, hq, hI1⟩
  cases ax with
  | normal =>
    cases hfv : asF (aeval s1 f0) with
    | none => simp only [hfv] at hq; exact hq.elim
    | some gc =>
    obtain ⟨g, caps⟩ := gc
    simp only [hfv] at hq
    have hf0 : aeval s1 f0 = .fn g caps := by
      revert hfv
      cases aeval s1 f0 <;> intro h <;> cases h
      rfl
    have hfv' := aeval_ok hI1.tmps f0
    rw [hf0] at hfv'
    generalize hfe : a1.eval f0 = fv at hfv'
    cases hfv' with
    | fn _ _ vs hl hh =>
    have hargs : RAs H1 φ1 N1 w1 (c.args.toList.map (aeval s1) ++ caps) (c.args.map a1.eval ++ vs) := by
      refine ⟨by simp [hl], fun i h1 h2 => ?_⟩
      by_cases hi : i < c.args.size
      · rw [List.getElem_append_left (by simpa using hi), Array.getElem_append_left (by simpa using hi)]
        simp only [List.getElem_map, Array.getElem_map, Array.getElem_toList]
        exact aeval_ok hI1.tmps _
      · rw [List.getElem_append_right (by simpa using hi), Array.getElem_append_right (by simpa using hi)]
        simp only [List.length_map, Array.length_toList, Array.size_map]
        exact hh _ (by simp at h1; omega) (by simp at h2; omega)
    let d : Deferred := { target := .fn (.func g) vs, args := c.args.map a1.eval }
    have hrun : (execOp a1.eval o).run P w1 = .ok (.defer d) w1 := by
      simp [execOp, ho, resolve, hc, hfe, Deferred.ofValue, d]
    have hI1' : Inv H1 φ1 N1 w1 fn.ntmps ⟨false, [d]⟩ s1 H1 φ1 N1 { a1 with defers := [d] } w1 := ⟨hI1.rel, hI1.tmps, Since.refl, hI1.size, DefS.refl⟩
    refine wp_seq (wp_region ?_)
    have hwpR := awp_ok (fun e => by rw [hmk] at e; cases e) hI1.rel rest _ hI1' hq
    have hw : Region.wanted o (yielded #[o] a1.tmps) = true := by simp [Region.wanted, hg]
    show wpOps P #[o] _ [0] a1 w1
    simp only [wpOps, List.getElem?_toArray, List.getElem?_cons_zero, hw, if_true]
    refine .inl ?_
    unfold Oper.wp
    rw [hrun, Oper.upon_defer, hd, hI1.defers.eq]
    show (Code.wp P rest _ { a1 with defers := [d] } w1)
    refine wp_mono hwpR ?_
    rintro e a2 w2 ⟨ax, s2, H2, φ2, N2, rfl, hq2, hI2⟩
    have hargs2 := hargs.since hI1.rel hI2.since
    have run : ∀ u u' H3, u ≠ .run → settle u' = .returning → DoesD P g (c.args.toList.map (aeval s1) ++ caps) H2 u H3 u' → AEndC P rs H res H' .ret s2 H3 →
        Leaves P fn a2.tmps (fun e w' => ∃ φ' N', Rel H' φ' N' w' ∧ Since H φ N w H' φ' N' w' ∧ REnd H' φ' N' w' res e) a2.defers u w2 := by
      intro u u' H3 hu hs hD hE
      obtain ⟨hcall, hC⟩ := hD φ2 N2 w2 _ hI2.rel hargs2
      rw [hI2.defers.eq]
      refine leaves_cons hu (by simpa [invoke] using hcall) (CallsD.mono hC ?_)
      rintro e u1 w3 ⟨⟨v, rfl⟩, rfl, φ3, N3, hR3, hS3⟩
      simp only [hs]
      exact finC hr hR (ds := ⟨false, [d]⟩) (a' := a2) (n := fn.ntmps) ⟨hR3, fun t => (hI2.tmps t).since hI2.rel hS3, hI1.since.trans (hI2.since.trans hS3), hI2.size, by rw [hI2.defers.eq]; exact DefS.refl⟩ hE
    cases ax with
    | normal =>
      obtain ⟨H3, hD, hE⟩ := hq2
      exact run .returning .returning H3 (by simp) rfl hD hE
    | ret =>
      obtain ⟨H3, hD, hE⟩ := hq2
      exact run .returning .returning H3 (by simp) rfl hD hE
    | exit i => exact hq2.elim
    | panic v =>
      obtain ⟨H3, hD, hE⟩ := hq2
      exact run (mPan v) (mRec v) H3 (by simp [mPan]) rfl hD hE
  | exit i => exact hq.elim
  | ret => exact hq.elim
  | panic v => exact hq.elim
end Go.Proofs.YtmbagpfmfiegkaaGreatAw
namespace Go.Proofs.YtmbagpfmfiegkaaGreat
open Go.Proofs.YtmbagpfmfiegkaaGreatAw Go.RowKit
set_option linter.unusedVariables false
set_option linter.unusedSimpArgs false
abbrev eV (e : Int) : Value := .iface 31 (.int .i64 e)
/-- The box of a row of bytes. -/
def rowB (b : List Nat) : AObj := .box 78 1 0 1 [.d (.list false (bys b))]
theorem next_short (H : AHeap) (id : Nat) (ho : H[id]? = some (rowB [])) : Does Tryz.prog 69 [.ptr id 0 0 0] H (.panic (eV 3)) H := by
  refine Does.of_awp (hint := (fun _ => false)) Tryz.func69 (by kernel_rfl) rfl [2] (by kernel_rfl) (by decide) (by simp [Tryz.ntmps69]) ?_
  rw [Tryz.ntmps69]
  simp (implicitDefEqProofs := false) only [↓reduceIte, go_sem, oread, Nat.reduceLT, reduceCtorEq, eq_self, ho, rowB, bys_nil]
  exact ⟨_, .refl _ _, rfl⟩
set_option maxRecDepth 10000 in
theorem next_does (H : AHeap) (id : Nat) (c : Nat) (b : List Nat) (hl : b.length < 1000000000000000) (ho : H[id]? = some (rowB (c :: b))) : Does Tryz.prog 69 [.ptr id 0 0 0] H (.ok (.d (.v (.int .u8 c)))) (H.set id (rowB b)) := by
  refine Does.of_awp (hint := (fun _ => false)) Tryz.func69 (by kernel_rfl) rfl [2] (by kernel_rfl) (by decide) (by simp [Tryz.ntmps69]) ?_
  rw [Tryz.ntmps69]
  have hne : ((b.length : Int) + 1 = 0) = False := eq_false (by omega)
  have hid : id < H.length := (List.getElem?_eq_some_iff.1 ho).1
  have hget : (bys (c :: b))[0]? = some [.v (.int .u8 c)] := rfl
  simp (implicitDefEqProofs := false) only [↓reduceIte, go_sem, oread, Nat.reduceLT, Int.reduceLE, reduceCtorEq, eq_self, ho, rowB, bys_len, hne, hget, Int.toNat_zero, Nat.zero_mul]
  refine awp_drawK 14 K.mixed (by kernel_rfl) (by kernel_rfl) ?_
  simp (implicitDefEqProofs := false) only [↓reduceIte, go_sem, oread, owrite, Nat.reduceLT, Nat.reduceEqDiff, Int.reduceLE, Int.reduceToNat, reduceCtorEq, eq_self, ho, rowB, bys_len, bys_one]
  have hd : List.drop 1 (List.take (b.length + 1 : Int).toNat (bys (c :: b))) = bys b := by
    rw [List.take_of_length_le (by rw [bys_len, List.length_cons]; omega)]; rfl
  rw [hd]
  refine ⟨by omega, by omega, by omega, _, Weak.refl _ _, ?_⟩
  simp (implicitDefEqProofs := false) only [↓reduceIte, go_sem, Nat.reduceLT, eq_self]
/-- What number reads, from place 10 - k on. -/
def numP : Nat → Nat → List Nat → Except Int Nat × List Nat
  | 0, _, b => (.error 4, b)
  | _ + 1, _, [] => (.error 3, [])
  | k + 1, acc, c :: b =>
    if (k = 0 ∧ 1 < c) ∨ (k < 9 ∧ c = 0) then (.error 4, b)
    else if c < 128 then (.ok (acc + c % 128 * 128 ^ (9 - k)), b)
    else numP k (acc + c % 128 * 128 ^ (9 - k)) b
theorem andNot128 : ∀ m : Nat, m < 256 → IntKind.u64.wrap (IntKind.u8.wrap (andNotI .u8 (m : Int) 128)) = ((m % 128 : Nat) : Int) := by decide +kernel
theorem shlN (m j : Nat) (hj : j ≤ 63) (hm : m * 2 ^ j < 18446744073709551616) : IntKind.u64.wrap (shlI .u64 (m : Int) (j : Int)) = ((m * 2 ^ j : Nat) : Int) := by
  have h1 : min j 64 = j := by omega
  have h3 : shlI .u64 (m : Int) (j : Int) = ((m * 2 ^ j : Nat) : Int) := by
    simp only [shlI, IntKind.bits, Int.toNat_natCast, h1]
    push_cast
    rfl
  rw [h3]
  exact wrapU64N _ hm
theorem orN (a m j : Nat) (ha : a < 2 ^ j) (hm : a + m * 2 ^ j < 18446744073709551616) : IntKind.u64.wrap (orI .u64 (a : Int) ((m * 2 ^ j : Nat) : Int)) = ((a + m * 2 ^ j : Nat) : Int) := by
  rw [orI_nat .u64 a (m * 2 ^ j) (by simp only [IntKind.bits]; omega) (by simp only [IntKind.bits]; omega)]
  have h4 : a ||| m * 2 ^ j = a + m * 2 ^ j := by
    rw [Nat.or_comm, Nat.mul_comm, ← Nat.two_pow_add_eq_or_of_lt ha]
    omega
  rw [h4]
  exact wrapU64N _ hm
theorem pow128 (i : Nat) : 128 ^ i = 2 ^ (7 * i) := by rw [Nat.pow_mul]
set_option maxRecDepth 10000 in
set_option maxHeartbeats 1000000 in
theorem number_does (H : AHeap) (id : Nat) (b : List Nat) (hl : b.length < 1000000000000000) (hb : ∀ c ∈ b, c < 256) (ho : H[id]? = some (rowB b)) :
    Does Tryz.prog 37 [.ptr id 0 0 0] H (match (numP 10 0 b).1 with | .ok n => .ok (uA n) | .error e => .panic (eV e)) (H.set id (rowB (numP 10 0 b).2)) := by
  have hid : id < H.length := (List.getElem?_eq_some_iff.1 ho).1
  have hself : H = H.set id (rowB b) := by
    apply List.ext_getElem?
    intro j
    by_cases hj : j = id
    · subst hj; rw [ho, List.getElem?_set_self hid]
    · rw [List.getElem?_set_ne (Ne.symm hj)]
  refine Does.of_awp (hint := (fun _ => false)) Tryz.func37 (by kernel_rfl) rfl [2] (by kernel_rfl) (by decide) (by simp [Tryz.ntmps37]) ?_
  rw [Tryz.ntmps37]
  simp (implicitDefEqProofs := false) only [go_sem]
  refine awp_loop _ _ _ _ (fun (x : Nat × Nat × List Nat) s H' => x.1 ≤ 10 ∧ x.2.1 < 128 ^ (10 - x.1) ∧ x.2.2.length < 1000000000000000 ∧ (∀ c ∈ x.2.2, c < 256) ∧ H' = H.set id (rowB x.2.2) ∧ numP 10 0 b = numP x.1 x.2.1 x.2.2 ∧ s 0 = .ptr id 0 0 0 ∧ s 3 = uA x.2.1 ∧ s 4 = iA ((10 - x.1 : Nat) : Int)) (fun x => x.1) (10, 0, b) (Weak.refl _ _) ?_ ?_
  · refine ⟨Nat.le_refl _, Nat.zero_lt_one, hl, hb, hself, rfl, ?_⟩
    simp (implicitDefEqProofs := false) only [↓reduceIte, go_sem, Nat.reduceSub, Nat.reduceLT, Nat.reduceEqDiff, reduceCtorEq, eq_self]
  · rintro ⟨k, acc, r⟩ s H' ⟨h1, h2, h3, h4, rfl, h5, t0, t3, t4⟩
    simp only at h1 h2 h3 h4 h5 t0 t3 t4
    rw [h5]
    have hget : (H.set id (rowB r))[id]? = some (rowB r) := List.getElem?_set_self hid
    cases k with
    | zero =>
      simp (implicitDefEqProofs := false) only [↓reduceIte, go_sem, Nat.reduceSub, Nat.reduceLT, eq_self, t4]
      exact ⟨_, .refl _ _, rfl⟩
    | succ k =>
      obtain ⟨i, hi⟩ : ∃ i, i = 9 - k := ⟨_, rfl⟩
      have hi2 : 10 - (k + 1) = i := by omega
      rw [hi2] at t4 h2
      have hne : ((i : Int) = 10) = False := eq_false (by omega)
      simp (implicitDefEqProofs := false) only [↓reduceIte, go_sem, Nat.reduceLT, reduceCtorEq, eq_self, t0, t4, hne]
      cases r with
      | nil =>
        refine KCall.panic (next_short _ id hget) ?_
        simp (implicitDefEqProofs := false) only [go_sem]
        exact ⟨_, .refl _ _, rfl⟩
      | cons c r =>
        refine KCall.ok (next_does _ id c r (by simp at h3; omega) hget) ?_
        have hc : c < 256 := h4 c (by simp)
        by_cases hbad : (k = 0 ∧ 1 < c) ∨ (k < 9 ∧ c = 0)
        · rw [show numP (k + 1) acc (c :: r) = (.error 4, r) by simp [numP, hbad]]
          have fin : ∀ s, AEnd [2] H (ARes.panic (eV 4)) (List.set H id (rowB r)) (AX.panic (Value.iface 31 (Value.int IntKind.i64 4))) s (List.set H id (rowB r)) := fun s => ⟨_, .refl _ _, rfl⟩
          by_cases h9 : k = 0
          · have e1 : ((i : Int) = 9) = True := eq_true (by omega)
            by_cases hc1 : 1 < c
            · have e2 : (1 < (c : Int)) = True := eq_true (by omega)
              simp (implicitDefEqProofs := false) only [↓reduceIte, go_sem, Nat.reduceLT, Nat.reduceEqDiff, eq_self, List.set_set, t4, e1, e2]
              exact fin _
            · have e2 : (1 < (c : Int)) = False := eq_false (by omega)
              have e3 : (0 < (i : Int)) = True := eq_true (by omega)
              have e4 : ((c : Int) = 0) = True := eq_true (by omega)
              simp (implicitDefEqProofs := false) only [↓reduceIte, go_sem, Nat.reduceLT, Nat.reduceEqDiff, reduceCtorEq, eq_self, List.set_set, t4, e1, e2, e3, e4]
              exact fin _
          · have e1 : ((i : Int) = 9) = False := eq_false (by omega)
            have e3 : (0 < (i : Int)) = True := eq_true (by omega)
            have e4 : ((c : Int) = 0) = True := eq_true (by omega)
            simp (implicitDefEqProofs := false) only [↓reduceIte, go_sem, Nat.reduceLT, Nat.reduceEqDiff, reduceCtorEq, eq_self, List.set_set, t4, e1, e3, e4]
            exact fin _
        · have hstep : numP (k + 1) acc (c :: r) = if c < 128 then (.ok (acc + c % 128 * 128 ^ i), r) else numP k (acc + c % 128 * 128 ^ i) r := by
            rw [hi]; simp only [numP, if_neg hbad]
          rw [hstep]
          have hpart := andNot128 c hc
          obtain ⟨j, hj⟩ : ∃ j, j = 7 * i := ⟨_, rfl⟩
          have hp2 := pow128 i
          rw [← hj] at hp2
          have hm : c % 128 * 2 ^ j + 2 ^ j ≤ 18446744073709551616 := by
            by_cases h9 : k = 0
            · have : j = 63 := by omega
              subst this
              have : c ≤ 1 := by omega
              have : c % 128 ≤ 1 := by omega
              omega
            · have h56 : 2 ^ j ≤ 2 ^ 56 := Nat.pow_le_pow_right (by decide) (by omega)
              have : c % 128 < 128 := Nat.mod_lt _ (by decide)
              have : c % 128 * 2 ^ j ≤ 127 * 2 ^ j := Nat.mul_le_mul_right _ (by omega)
              omega
          rw [hp2] at h2
          rw [hp2]
          have e5 : IntKind.i64.wrap (7 * (i : Int)) = (j : Int) := by rw [wrap64_in _ (by omega) (by omega)]; omega
          have e6 : IntKind.u64.wrap (j : Int) = (j : Int) := wrapU64N _ (by omega)
          have e7 := shlN (c % 128) j (by omega) (by omega)
          have e8 := orN acc (c % 128) j h2 (by omega)
          have hA : acc + c % 128 * 2 ^ j < 2 ^ j * 128 := by
            have : c % 128 < 128 := Nat.mod_lt _ (by decide)
            have : c % 128 * 2 ^ j ≤ 127 * 2 ^ j := Nat.mul_le_mul_right _ (by omega)
            omega
          generalize c % 128 = m at *
          generalize m * 2 ^ j = P at *
          generalize acc + P = A at *
          have hw2 : IntKind.i64.wrap ((i : Int) + 1) = ((10 - k : Nat) : Int) := by rw [wrap64_in _ (by omega) (by omega)]; omega
          have fin : ∀ s, s 2 = uA A → AEnd [2] H (ARes.ok (uA A)) (List.set H id (rowB r)) AX.ret s (List.set H id (rowB r)) := fun s hs => ⟨_, .refl _ _, by simp only [ares, hs]⟩
          have nxt : ∀ s, s 0 = .ptr id 0 0 0 → s 3 = uA A → s 4 = iA ((10 - k : Nat) : Int) → ∃ s'' H'' , ∃ y : Nat × Nat × List Nat, Weak H s (List.set H id (rowB r)) s'' H'' ∧ (y.1 ≤ 10 ∧ y.2.1 < 128 ^ (10 - y.1) ∧ y.2.2.length < 1000000000000000 ∧ (∀ c ∈ y.2.2, c < 256) ∧ H'' = H.set id (rowB y.2.2) ∧ numP k A r = numP y.1 y.2.1 y.2.2 ∧ s'' 0 = .ptr id 0 0 0 ∧ s'' 3 = uA y.2.1 ∧ s'' 4 = iA ((10 - y.1 : Nat) : Int)) ∧ y.1 < k + 1 := by
            intro s g0 g3 g4
            refine ⟨s, _, (k, A, r), .refl _ _, ⟨by simp only; omega, ?_, by simp at h3; simp only; omega, fun c hc => h4 c (by simp [hc]), rfl, rfl, g0, g3, g4⟩, Nat.lt_succ_self _⟩
            show A < 128 ^ (10 - k)
            rw [show 10 - k = i + 1 by omega, Nat.pow_succ, pow128, ← hj]
            exact hA
          by_cases hlt : c < 128
          · rw [if_pos hlt]
            have hlt' : ((c : Int) < 128) = True := eq_true (by omega)
            by_cases h9 : k = 0
            · have e1 : ((i : Int) = 9) = True := eq_true (by omega)
              have e2 : (1 < (c : Int)) = False := eq_false (by omega)
              have e3 : (0 < (i : Int)) = True := eq_true (by omega)
              have e4 : ((c : Int) = 0) = False := eq_false (by omega)
              simp (implicitDefEqProofs := false) only [↓reduceIte, go_sem, Nat.reduceLT, Nat.reduceEqDiff, reduceCtorEq, eq_self, List.set_set, t3, t4, e1, e2, e3, e4, hpart, e5, e6, e7, e8, hlt']
              exact fin _ (by simp (implicitDefEqProofs := false) only [↓reduceIte, go_sem, Nat.reduceLT, eq_self])
            · have e1 : ((i : Int) = 9) = False := eq_false (by omega)
              by_cases h0 : i = 0
              · have e3 : (0 < (i : Int)) = False := eq_false (by omega)
                simp (implicitDefEqProofs := false) only [↓reduceIte, go_sem, Nat.reduceLT, Nat.reduceEqDiff, reduceCtorEq, eq_self, List.set_set, t3, t4, e1, e3, hpart, e5, e6, e7, e8, hlt']
                exact fin _ (by simp (implicitDefEqProofs := false) only [↓reduceIte, go_sem, Nat.reduceLT, eq_self])
              · have e3 : (0 < (i : Int)) = True := eq_true (by omega)
                have e4 : ((c : Int) = 0) = False := eq_false (by omega)
                simp (implicitDefEqProofs := false) only [↓reduceIte, go_sem, Nat.reduceLT, Nat.reduceEqDiff, reduceCtorEq, eq_self, List.set_set, t3, t4, e1, e3, e4, hpart, e5, e6, e7, e8, hlt']
                exact fin _ (by simp (implicitDefEqProofs := false) only [↓reduceIte, go_sem, Nat.reduceLT, eq_self])
          · rw [if_neg hlt]
            have hlt' : ((c : Int) < 128) = False := eq_false (by omega)
            by_cases h9 : k = 0
            · have e1 : ((i : Int) = 9) = True := eq_true (by omega)
              have e2 : (1 < (c : Int)) = False := eq_false (by omega)
              have e3 : (0 < (i : Int)) = True := eq_true (by omega)
              have e4 : ((c : Int) = 0) = False := eq_false (by omega)
              simp (implicitDefEqProofs := false) only [↓reduceIte, go_sem, Nat.reduceLT, Nat.reduceEqDiff, reduceCtorEq, eq_self, List.set_set, t3, t4, e1, e2, e3, e4, hpart, e5, e6, e7, e8, hlt', hw2]
              exact nxt _ (by simp (implicitDefEqProofs := false) only [↓reduceIte, go_sem, reduceCtorEq, eq_self, t0]) (by simp (implicitDefEqProofs := false) only [↓reduceIte, go_sem, Nat.reduceLT, Nat.reduceEqDiff, eq_self]) (by simp (implicitDefEqProofs := false) only [↓reduceIte, go_sem, Nat.reduceLT, eq_self])
            · have e1 : ((i : Int) = 9) = False := eq_false (by omega)
              by_cases h0 : i = 0
              · have e3 : (0 < (i : Int)) = False := eq_false (by omega)
                simp (implicitDefEqProofs := false) only [↓reduceIte, go_sem, Nat.reduceLT, Nat.reduceEqDiff, reduceCtorEq, eq_self, List.set_set, t3, t4, e1, e3, hpart, e5, e6, e7, e8, hlt', hw2]
                exact nxt _ (by simp (implicitDefEqProofs := false) only [↓reduceIte, go_sem, reduceCtorEq, eq_self, t0]) (by simp (implicitDefEqProofs := false) only [↓reduceIte, go_sem, Nat.reduceLT, Nat.reduceEqDiff, eq_self]) (by simp (implicitDefEqProofs := false) only [↓reduceIte, go_sem, Nat.reduceLT, eq_self])
              · have e3 : (0 < (i : Int)) = True := eq_true (by omega)
                have e4 : ((c : Int) = 0) = False := eq_false (by omega)
                simp (implicitDefEqProofs := false) only [↓reduceIte, go_sem, Nat.reduceLT, Nat.reduceEqDiff, reduceCtorEq, eq_self, List.set_set, t3, t4, e1, e3, e4, hpart, e5, e6, e7, e8, hlt', hw2]
                exact nxt _ (by simp (implicitDefEqProofs := false) only [↓reduceIte, go_sem, reduceCtorEq, eq_self, t0]) (by simp (implicitDefEqProofs := false) only [↓reduceIte, go_sem, Nat.reduceLT, Nat.reduceEqDiff, eq_self]) (by simp (implicitDefEqProofs := false) only [↓reduceIte, go_sem, Nat.reduceLT, eq_self])
theorem saved_ret (H : AHeap) (a : AV) : DoesD Tryz.prog 36 [a] H .returning H .returning := by
  refine DoesD.of_awp (hint := fun _ => false) Tryz.func36 (by kernel_rfl) rfl ⟨_, rfl⟩ rfl rfl rfl rfl rfl (by rw [Tryz.ntmps36]; decide) rfl (by simp [Tryz.ntmps36]) .ret ?_
  rw [Tryz.ntmps36]
  simp (implicitDefEqProofs := false) only [↓reduceIte, go_sem, Nat.reduceLT, eq_self]
  exact ⟨_, .refl _ _⟩
theorem saved_pan (H : AHeap) (id : Nat) (x : AV) (e : Int) (ho : H[id]? = some (.box 31 1 0 1 [x])) : DoesD Tryz.prog 36 [.ptr id 0 0 0] H (mPan (eV e)) (H.set id (.box 31 1 0 1 [iA e])) (mRec (eV e)) := by
  refine DoesD.of_awp (hint := fun _ => false) Tryz.func36 (by kernel_rfl) rfl ⟨_, rfl⟩ rfl rfl rfl rfl rfl (by rw [Tryz.ntmps36]; decide) rfl (by simp [Tryz.ntmps36]) (.pan _) ?_
  rw [Tryz.ntmps36]
  simp (implicitDefEqProofs := false) only [↓reduceIte, go_sem, owrite, Nat.reduceLT, Nat.reduceEqDiff, reduceCtorEq, eq_self, ho]
  exact ⟨_, .refl _ _⟩
theorem numP_len : ∀ (k acc : Nat) (b : List Nat), (numP k acc b).2.length ≤ b.length
  | 0, _, b => Nat.le_refl _
  | _ + 1, _, [] => Nat.le_refl _
  | k + 1, acc, c :: b => by
    simp only [numP]
    split
    · simp
    · split
      · simp
      · exact Nat.le_trans (numP_len k _ b) (by simp)
def getP (b : List Nat) : Nat × Nat × Int := match numP 10 0 b with
  | (.ok n, r) => (n, b.length - r.length, 0)
  | (.error e, _) => (0, 0, e)
set_option maxRecDepth 10000 in
theorem get_does (b : List Nat) (hl : b.length < 1000000000000000) (hb : ∀ c ∈ b, c < 256) (H : AHeap) : Does Tryz.prog 16 [.d (.list false (bys b))] H (.ok (.tup [uA (getP b).1, iA (getP b).2.1, iA (getP b).2.2])) H := by
  refine Does.of_awpD (hint := fun _ => false) Tryz.func16 (by kernel_rfl) rfl [.tmp 2, .tmp 3, .cell 4 31] (by kernel_rfl) rfl rfl rfl rfl (by simp [Tryz.ntmps16]) ?_
  rw [Tryz.ntmps16]
  simp (implicitDefEqProofs := false) only [↓reduceIte, go_sem, owrite, Nat.reduceLT, Nat.reduceEqDiff, reduceCtorEq, eq_self]
  have hd := number_does (H ++ [.box 31 1 0 1 [iA 0], rowB b]) (H.length + 1) b hl hb (by simp)
  have hset : ∀ x y z : AObj, (H ++ [x, y]).set (H.length + 1) z = H ++ [x, z] := fun x y z => by simp []
  have hset0 : ∀ x y z : AObj, (H ++ [x, y]).set H.length z = H ++ [z, y] := fun x y z => by simp []
  rw [hset] at hd
  have hg : getP b = match numP 10 0 b with
    | (.ok n, r) => (n, b.length - r.length, 0)
    | (.error e, _) => (0, 0, e) := rfl
  rcases hn : numP 10 0 b with ⟨_ | n, r⟩
  · rename_i e
    rw [hn] at hd hg
    rw [hg]
    refine KCall.panic hd ?_
    simp (implicitDefEqProofs := false) only [↓reduceIte, go_sem, Nat.reduceLT, eq_self]
    refine ⟨_, saved_pan _ _ (iA 0) e (by simp), ?_⟩
    rw [hset0]
    refine AEndC.ret ?_
    simp (implicitDefEqProofs := false) only [↓reduceIte, go_sem, oread, Nat.reduceAdd, Nat.reduceLT, Nat.reduceEqDiff, reduceCtorEq, eq_self, resAll, resAV]
  · rw [hn] at hd hg
    rw [hg]
    refine KCall.ok hd ?_
    simp (implicitDefEqProofs := false) only [↓reduceIte, go_sem, Nat.reduceLT, eq_self, rowB]
    refine awp_drawK 7 K.mixed (by kernel_rfl) (by kernel_rfl) ?_
    have hw : IntKind.i64.wrap ((b.length : Int) - (r.length : Int)) = ((b.length - r.length : Nat) : Int) := by
      have := numP_len 10 0 b
      rw [hn] at this
      simp only at this
      rw [wrap64_in _ (by omega) (by omega)]; omega
    simp (implicitDefEqProofs := false) only [↓reduceIte, go_sem, oread, owrite, Nat.reduceLT, Nat.reduceEqDiff, reduceCtorEq, eq_self, bys_len, hw]
    refine ⟨_, saved_ret _ _, ?_⟩
    refine AEndC.ret ?_
    simp (implicitDefEqProofs := false) only [↓reduceIte, go_sem, oread, Nat.reduceAdd, Nat.reduceLT, Nat.reduceEqDiff, reduceCtorEq, eq_self, resAll, resAV]
theorem getN_does (b : List Nat) (nn : Bool) (hl : b.length < 1000000000000000) (hb : ∀ c ∈ b, c < 256) (H : AHeap) : Does Tryz.prog 16 [.d (.list nn (bys b))] H (.ok (.tup [uA (getP b).1, iA (getP b).2.1, iA (getP b).2.2])) H := by
  cases nn
  · exact get_does b hl hb H
  · exact (get_does b hl hb H).sub (.cons (.nn _) .nil)
def zagP (n : Nat) : Int := if n % 2 = 1 then -((n / 2 : Nat) : Int) - 1 else ((n / 2 : Nat) : Int)
theorem xorI_nat (k : IntKind) (a b : Nat) (ha : a < 2 ^ k.bits) (hb : b < 2 ^ k.bits) : xorI k (a : Int) (b : Int) = ((a ^^^ b : Nat) : Int) := by
  simp [xorI, BitVec.toNat_xor, BitVec.ofInt_natCast, Nat.mod_eq_of_lt ha, Nat.mod_eq_of_lt hb]
theorem xor_nat (a b : Nat) (ha : a < 18446744073709551616) (hb : b < 18446744073709551616) : xorI .i64 (a : Int) (b : Int) = ((a ^^^ b : Nat) : Int) := xorI_nat .i64 a b ha hb
theorem zag_eq (n : Nat) (h : n < 18446744073709551616) : IntKind.i64.wrap (xorI .i64 (IntKind.i64.wrap (shrI .u64 (n : Int) 1)) (IntKind.i64.wrap (0 - IntKind.i64.wrap (IntKind.u64.wrap (andI .u64 (n : Int) 1))))) = zagP n := by
  have s1 : shrI .u64 (n : Int) 1 = ((n / 2 : Nat) : Int) := shrU n 1 (by decide)
  have s2 : andI .u64 (n : Int) 1 = ((n % 2 : Nat) : Int) := by
    have := andI_nat .u64 n 1 (by simp only [IntKind.bits]; omega) (by decide)
    rw [Nat.and_one_is_mod] at this
    exact this
  rw [s1, s2, wrapU64N _ (by omega), wrap64_in (n / 2 : Nat) (by omega) (by omega), wrap64_in (n % 2 : Nat) (by omega) (by omega)]
  unfold zagP
  by_cases h1 : n % 2 = 1
  · rw [if_pos h1, h1]
    have e : xorI .i64 ((n / 2 : Nat) : Int) (IntKind.i64.wrap (0 - ((1 : Nat) : Int))) = xorI .i64 ((n / 2 : Nat) : Int) ((18446744073709551615 : Nat) : Int) := by
      have : BitVec.ofInt 64 (IntKind.i64.wrap (0 - ((1 : Nat) : Int))) = BitVec.ofInt 64 ((18446744073709551615 : Nat) : Int) := by decide
      simp only [xorI, IntKind.bits, this]
    rw [e, xor_nat _ _ (by omega) (by omega), Nat.xor_comm, Nat.xor_comm, xorAll _ (by omega)]
    simp only [IntKind.wrap, IntKind.signed, IntKind.bits]
    simp only [show ((2 : Int) ^ 64) = 18446744073709551616 from rfl, show ((2 : Int) ^ (64 - 1)) = 9223372036854775808 from rfl]
    simp
    split <;> omega
  · rw [if_neg h1, show n % 2 = 0 by omega]
    have e : IntKind.i64.wrap (0 - ((0 : Nat) : Int)) = ((0 : Nat) : Int) := by decide
    rw [e, xor_nat _ _ (by omega) (by omega), Nat.xor_zero]
    exact wrap64_in _ (by omega) (by omega)
set_option maxRecDepth 10000 in
theorem zag_does (n : Nat) (h : n < 18446744073709551616) (H : AHeap) : Does Tryz.prog 72 [uA n] H (.ok (iA (zagP n))) H := by
  refine Does.of_awp (hint := (fun _ => false)) Tryz.func72 (by kernel_rfl) rfl [2] (by kernel_rfl) (by decide) (by simp [Tryz.ntmps72]) ?_
  rw [Tryz.ntmps72]
  simp (implicitDefEqProofs := false) only [↓reduceIte, go_sem, Nat.reduceLT, Nat.reduceEqDiff, Int.reduceLE, reduceCtorEq, eq_self]
  refine AEnd.ret0 ?_
  simp (implicitDefEqProofs := false) only [↓reduceIte, go_sem, Nat.reduceLT, eq_self, zag_eq n h]
end Go.Proofs.YtmbagpfmfiegkaaGreat
namespace Go.Proofs.YtmbagpfmfiegkaaGreat
open Go.Proofs.YtmbagpfmfiegkaaGreatAw Go.RowKit
set_option linter.unusedVariables false
set_option linter.unusedSimpArgs false
def bitsB (b : List Nat) : List Bool := b.flatMap fun c => bitsN c 8
theorem bitsB_len : ∀ b : List Nat, (bitsB b).length = 8 * b.length
  | [] => rfl
  | c :: b => by
    have : bitsB (c :: b) = bitsN c 8 ++ bitsB b := rfl
    rw [this, List.length_append, bitsB_len b, bitsN_len, List.length_cons]; omega
theorem bitsB_get : ∀ (b : List Nat) (i : Nat) (c : Nat), b[i / 8]? = some c → (bitsB b)[i]? = some (c.testBit (i % 8))
  | [], i, c, h => by simp at h
  | x :: b, i, c, h => by
    have e : bitsB (x :: b) = bitsN x 8 ++ bitsB b := rfl
    rw [e]
    by_cases hi : i < 8
    · rw [show i / 8 = 0 by omega] at h
      cases h
      rw [List.getElem?_append_left (by rw [bitsN_len]; exact hi), show i % 8 = i by omega]
      simp [bitsN, hi]
    · rw [show i / 8 = (i - 8) / 8 + 1 by omega, List.getElem?_cons_succ] at h
      rw [List.getElem?_append_right (by rw [bitsN_len]; omega), bitsN_len, bitsB_get b (i - 8) c h]
      congr 2
      omega
theorem byteOf_take (L : List Bool) (k : Nat) (c : Bool) (h : L[k]? = some c) : byteOf (L.take (k + 1)) = byteOf (L.take k) + c.toNat * 2 ^ k := by
  have hk : k < L.length := (List.getElem?_eq_some_iff.1 h).1
  rw [List.take_add_one, h, Option.toList_some, byteOf_snoc, List.length_take, Nat.min_eq_left (Nat.le_of_lt hk)]
def rH (G : AHeap) (b : List Nat) (at_ : Nat) (T : AHeap) : AHeap := G ++ .arr 5 1 1 (bys b) :: .box 192 2 0 1 [.sl G.length 1 0 b.length, iA at_] :: T
theorem from_does (b : List Nat) (nn : Bool) (hl : b.length ≤ 140737488351232) (H : AHeap) : Does Tryz.prog 111 [.d (.list nn (bys b))] H (.ok (.ptr (H.length + 1) 0 0 0)) (rH H b 0 []) := by
  generalize hE : rH H b 0 [] = E
  refine Does.of_awp (hint := (fun _ => false)) Tryz.func111 (by kernel_rfl) rfl [2] (by kernel_rfl) (by decide) (by simp [Tryz.ntmps111]) ?_
  rw [Tryz.ntmps111]
  simp (implicitDefEqProofs := false) only [↓reduceIte, go_sem, Nat.reduceAdd, Nat.reduceLT, Nat.reduceLeDiff, Nat.reduceEqDiff, reduceCtorEq, eq_self, bys_one, bys_len]
  refine ⟨by omega, by omega, ?_⟩
  rw [← hE]
  refine ⟨_, Weak.refl _ _, ?_⟩
  simp (implicitDefEqProofs := false) only [↓reduceIte, go_sem, Nat.reduceLT, eq_self]
theorem left_does (b : List Nat) (at_ : Nat) (hl : b.length ≤ 140737488351232) (ha : at_ ≤ 8 * b.length) (G T : AHeap) : Does Tryz.prog 112 [.ptr (G.length + 1) 0 0 0] (rH G b at_ T) (.ok (iA ((8 * b.length - at_ : Nat) : Int))) (rH G b at_ T) := by
  refine Does.of_awp (hint := (fun _ => false)) Tryz.func112 (by kernel_rfl) rfl [2] (by kernel_rfl) (by decide) (by simp [Tryz.ntmps112]) ?_
  rw [Tryz.ntmps112]
  simp (implicitDefEqProofs := false) only [↓reduceIte, go_sem, Nat.reduceLT, reduceCtorEq, eq_self, rH]
  refine awp_draw K.mixed (by kernel_rfl) ?_
  have h1 : IntKind.i64.wrap (8 * (b.length : Int)) = 8 * (b.length : Int) := wrap64_in _ (by omega) (by omega)
  have h2 : IntKind.i64.wrap (8 * (b.length : Int) - (at_ : Int)) = ((8 * b.length - at_ : Nat) : Int) := by rw [wrap64_in _ (by omega) (by omega)]; omega
  generalize 8 * b.length - at_ = z at *
  simp (implicitDefEqProofs := false) only [↓reduceIte, go_sem, oread, Nat.reduceAdd, Nat.reduceLT, Nat.reduceLeDiff, Nat.reduceEqDiff, reduceCtorEq, eq_self]
  refine ⟨_, Weak.refl _ _, ?_⟩
  simp (implicitDefEqProofs := false) only [↓reduceIte, go_sem, Nat.reduceLT, eq_self, h1, h2]
theorem bitU (x : Nat) (j : Nat) (hx : x < 256) (hj : j < 8) : IntKind.u64.wrap (IntKind.u8.wrap (andI .u8 (shrI .u8 (x : Int) (j : Int)) 1)) = (((x.testBit j).toNat : Nat) : Int) := by
  have h1 : min j 8 = j := by omega
  have e : shrI .u8 (x : Int) (j : Int) = ((x / 2 ^ j : Nat) : Int) := by
    simp only [shrI, IntKind.bits, Int.toNat_natCast, h1]
    rw [Int.fdiv_eq_ediv_of_nonneg _ (by exact_mod_cast Nat.zero_le _)]
    norm_cast
  have h2 : x / 2 ^ j < 256 := Nat.lt_of_le_of_lt (Nat.div_le_self _ _) hx
  rw [e]
  have := andI_nat .u8 (x / 2 ^ j) 1 h2 (by decide)
  rw [show ((1 : Nat) : Int) = 1 from rfl] at this
  rw [this, Nat.and_one_is_mod, wrap8N _ (by omega), wrapU64N _ (by omega), Nat.testBit_eq_decide_div_mod_eq]
  rcases Nat.mod_two_eq_zero_or_one (x / 2 ^ j) with h | h <;> rw [h] <;> rfl
set_option maxRecDepth 10000 in
set_option maxHeartbeats 1000000 in
theorem rget_does (b : List Nat) (at_ w : Nat) (hl : b.length ≤ 140737488351232) (hb : ∀ c ∈ b, c < 256) (ha : at_ + w ≤ 8 * b.length) (hw : w ≤ 64) (G T : AHeap) :
    Does Tryz.prog 113 [.ptr (G.length + 1) 0 0 0, iA w] (rH G b at_ T) (.ok (.tup [du (byteOf (((bitsB b).drop at_).take w)), iA 0])) (rH G b (at_ + w) T) := by
  generalize hE : rH G b (at_ + w) T = E
  refine Does.of_awp (hint := (fun _ => false)) Tryz.func113 (by kernel_rfl) rfl [4, 5] (by kernel_rfl) (by decide) (by simp [Tryz.ntmps113]) ?_
  rw [Tryz.ntmps113]
  simp (implicitDefEqProofs := false) only [↓reduceIte, go_sem, Nat.reduceLT, Nat.reduceEqDiff, reduceCtorEq, eq_self, rH, show ((w : Int) < 0) = False from eq_false (by omega), show ((64 : Int) < (w : Int)) = False from eq_false (by omega)]
  refine KCall.ok (left_does b at_ hl (by omega) G T) ?_
  simp (implicitDefEqProofs := false) only [↓reduceIte, go_sem, Nat.reduceLT, Nat.reduceEqDiff, eq_self, show (((8 * b.length - at_ : Nat) : Int) < (w : Int)) = False from eq_false (by omega)]
  refine awp_for (fun k s H' => H' = rH G b (at_ + k) T ∧ s 0 = .ptr (G.length + 1) 0 0 0 ∧ s 6 = du (byteOf (((bitsB b).drop at_).take k)) ∧ s 24 = iA w ∧ s 25 = iA k) w (by omega) (Weak.refl _ _) ?_ ?_ ?_
  · refine ⟨rfl, ?_⟩
    simp (implicitDefEqProofs := false) only [↓reduceIte, go_sem, Nat.reduceLT, Nat.reduceEqDiff, reduceCtorEq, eq_self, List.take_zero, byteOf]
    rfl
  · rintro k s H' hk hw2 ⟨rfl, t0, t6, t24, t25⟩
    have hq : (at_ + k) / 8 < b.length := by omega
    have hm8 : (at_ + k) % 8 < 8 := Nat.mod_lt _ (by decide)
    have hx := List.getElem?_eq_getElem hq
    have hbx := bys_get b _ hq
    have hx8 := hb _ (List.getElem_mem hq)
    generalize b[(at_ + k) / 8] = x at hx hbx hx8
    have hbit := bitsB_get b _ x hx
    have ht := byteOf_take ((bitsB b).drop at_) k _ (by rw [List.getElem?_drop]; exact hbit)
    have hlt := byteOf_lt (((bitsB b).drop at_).take k)
    have hll : (((bitsB b).drop at_).take k).length = k := by rw [List.length_take, List.length_drop, bitsB_len]; omega
    rw [hll] at hlt
    have hu := bitU x _ hx8 hm8
    generalize x.testBit ((at_ + k) % 8) = c at hu ht
    generalize byteOf (((bitsB b).drop at_).take k) = n at hlt ht t6
    have hp63 : 2 ^ k ≤ 2 ^ 63 := Nat.pow_le_pow_right (by decide) (by omega)
    have hcl : c.toNat * 2 ^ k ≤ 2 ^ k := by cases c <;> simp
    have e7 := shlN c.toNat k (by omega) (by omega)
    have e8 := orN n c.toNat k hlt (by omega)
    obtain ⟨p, hp⟩ : ∃ p, p = at_ + k := ⟨_, rfl⟩
    rw [← hp] at hq hm8 hbx hu
    have hwq : IntKind.i64.wrap ((p / 8 : Nat) : Int) = ((p / 8 : Nat) : Int) := wrap64_in _ (by omega) (by omega)
    have hwm : IntKind.u64.wrap ((p % 8 : Nat) : Int) = ((p % 8 : Nat) : Int) := wrapU64N _ (by omega)
    have hwk : IntKind.u64.wrap ((k : Nat) : Int) = ((k : Nat) : Int) := wrapU64N _ (by omega)
    have hw3 : IntKind.i64.wrap ((p : Int) + 1) = ((p + 1 : Nat) : Int) := by rw [wrap64_in _ (by omega) (by omega)]; rfl
    simp only [← hp]
    rw [show at_ + (k + 1) = p + 1 by omega, ht]
    generalize c.toNat * 2 ^ k = y at *
    generalize n + y = z at *
    simp (implicitDefEqProofs := false) only [↓reduceIte, go_sem, Nat.reduceLT, Nat.reduceEqDiff, eq_self, rH, t24, t25, hk]
    refine awp_draw K.mixed (by kernel_rfl) ?_
    simp (implicitDefEqProofs := false) only [↓reduceIte, go_sem, oread, owrite, Nat.reduceAdd, Nat.reduceLT, Nat.reduceLeDiff, Nat.reduceEqDiff, Int.reduceEq, reduceCtorEq, eq_self, rH, t0, t6, t25, divI, modI, hwq, hwm, hwk, hbx, hq, hu, e7, e8]
    refine Rnd.same ⟨?_, ?_⟩
    · simp (implicitDefEqProofs := false) only [go_sem, eq_self, hw3]
    · simp (implicitDefEqProofs := false) only [↓reduceIte, go_sem, Nat.reduceLT, Nat.reduceEqDiff, reduceCtorEq, eq_self, t0, t24, hw2]
  · rintro s H' ⟨rfl, t0, t6, t24, t25⟩
    simp (implicitDefEqProofs := false) only [↓reduceIte, go_sem, Nat.reduceLT, Nat.reduceEqDiff, eq_self, t6, t24, t25]
    rw [hE]
    exact ⟨_, Weak.refl _ _, by simp (implicitDefEqProofs := false) only [↓reduceIte, go_sem, Nat.reduceLT, Nat.reduceEqDiff, eq_self]⟩
end Go.Proofs.YtmbagpfmfiegkaaGreat
namespace Go.Proofs.YtmbagpfmfiegkaaGreat
open Go.Proofs.YtmbagpfmfiegkaaGreatAw Go.RowKit
set_option linter.unusedVariables false
set_option linter.unusedSimpArgs false
def partP (b : List Nat) (w k : Nat) : Nat := byteOf (((bitsB b).drop (k * w)).take w)
def unpackL (b : List Nat) (n w : Nat) : List Nat := (List.range n).map (partP b w)
theorem unpackL_len (b : List Nat) (n w : Nat) : (unpackL b n w).length = n := by simp [unpackL]
theorem unpackL_succ (b : List Nat) (n w : Nat) : unpackL b (n + 1) w = unpackL b n w ++ [partP b w n] := by simp [unpackL, List.range_succ]
def unpackE (b : List Nat) (n w : Nat) : Int := if 8 * b.length < n * w then 3 else if n * w + 8 ≤ 8 * b.length then 4 else if byteOf ((bitsB b).drop (n * w)) = 0 then 0 else 4
def unpackA (b : List Nat) (n w : Nat) : AV := if unpackE b n w = 0 then .d (.list false (us (unpackL b n w))) else .d (.v (.slice none 0 0))
set_option maxRecDepth 10000 in
set_option maxHeartbeats 1000000 in
theorem unpack_does (b : List Nat) (n w : Nat) (nn : Bool) (hl : b.length ≤ 140737488351232) (hb : ∀ c ∈ b, c < 256) (hn : n ≤ 1048576) (hw : w ≤ 64) (H : AHeap) :
    Does Tryz.prog 71 [.d (.list nn (bys b)), iA n, iA w] H (.ok (.tup [unpackA b n w, iA (unpackE b n w)])) H := by
  have hnw : n * w ≤ 1048576 * 64 := Nat.mul_le_mul hn hw
  have c1 : ((n : Int) < 0) = False := eq_false (by omega)
  have c2 : ((1048576 : Int) < (n : Int)) = False := eq_false (by omega)
  have c3 : ((w : Int) < 0) = False := eq_false (by omega)
  have c4 : ((64 : Int) < (w : Int)) = False := eq_false (by omega)
  refine Does.of_awp (hint := (fun _ => false)) Tryz.func71 (by kernel_rfl) rfl [6, 7] (by kernel_rfl) (by decide) (by simp [Tryz.ntmps71]) ?_
  rw [Tryz.ntmps71]
  simp (implicitDefEqProofs := false) only [↓reduceIte, go_sem, Nat.reduceLT, Nat.reduceEqDiff, reduceCtorEq, eq_self, c1, c2, c3, c4]
  refine KCall.ok (from_does b nn hl H) ?_
  simp (implicitDefEqProofs := false) only [↓reduceIte, go_sem, Nat.reduceLT, eq_self]
  refine KCall.ok (left_does b 0 hl (by omega) H []) ?_
  have e1 : IntKind.i64.wrap ((n : Int) * (w : Int)) = ((n * w : Nat) : Int) := by rw [← Int.natCast_mul]; exact wrap64_in _ (by omega) (by omega)
  obtain ⟨r, hr⟩ : ∃ r : Int, r = ((8 * b.length : Nat) : Int) - ((n * w : Nat) : Int) := ⟨_, rfl⟩
  have e2 : IntKind.i64.wrap (((8 * b.length - 0 : Nat) : Int) - ((n * w : Nat) : Int)) = r := by rw [Nat.sub_zero, hr]; exact wrap64_in _ (by omega) (by omega)
  generalize hN : n * w = N at *
  generalize hM : 8 * b.length - 0 = M at *
  simp (implicitDefEqProofs := false) only [↓reduceIte, go_sem, Nat.reduceLT, Nat.reduceEqDiff, eq_self, e1, e2]
  by_cases h1 : r < 0
  · have hE : unpackE b n w = 3 := by unfold unpackE; rw [hN, if_pos (by omega)]
    simp (implicitDefEqProofs := false) only [go_sem, h1]
    unfold rH
    refine AEnd.ret ?_
    simp (implicitDefEqProofs := false) only [↓reduceIte, go_sem, Nat.reduceLT, Nat.reduceEqDiff, eq_self]
    simp [unpackA, hE]
  by_cases h2 : 8 ≤ r
  · have hE : unpackE b n w = 4 := by unfold unpackE; rw [hN, if_neg (by omega), if_pos (by omega)]
    simp (implicitDefEqProofs := false) only [↓reduceIte, go_sem, Nat.reduceLT, Nat.reduceEqDiff, eq_self, h1, h2]
    unfold rH
    refine AEnd.ret ?_
    simp (implicitDefEqProofs := false) only [↓reduceIte, go_sem, Nat.reduceLT, Nat.reduceEqDiff, eq_self]
    simp [unpackA, hE]
  simp (implicitDefEqProofs := false) only [↓reduceIte, go_sem, Nat.reduceLT, Nat.reduceEqDiff, eq_self, h1, h2]
  refine awp_for (fun k s H' => H' = rH H b (k * w) [.arr 49 1 k (us (unpackL b k w))] ∧ s 2 = iA w ∧ s 8 = .ptr (H.length + 1) 0 0 0 ∧ s 9 = iA r ∧ s 10 = .sl (H.length + 2) k 0 k ∧ s 43 = iA n ∧ s 44 = iA k) n (by omega) (Weak.virt1 _ _ 10 49 1 (by decide) (by simp (implicitDefEqProofs := false) only [↓reduceIte, go_sem, Nat.reduceLT, Nat.reduceEqDiff, eq_self]) _) ?_ ?_ ?_
  · refine ⟨?_, ?_⟩
    · simp (implicitDefEqProofs := false) only [go_sem, rH, Nat.zero_mul]
      rfl
    · simp (implicitDefEqProofs := false) only [↓reduceIte, go_sem, Nat.reduceLT, Nat.reduceEqDiff, eq_self, show (rH H b 0 []).length = H.length + 2 from by simp [rH]]
  · rintro k s H' hk hw2 ⟨rfl, t2, t8, t9, t10, t43, t44⟩
    simp (implicitDefEqProofs := false) only [↓reduceIte, go_sem, Nat.reduceLT, Nat.reduceEqDiff, eq_self, t2, t8, t43, t44, hk]
    have hkw : k * w + w ≤ n * w := by rw [← Nat.succ_mul]; exact Nat.mul_le_mul_right _ hk
    have hL := unpackL_len b k w
    have hs : unpackL b (k + 1) w = unpackL b k w ++ [byteOf (((bitsB b).drop (k * w)).take w)] := unpackL_succ b k w
    have hkw2 : (k + 1) * w = k * w + w := Nat.succ_mul k w
    refine KCall.ok (rget_does b (k * w) w hl hb (by omega) hw H _) ?_
    rw [hs, hkw2]
    generalize byteOf (((bitsB b).drop (k * w)).take w) = x
    generalize unpackL b k w = L at *
    generalize k * w = at_ at *
    simp (implicitDefEqProofs := false) only [↓reduceIte, go_sem, Nat.reduceAdd, Nat.reduceLT, Nat.reduceLeDiff, Nat.reduceEqDiff, eq_self, t10, t44, rH, us_len, hL, us_snoc, List.length_singleton]
    refine ⟨by omega, by omega, Rnd.same ⟨?_, ?_⟩⟩
    · simp (implicitDefEqProofs := false) only [go_sem, eq_self]
    · simp (implicitDefEqProofs := false) only [↓reduceIte, go_sem, Nat.reduceLT, Nat.reduceEqDiff, eq_self, t2, t8, t9, t43, hw2]
  · rintro s H' ⟨rfl, t2, t8, t9, t10, t43, t44⟩
    simp (implicitDefEqProofs := false) only [↓reduceIte, go_sem, Nat.reduceLT, Nat.reduceEqDiff, eq_self, t8, t9, t43, t44]
    have hr3 : r = ((8 * b.length - N : Nat) : Int) := by omega
    rw [hN, hr3]
    refine KCall.ok (rget_does b N (8 * b.length - N) hl hb (by omega) (by omega) H _) ?_
    have htk : ((bitsB b).drop N).take (8 * b.length - N) = (bitsB b).drop N := List.take_of_length_le (by rw [List.length_drop, bitsB_len]; exact Nat.le_refl _)
    rw [htk]
    by_cases h0 : byteOf ((bitsB b).drop N) = 0
    · have hE : unpackE b n w = 0 := by unfold unpackE; rw [hN, if_neg (by omega), if_neg (by omega), if_pos h0]
      rw [h0]
      simp (implicitDefEqProofs := false) only [↓reduceIte, go_sem, Nat.reduceLT, Nat.reduceEqDiff, eq_self, t10]
      unfold rH
      refine AEnd.ret ?_
      simp (implicitDefEqProofs := false) only [↓reduceIte, go_sem, Nat.reduceLT, Nat.reduceEqDiff, eq_self]
      rw [show (us (unpackL b n w)).take n = us (unpackL b n w) from take_len _ _ (by rw [us_len, unpackL_len])]
      simp [unpackA, hE]
    · have hE : unpackE b n w = 4 := by unfold unpackE; rw [hN, if_neg (by omega), if_neg (by omega), if_neg h0]
      have h0' : (((byteOf ((bitsB b).drop N) : Nat) : Int) = 0) = False := eq_false (by omega)
      simp (implicitDefEqProofs := false) only [↓reduceIte, go_sem, Nat.reduceLT, Nat.reduceEqDiff, eq_self, h0']
      unfold rH
      refine AEnd.ret ?_
      simp (implicitDefEqProofs := false) only [↓reduceIte, go_sem, Nat.reduceLT, Nat.reduceEqDiff, eq_self]
      simp [unpackA, hE]
end Go.Proofs.YtmbagpfmfiegkaaGreat
namespace Go.Proofs.YtmbagpfmfiegkaaGreat
open Go.Proofs.YtmbagpfmfiegkaaGreatAw Go.RowKit
set_option linter.unusedVariables false
set_option linter.unusedSimpArgs false
theorem getP_le (b : List Nat) : (getP b).2.1 ≤ b.length := by
  unfold getP
  split <;> simp
theorem numP_lt : ∀ (k acc : Nat) (b : List Nat) (n : Nat), acc < 128 ^ (10 - k) → k ≤ 10 → (numP k acc b).1 = .ok n → n < 18446744073709551616
  | 0, _, _, _, _, _, h => by simp [numP] at h
  | _ + 1, _, [], _, _, _, h => by simp [numP] at h
  | k + 1, acc, c :: b, n, ha, hk, h => by
    have hm : c % 128 < 128 := Nat.mod_lt _ (by decide)
    have hi : 10 - (k + 1) = 9 - k := by omega
    rw [hi] at ha
    have hA : acc + c % 128 * 128 ^ (9 - k) < 128 ^ (9 - k) * 128 := by
      have : c % 128 * 128 ^ (9 - k) ≤ 127 * 128 ^ (9 - k) := Nat.mul_le_mul_right _ (by omega)
      omega
    simp only [numP] at h
    split at h
    · cases h
    · rename_i hbad
      split at h
      · cases h
        by_cases h0 : k = 0
        · subst h0
          have hc : c % 128 ≤ 1 := by omega
          have h2 : c % 128 * 128 ^ 9 ≤ 1 * 128 ^ 9 := Nat.mul_le_mul_right _ hc
          simp only [Nat.sub_zero] at ha ⊢
          omega
        · have h9 : 128 ^ (9 - k) ≤ 128 ^ 8 := Nat.pow_le_pow_right (by decide) (by omega)
          omega
      · by_cases h0 : k = 0
        · subst h0; simp [numP] at h
        · refine numP_lt k _ b n ?_ (by omega) h
          rw [show 10 - k = (9 - k) + 1 by omega, Nat.pow_succ]
          exact hA
theorem getP_lt (b : List Nat) : (getP b).1 < 18446744073709551616 := by
  unfold getP
  split
  · rename_i n r h
    exact numP_lt 10 0 b n (by decide) (Nat.le_refl _) (by rw [h])
  · exact (by decide : (0 : Nat) < 18446744073709551616)
theorem unpackL_lt (b : List Nat) (n w : Nat) (hw : w ≤ 64) : ∀ x ∈ unpackL b n w, x < 18446744073709551616 := by
  intro x hx
  obtain ⟨k, _, rfl⟩ := List.mem_map.1 hx
  have h1 := byteOf_lt (((bitsB b).drop (k * w)).take w)
  have h2 : 2 ^ (((bitsB b).drop (k * w)).take w).length ≤ 2 ^ 64 := Nat.pow_le_pow_right (by decide) (by simp; omega)
  unfold partP
  omega
end Go.Proofs.YtmbagpfmfiegkaaGreat
namespace Go.Proofs.YtmbagpfmfiegkaaGreat
open Go.Proofs.YtmbagpfmfiegkaaGreatAw Go.RowKit
set_option linter.unusedVariables false
set_option linter.unusedSimpArgs false
def toTextP (b : List Nat) (most : Nat) : List Nat × List Nat × Int := match numP 10 0 b with
  | (.ok n, r) => if most < n then ([], [], 2) else if r.length < n then ([], [], 3) else (r.take n, r.drop n, 0)
  | (.error e, _) => ([], [], e)
theorem numP_suffix : ∀ (k acc : Nat) (b : List Nat), ∃ j, (numP k acc b).2 = b.drop j
  | 0, _, b => ⟨0, rfl⟩
  | _ + 1, _, [] => ⟨0, rfl⟩
  | k + 1, acc, c :: b => by
    unfold numP
    split
    · exact ⟨1, rfl⟩
    · split
      · exact ⟨1, rfl⟩
      · obtain ⟨j, h⟩ := numP_suffix k (acc + c % 128 * 128 ^ (9 - k)) b
        exact ⟨j + 1, h⟩
set_option maxRecDepth 10000 in
set_option maxHeartbeats 2000000 in
theorem toText_does (b : List Nat) (most : Nat) (hmo : most ≤ 1000000) (hl : b.length ≤ 140737488351232) (hb : ∀ c ∈ b, c < 256) (H : AHeap) :
    Does Tryz.prog 74 [.d (.list false (bys b)), iA most] H (.ok (.tup [sA (bstr (toTextP b most).1), .d (.list false (bys (toTextP b most).2.1)), iA (toTextP b most).2.2])) H := by
  have hd := number_does (H ++ [.box 31 1 0 1 [iA 0], rowB b]) (H.length + 1) b (by omega) hb (by simp)
  have hset : ∀ x y z : AObj, (H ++ [x, y]).set (H.length + 1) z = H ++ [x, z] := fun x y z => by simp []
  have hset0 : ∀ x y z : AObj, (H ++ [x, y]).set H.length z = H ++ [z, y] := fun x y z => by simp []
  rw [hset] at hd
  have hg : toTextP b most = match numP 10 0 b with
    | (.ok n, r) => if most < n then ([], [], 2) else if r.length < n then ([], [], 3) else (r.take n, r.drop n, 0)
    | (.error e, _) => ([], [], e) := rfl
  have hnl : ∀ n, (numP 10 0 b).1 = .ok n → n < 18446744073709551616 := fun n h => numP_lt 10 0 b n (by decide) (Nat.le_refl _) h
  obtain ⟨j, hsuf⟩ := numP_suffix 10 0 b
  rcases hn : numP 10 0 b with ⟨_ | n, r⟩
  · rename_i e
    rw [hn] at hd hg
    rw [hg]
    refine Does.subT (cs := [sA ⟨#[]⟩, .d (.v (.slice none 0 0)), iA e]) ?_ (.cons (.refl _) (.cons .nil (.cons (.refl _) .nil)))
    refine Does.of_awpD (hint := fun _ => false) Tryz.func74 (by kernel_rfl) rfl [.tmp 4, .tmp 5, .cell 6 31] (by kernel_rfl) rfl rfl rfl rfl (by simp [Tryz.ntmps74]) ?_
    rw [Tryz.ntmps74]
    simp (implicitDefEqProofs := false) only [↓reduceIte, go_sem, owrite, Nat.reduceLT, Nat.reduceEqDiff, reduceCtorEq, eq_self]
    refine KCall.panic hd ?_
    simp (implicitDefEqProofs := false) only [↓reduceIte, go_sem, Nat.reduceLT, eq_self]
    refine ⟨_, saved_pan _ _ (iA 0) e (by simp), ?_⟩
    rw [hset0]
    refine AEndC.ret ?_
    simp (implicitDefEqProofs := false) only [↓reduceIte, go_sem, oread, Nat.reduceAdd, Nat.reduceLT, Nat.reduceEqDiff, reduceCtorEq, eq_self, resAll, resAV]
  · rw [hn] at hd hg hsuf
    have hnn := hnl n (by rw [hn])
    simp only at hsuf
    have hrl : r.length ≤ 140737488351232 := by rw [hsuf, List.length_drop]; omega
    have wm : IntKind.u64.wrap (most : Int) = (most : Int) := wrapU64N _ (by omega)
    have wr : IntKind.u64.wrap (r.length : Int) = (r.length : Int) := wrapU64N _ (by omega)
    have c0 : ((most : Int) < 0) = False := eq_false (by omega)
    have hr : toTextP b most = if most < n then ([], [], 2) else if r.length < n then ([], [], 3) else (r.take n, r.drop n, 0) := hg
    rw [hr]
    by_cases h1 : most < n
    · rw [if_pos h1]
      refine Does.subT (cs := [sA ⟨#[]⟩, .d (.v (.slice none 0 0)), iA 2]) ?_ (.cons (.refl _) (.cons .nil (.cons (.refl _) .nil)))
      refine Does.of_awpD (hint := fun _ => false) Tryz.func74 (by kernel_rfl) rfl [.tmp 4, .tmp 5, .cell 6 31] (by kernel_rfl) rfl rfl rfl rfl (by simp [Tryz.ntmps74]) ?_
      rw [Tryz.ntmps74]
      simp (implicitDefEqProofs := false) only [↓reduceIte, go_sem, owrite, Nat.reduceLT, Nat.reduceEqDiff, reduceCtorEq, eq_self]
      refine KCall.ok hd ?_
      simp (implicitDefEqProofs := false) only [↓reduceIte, go_sem, Nat.reduceLT, Nat.reduceEqDiff, reduceCtorEq, eq_self, rowB, c0, wm, show ((most : Int) < (n : Int)) = True from eq_true (by omega)]
      refine ⟨_, saved_pan _ _ (iA 0) 2 (by simp), ?_⟩
      rw [hset0]
      refine AEndC.ret ?_
      simp (implicitDefEqProofs := false) only [↓reduceIte, go_sem, oread, Nat.reduceAdd, Nat.reduceLT, Nat.reduceEqDiff, reduceCtorEq, eq_self, resAll, resAV]
    rw [if_neg h1]
    by_cases h2 : r.length < n
    · rw [if_pos h2]
      refine Does.subT (cs := [sA ⟨#[]⟩, .d (.v (.slice none 0 0)), iA 3]) ?_ (.cons (.refl _) (.cons .nil (.cons (.refl _) .nil)))
      refine Does.of_awpD (hint := fun _ => false) Tryz.func74 (by kernel_rfl) rfl [.tmp 4, .tmp 5, .cell 6 31] (by kernel_rfl) rfl rfl rfl rfl (by simp [Tryz.ntmps74]) ?_
      rw [Tryz.ntmps74]
      simp (implicitDefEqProofs := false) only [↓reduceIte, go_sem, owrite, Nat.reduceLT, Nat.reduceEqDiff, reduceCtorEq, eq_self]
      refine KCall.ok hd ?_
      simp (implicitDefEqProofs := false) only [↓reduceIte, go_sem, oread, Nat.reduceLT, Nat.reduceEqDiff, reduceCtorEq, eq_self, rowB, c0, wm, wr, bys_len, show ((most : Int) < (n : Int)) = False from eq_false (by omega), show ((r.length : Int) < (n : Int)) = True from eq_true (by omega)]
      refine ⟨_, saved_pan _ _ (iA 0) 3 (by simp), ?_⟩
      rw [hset0]
      refine AEndC.ret ?_
      simp (implicitDefEqProofs := false) only [↓reduceIte, go_sem, oread, Nat.reduceAdd, Nat.reduceLT, Nat.reduceEqDiff, reduceCtorEq, eq_self, resAll, resAV]
    rw [if_neg h2]
    have wn : IntKind.i64.wrap (n : Int) = (n : Int) := wrap64_in _ (by omega) (by omega)
    have hnr : n ≤ r.length := by omega
    have hrt : (bys r).take n = bys (r.take n) := take_bys r n
    have hrt2 : (bys r).take r.length = bys r := List.take_of_length_le (by rw [bys_len]; exact Nat.le_refl _)
    have hdl : (r.drop n).length = r.length - n := List.length_drop
    refine Does.of_awpD (hint := fun _ => false) Tryz.func74 (by kernel_rfl) rfl [.tmp 4, .tmp 5, .cell 6 31] (by kernel_rfl) rfl rfl rfl rfl (by simp [Tryz.ntmps74]) ?_
    rw [Tryz.ntmps74]
    simp (implicitDefEqProofs := false) only [↓reduceIte, go_sem, owrite, Nat.reduceLT, Nat.reduceEqDiff, reduceCtorEq, eq_self]
    refine KCall.ok hd ?_
    simp (implicitDefEqProofs := false) only [↓reduceIte, go_sem, oread, Nat.reduceLT, Nat.reduceEqDiff, reduceCtorEq, eq_self, rowB, c0, wm, wr, bys_len, show ((most : Int) < (n : Int)) = False from eq_false (by omega), show ((r.length : Int) < (n : Int)) = False from eq_false (by omega)]
    refine awp_drawM [false, false, false, false, false, false, false, false, true] K.mixed (by kernel_rfl) (by kernel_rfl) (by kernel_rfl) ?_
    simp (implicitDefEqProofs := false) only [↓reduceIte, go_sem, oread, owrite, Nat.reduceAdd, Nat.reduceLT, Nat.reduceEqDiff, Int.reduceLE, Int.reduceToNat, eq_self, bys_len, bys_one, hnr, hrt, asBytes_bys, drop_bys, hrt2]
    have hext : ∀ x y z : AObj, Ext (H ++ [x, y]) (H ++ [x, y, z]) := fun x y z => by have := Ext.app (H ++ [x, y]) [z]; rwa [List.append_assoc] at this
    refine ⟨by omega, by omega, hext _ _ _, ?_⟩
    refine ⟨_, saved_ret _ _, ?_⟩
    refine AEndC.ret ?_
    simp (implicitDefEqProofs := false) only [↓reduceIte, go_sem, oread, Nat.reduceAdd, Nat.reduceLT, Nat.reduceEqDiff, reduceCtorEq, eq_self, resAll, resAV, bstr_eq, List.take_of_length_le (Nat.le_of_eq (bys_len (r.drop n)))]
end Go.Proofs.YtmbagpfmfiegkaaGreat
namespace Go.Proofs.YtmbagpfmfiegkaaGreat
open Go.Proofs.YtmbagpfmfiegkaaGreatAw Go.RowKit
set_option linter.unusedVariables false
set_option linter.unusedSimpArgs false
/-- The number of a key. -/
def ubitsP (k : Nat) : Nat := if 9223372036854775808 ≤ k then cleanN (k - 9223372036854775808) else cleanN (18446744073709551615 - k)
theorem andNotTop (k : Nat) (hk : k < 18446744073709551616) (h : 9223372036854775808 ≤ k) : IntKind.u64.wrap (andNotI .u64 (k : Int) 9223372036854775808) = ((k - 9223372036854775808 : Nat) : Int) := by
  have h2 : (~~~BitVec.ofInt 64 9223372036854775808) = BitVec.ofNat 64 (2 ^ 63 - 1) := by decide
  have h3 : andNotI .u64 (k : Int) 9223372036854775808 = ((k - 9223372036854775808 : Nat) : Int) := by
    unfold andNotI
    show (((BitVec.ofInt 64 (k : Int) &&& ~~~BitVec.ofInt 64 9223372036854775808).toNat : Nat) : Int) = _
    rw [h2, BitVec.toNat_and, BitVec.ofInt_natCast, BitVec.toNat_ofNat, BitVec.toNat_ofNat, Nat.mod_eq_of_lt hk, Nat.mod_eq_of_lt (by decide), Nat.and_two_pow_sub_one_eq_mod]
    omega
  rw [h3]
  exact wrapU64N _ (by omega)
set_option maxRecDepth 10000 in
theorem fbits_does (k : Nat) (hk : k < 18446744073709551616) (H : AHeap) : Does Tryz.prog 114 [du k] H (.ok (du (ubitsP k))) H := by
  unfold ubitsP
  refine Does.of_awp (hint := (fun _ => false)) Tryz.func114 (by kernel_rfl) rfl [2] (by kernel_rfl) (by decide) (by simp [Tryz.ntmps114]) ?_
  rw [Tryz.ntmps114]
  by_cases h : 9223372036854775808 ≤ k
  · rw [if_pos h]
    simp (implicitDefEqProofs := false) only [↓reduceIte, go_sem, Nat.reduceLT, reduceCtorEq, eq_self, show ((9223372036854775808 : Int) ≤ (k : Int)) = True from eq_true (by omega), andNotTop k hk h]
    refine KCall.ok (fclean_does _ (by omega) _) ?_
    simp (implicitDefEqProofs := false) only [↓reduceIte, go_sem, Nat.reduceLT, eq_self]
    refine AEnd.ret0 ?_
    simp (implicitDefEqProofs := false) only [↓reduceIte, go_sem, Nat.reduceLT, eq_self]
  · rw [if_neg h]
    simp (implicitDefEqProofs := false) only [↓reduceIte, go_sem, Nat.reduceLT, reduceCtorEq, eq_self, show ((9223372036854775808 : Int) ≤ (k : Int)) = False from eq_false (by omega), notU k hk]
    refine KCall.ok (fclean_does _ (by omega) _) ?_
    simp (implicitDefEqProofs := false) only [↓reduceIte, go_sem, Nat.reduceLT, eq_self]
    refine AEnd.ret0 ?_
    simp (implicitDefEqProofs := false) only [↓reduceIte, go_sem, Nat.reduceLT, eq_self]
theorem ubitsP_lt {k : Nat} (hk : k < 18446744073709551616) : ubitsP k < 18446744073709551616 := by
  unfold ubitsP
  split <;> exact cleanN_lt _ (by omega)
/-- What bytes come to, the greatest first. -/
def beN (l : List Nat) : Nat := l.foldl (fun a c => a * 256 + c) 0
theorem beN_snoc (l : List Nat) (c : Nat) : beN (l ++ [c]) = beN l * 256 + c := by simp [beN]
theorem beN_lt : ∀ (k : Nat) (l : List Nat), l.length = k → (∀ c ∈ l, c < 256) → beN l < 256 ^ k := by
  intro k
  induction k with
  | zero => intro l h _; rw [List.length_eq_zero_iff.1 h]; exact Nat.one_pos
  | succ k ih =>
    intro l h hc
    have hne : l ≠ [] := fun e => by rw [e] at h; simp at h
    rw [← List.dropLast_concat_getLast hne, beN_snoc, Nat.pow_succ]
    have h1 := ih l.dropLast (by simp [h]) fun c hm => hc c (List.dropLast_subset l hm)
    have h2 := hc _ (List.getLast_mem hne)
    omega
theorem shlOr (m c : Nat) (hc : c < 256) (hm : m * 256 + c < 18446744073709551616) : IntKind.u64.wrap (orI .u64 (IntKind.u64.wrap (shlI .u64 (m : Int) 8)) (c : Int)) = ((m * 256 + c : Nat) : Int) := by
  have e8 : (2 : Nat) ^ 8 = 256 := rfl
  have hm2 : m * 256 < 18446744073709551616 := Nat.lt_of_le_of_lt (Nat.le_add_right _ c) hm
  have hc2 : c < 18446744073709551616 := Nat.lt_of_le_of_lt (Nat.le_add_left c _) hm
  have h1 := shlN m 8 (by decide) hm2
  have p64 : (2 : Nat) ^ IntKind.u64.bits = 18446744073709551616 := by decide
  have h4 : m * 256 ||| c = m * 256 + c := by
    have := Nat.two_pow_add_eq_or_of_lt (i := 8) (b := c) (by rw [e8]; exact hc) m
    rw [e8, Nat.mul_comm] at this
    exact this.symm
  rw [e8] at h1
  rw [show ((8 : Nat) : Int) = 8 from rfl] at h1
  rw [h1, orI_nat .u64 (m * 256) c (Nat.lt_of_lt_of_eq hm2 p64.symm) (Nat.lt_of_lt_of_eq hc2 p64.symm), h4]
  exact wrapU64N _ hm
def zV : Val := ⟨0, 0, noS⟩
/-- A signed number of so many bits. -/
def toI (n : Nat) : Int := IntKind.i64.wrap (n : Int)
def floatV (b : List Nat) : Val × List Nat × Int :=
  if b.length < 8 then (zV, [], 3)
  else if keyN (ubitsP (beN (b.take 8))) = beN (b.take 8) then (⟨2, toI (ubitsP (beN (b.take 8))), noS⟩, b.drop 8, 0)
  else (zV, [], 4)
set_option maxRecDepth 10000 in
set_option maxHeartbeats 2000000 in
theorem float_does (b : List Nat) (hl : b.length ≤ 140737488351232) (hb : ∀ c ∈ b, c < 256) (H : AHeap) :
    Does Tryz.prog 73 [.d (.list false (bys b))] H (.ok (.tup [(floatV b).1.av, .d (.list false (bys (floatV b).2.1)), iA (floatV b).2.2])) H := by
  have hF : floatV b = if b.length < 8 then (zV, [], 3) else if keyN (ubitsP (beN (b.take 8))) = beN (b.take 8) then (⟨2, toI (ubitsP (beN (b.take 8))), noS⟩, b.drop 8, 0) else (zV, [], 4) := rfl
  by_cases h8 : b.length < 8
  · rw [hF, if_pos h8]
    refine Does.subT (cs := [zV.av, .d (.v (.slice none 0 0)), iA 3]) ?_ (.cons (.refl _) (.cons .nil (.cons (.refl _) .nil)))
    refine Does.of_awpC (hint := fun _ => false) Tryz.func73 (by kernel_rfl) rfl [.cell 2 25, .tmp 3, .tmp 4] (by kernel_rfl) (by simp [Tryz.ntmps73]) ?_
    rw [Tryz.ntmps73]
    simp (implicitDefEqProofs := false) only [↓reduceIte, go_sem, owrite, Nat.reduceAdd, Nat.reduceLT, Nat.reduceEqDiff, reduceCtorEq, eq_self, bys_len, show ((b.length : Int) < 8) = True from eq_true (by omega)]
    refine AEndC.ret ?_
    simp (implicitDefEqProofs := false) only [↓reduceIte, go_sem, oread, Nat.reduceAdd, Nat.reduceLT, Nat.reduceLeDiff, Nat.reduceEqDiff, eq_self, resAll, resAV, zV, noS]
  rw [if_neg h8] at hF
  have h8l : (b.take 8).length = 8 := by rw [List.length_take]; omega
  have hkl := beN_lt 8 (b.take 8) h8l fun c hc => hb c (List.mem_of_mem_take hc)
  have hkl' : beN (b.take 8) < 18446744073709551616 := hkl
  have hub := ubitsP_lt hkl'
  have hfold : ∀ k, k < 8 → ∃ c, (b.take 8)[k]? = some c ∧ c < 256 ∧ beN ((b.take 8).take (k + 1)) = beN ((b.take 8).take k) * 256 + c ∧ beN ((b.take 8).take k) * 256 + c < 18446744073709551616 := fun k hk => by
    have hk' : k < (b.take 8).length := by omega
    refine ⟨(b.take 8)[k], List.getElem?_eq_getElem hk', hb _ (List.mem_of_mem_take (List.getElem_mem hk')), ?_, ?_⟩
    · rw [List.take_succ_eq_append_getElem hk', beN_snoc]
    · rw [← beN_snoc, ← List.take_succ_eq_append_getElem hk']
      have := beN_lt (k + 1) ((b.take 8).take (k + 1)) (by rw [List.length_take]; omega) fun c hc => hb c (List.mem_of_mem_take (List.mem_of_mem_take hc))
      have h2 : 256 ^ (k + 1) ≤ 256 ^ 8 := Nat.pow_le_pow_right (by decide) (by omega)
      omega
  have ht8 : (b.take 8).take 8 = b.take 8 := List.take_of_length_le (by omega)
  have e8 : (bys b).take 8 = bys (b.take 8) := take_bys b 8
  have hg : ∀ (k c : Nat), (b.take 8)[k]? = some c → (bys (b.take 8))[k]? = some [D.v (.int .u8 (c : Int))] := fun k c h => by unfold bys; rw [List.getElem?_map, h]; rfl
  have hbt := bys_len (b.take 8)
  rw [h8l] at hbt
  have hd8 : (bys b).drop 8 = bys (b.drop 8) := drop_bys b 8
  have hdl : (b.drop 8).length = b.length - 8 := List.length_drop
  have hbtl : (bys b).take b.length = bys b := List.take_of_length_le (by rw [bys_len]; exact Nat.le_refl _)
  rw [hF]
  generalize b.take 8 = B at *
  by_cases hk : keyN (ubitsP (beN B)) = beN B
  · rw [if_pos hk]
    refine Does.of_awpC (hint := fun _ => false) Tryz.func73 (by kernel_rfl) rfl [.cell 2 25, .tmp 3, .tmp 4] (by kernel_rfl) (by simp [Tryz.ntmps73]) ?_
    rw [Tryz.ntmps73]
    simp (implicitDefEqProofs := false) only [↓reduceIte, go_sem, Nat.reduceLT, Int.reduceLE, Int.reduceToNat, reduceCtorEq, eq_self, bys_len, show ((b.length : Int) < 8) = False from eq_false (by omega), bys_one, e8, hbt, show ((8 : Int) ≤ (b.length : Int)) = True from eq_true (by omega)]
    refine awp_for (fun k s H' => H' = H ++ [.box 25 3 0 1 [iA 0, iA 0, sA ⟨#[]⟩]] ∧ s 0 = .d (.list false (bys b)) ∧ s 2 = .ptr H.length 0 0 0 ∧ s 5 = du (beN (B.take k)) ∧ s 14 = .d (.list false (bys B)) ∧ s 15 = iA 8 ∧ s 16 = iA k) 8 (by omega) (Weak.refl _ _) ?_ ?_ ?_
    · refine ⟨rfl, ?_⟩
      simp (implicitDefEqProofs := false) only [↓reduceIte, go_sem, Nat.reduceLT, Nat.reduceEqDiff, reduceCtorEq, eq_self]
      rfl
    · rintro k s H' hk8 hw ⟨rfl, t0, t2, t5, t14, t15, t16⟩
      have hk8' : ((k : Int) < 8) = True := eq_true (by omega)
      obtain ⟨c, g1, g2, g3, g4⟩ := hfold k hk8
      have hx := hg k c g1
      have hso := shlOr (beN (B.take k)) c g2 g4
      have wc : IntKind.u64.wrap (c : Int) = (c : Int) := wrapU64N _ (by omega)
      rw [g3]
      generalize beN (B.take k) = m at *
      generalize m * 256 + c = z at *
      simp (implicitDefEqProofs := false) only [↓reduceIte, go_sem, Nat.reduceLT, Nat.reduceEqDiff, Int.reduceLE, eq_self, t5, t14, t15, t16, hk8', hx, wc, hso]
      refine Rnd.same ⟨rfl, ?_⟩
      simp (implicitDefEqProofs := false) only [↓reduceIte, go_sem, Nat.reduceLT, Nat.reduceEqDiff, reduceCtorEq, eq_self, t0, t2, t14, t15, hw]
    · rintro s H' ⟨rfl, t0, t2, t5, t14, t15, t16⟩
      rw [ht8] at t5
      simp (implicitDefEqProofs := false) only [↓reduceIte, go_sem, Nat.reduceLT, Nat.reduceEqDiff, Int.reduceLT, eq_self, t5, t15, t16]
      refine KCall.ok (fbits_does _ hkl' _) ?_
      simp (implicitDefEqProofs := false) only [↓reduceIte, go_sem, Nat.reduceLT, eq_self]
      refine KCall.ok (fkey_does _ hub _) ?_
      simp (implicitDefEqProofs := false) only [↓reduceIte, go_sem, owrite, Nat.reduceAdd, Nat.reduceLT, Nat.reduceLeDiff, Nat.reduceEqDiff, Int.reduceLE, Int.reduceToNat, reduceCtorEq, eq_self, t0, t2, t5, eq_true (congrArg (fun n : Nat => (n : Int)) hk), bys_len, bys_one, hbtl, hd8, show ((8 : Int) ≤ (b.length : Int)) = True from eq_true (by omega)]
      refine ⟨by omega, by omega, ?_⟩
      refine AEndC.ret ?_
      simp (implicitDefEqProofs := false) only [↓reduceIte, go_sem, oread, Nat.reduceAdd, Nat.reduceLT, Nat.reduceLeDiff, Nat.reduceEqDiff, eq_self, resAll, resAV, t2, toI, noS, List.take_of_length_le (Nat.le_of_eq (bys_len (b.drop 8)))]
  · rw [if_neg hk]
    refine Does.subT (cs := [zV.av, .d (.v (.slice none 0 0)), iA 4]) ?_ (.cons (.refl _) (.cons .nil (.cons (.refl _) .nil)))
    refine Does.of_awpC (hint := fun _ => false) Tryz.func73 (by kernel_rfl) rfl [.cell 2 25, .tmp 3, .tmp 4] (by kernel_rfl) (by simp [Tryz.ntmps73]) ?_
    rw [Tryz.ntmps73]
    simp (implicitDefEqProofs := false) only [↓reduceIte, go_sem, Nat.reduceLT, Int.reduceLE, Int.reduceToNat, reduceCtorEq, eq_self, bys_len, show ((b.length : Int) < 8) = False from eq_false (by omega), bys_one, e8, hbt, show ((8 : Int) ≤ (b.length : Int)) = True from eq_true (by omega)]
    refine awp_for (fun k s H' => H' = H ++ [.box 25 3 0 1 [iA 0, iA 0, sA ⟨#[]⟩]] ∧ s 0 = .d (.list false (bys b)) ∧ s 2 = .ptr H.length 0 0 0 ∧ s 5 = du (beN (B.take k)) ∧ s 14 = .d (.list false (bys B)) ∧ s 15 = iA 8 ∧ s 16 = iA k) 8 (by omega) (Weak.refl _ _) ?_ ?_ ?_
    · refine ⟨rfl, ?_⟩
      simp (implicitDefEqProofs := false) only [↓reduceIte, go_sem, Nat.reduceLT, Nat.reduceEqDiff, reduceCtorEq, eq_self]
      rfl
    · rintro k s H' hk8 hw ⟨rfl, t0, t2, t5, t14, t15, t16⟩
      have hk8' : ((k : Int) < 8) = True := eq_true (by omega)
      obtain ⟨c, g1, g2, g3, g4⟩ := hfold k hk8
      have hx := hg k c g1
      have hso := shlOr (beN (B.take k)) c g2 g4
      have wc : IntKind.u64.wrap (c : Int) = (c : Int) := wrapU64N _ (by omega)
      rw [g3]
      generalize beN (B.take k) = m at *
      generalize m * 256 + c = z at *
      simp (implicitDefEqProofs := false) only [↓reduceIte, go_sem, Nat.reduceLT, Nat.reduceEqDiff, Int.reduceLE, eq_self, t5, t14, t15, t16, hk8', hx, wc, hso]
      refine Rnd.same ⟨rfl, ?_⟩
      simp (implicitDefEqProofs := false) only [↓reduceIte, go_sem, Nat.reduceLT, Nat.reduceEqDiff, reduceCtorEq, eq_self, t0, t2, t14, t15, hw]
    · rintro s H' ⟨rfl, t0, t2, t5, t14, t15, t16⟩
      rw [ht8] at t5
      simp (implicitDefEqProofs := false) only [↓reduceIte, go_sem, Nat.reduceLT, Nat.reduceEqDiff, Int.reduceLT, eq_self, t5, t15, t16]
      refine KCall.ok (fbits_does _ hkl' _) ?_
      simp (implicitDefEqProofs := false) only [↓reduceIte, go_sem, Nat.reduceLT, eq_self]
      refine KCall.ok (fkey_does _ hub _) ?_
      simp (implicitDefEqProofs := false) only [↓reduceIte, go_sem, owrite, Nat.reduceAdd, Nat.reduceLT, Nat.reduceEqDiff, eq_self, t2, t5, show (((keyN (ubitsP (beN B)) : Nat) : Int) = ((beN B : Nat) : Int)) = False from eq_false (by omega)]
      refine AEndC.ret ?_
      simp (implicitDefEqProofs := false) only [↓reduceIte, go_sem, oread, Nat.reduceAdd, Nat.reduceLT, Nat.reduceLeDiff, Nat.reduceEqDiff, eq_self, resAll, resAV, t2, zV, noS]
end Go.Proofs.YtmbagpfmfiegkaaGreat
namespace Go.Proofs.YtmbagpfmfiegkaaGreat
open Go.Proofs.YtmbagpfmfiegkaaGreatAw Go.RowKit
set_option linter.unusedVariables false
set_option linter.unusedSimpArgs false
def ofV (b : List Nat) (k : Int) : Val × List Nat × Int :=
  if k = 0 then (zV, b, 0)
  else if k = 1 then (if (getP b).2.2 = 0 then (num10 (zagP (getP b).1), b.drop (getP b).2.1, 0) else (zV, [], (getP b).2.2))
  else if k = 2 then floatV b
  else if k = 3 then (if (toTextP b 1024).2.2 = 0 then (⟨3, 0, bstr (toTextP b 1024).1⟩, (toTextP b 1024).2.1, 0) else (zV, [], (toTextP b 1024).2.2))
  else (zV, [], 1)
set_option maxRecDepth 10000 in
set_option maxHeartbeats 2000000 in
theorem valOf_does (b : List Nat) (k : Int) (hl : b.length ≤ 140737488351232) (hb : ∀ c ∈ b, c < 256) (H : AHeap) :
    Does Tryz.prog 45 [.d (.list false (bys b)), iA k] H (.ok (.tup [(ofV b k).1.av, .d (.list false (bys (ofV b k).2.1)), iA (ofV b k).2.2])) H := by
  have hO : ofV b k = if k = 0 then (zV, b, 0) else if k = 1 then (if (getP b).2.2 = 0 then (num10 (zagP (getP b).1), b.drop (getP b).2.1, 0) else (zV, [], (getP b).2.2)) else if k = 2 then floatV b else if k = 3 then (if (toTextP b 1024).2.2 = 0 then (⟨3, 0, bstr (toTextP b 1024).1⟩, (toTextP b 1024).2.1, 0) else (zV, [], (toTextP b 1024).2.2)) else (zV, [], 1) := rfl
  by_cases h0 : k = 0
  · rw [hO, if_pos h0]
    subst h0
    refine Does.of_awpC (hint := fun _ => false) Tryz.func45 (by kernel_rfl) rfl [.cell 4 25, .tmp 5, .tmp 6] (by kernel_rfl) (by simp [Tryz.ntmps45]) ?_
    rw [Tryz.ntmps45]
    simp (implicitDefEqProofs := false) only [↓reduceIte, go_sem, owrite, Nat.reduceAdd, Nat.reduceLT, Nat.reduceEqDiff, reduceCtorEq, eq_self, bys_one, bys_len]
    refine ⟨by omega, by omega, AEndC.ret ?_⟩
    simp (implicitDefEqProofs := false) only [↓reduceIte, go_sem, oread, Nat.reduceAdd, Nat.reduceLT, Nat.reduceLeDiff, Nat.reduceEqDiff, eq_self, resAll, resAV, zV, noS, List.take_of_length_le (Nat.le_of_eq (bys_len b))]
  rw [if_neg h0] at hO
  by_cases h1 : k = 1
  · rw [if_pos h1] at hO
    subst h1
    have hgl := getP_le b
    have hglt := getP_lt b
    have hgd := fun H => get_does b (by omega) hb H
    generalize getP b = g at *
    obtain ⟨n, j, e⟩ := g
    simp only at hgl hglt hO hgd
    by_cases he : e = 0
    · rw [if_pos he] at hO
      rw [hO]
      subst he
      refine Does.of_awpC (hint := fun _ => false) Tryz.func45 (by kernel_rfl) rfl [.cell 4 25, .tmp 5, .tmp 6] (by kernel_rfl) (by simp [Tryz.ntmps45]) ?_
      rw [Tryz.ntmps45]
      have hbt : (bys b).take b.length = bys b := List.take_of_length_le (by rw [bys_len]; exact Nat.le_refl _)
      have hdl : (b.drop j).length = b.length - j := List.length_drop
      simp (implicitDefEqProofs := false) only [↓reduceIte, go_sem, Nat.reduceLT, Nat.reduceEqDiff, Int.reduceEq, reduceCtorEq, eq_self]
      refine KCall.ok (hgd _) ?_
      simp (implicitDefEqProofs := false) only [↓reduceIte, go_sem, Nat.reduceLT, Nat.reduceEqDiff, eq_self]
      refine awp_drawN [false, false, false, false, false, false, false, true] 7 K.mixed (by kernel_rfl) (by kernel_rfl) (by kernel_rfl) ?_
      simp (implicitDefEqProofs := false) only [↓reduceIte, go_sem, Nat.reduceLT, Nat.reduceEqDiff, eq_self]
      refine KCall.ok (zag_does n hglt _) ?_
      simp (implicitDefEqProofs := false) only [↓reduceIte, go_sem, owrite, Nat.reduceAdd, Nat.reduceLT, Nat.reduceLeDiff, Nat.reduceEqDiff, reduceCtorEq, eq_self, bys_one, bys_len, hbt, drop_bys, hgl, show ((0 : Int) ≤ (j : Int)) = True from eq_true (by omega)]
      refine ⟨by omega, by omega, AEndC.ret ?_⟩
      simp (implicitDefEqProofs := false) only [↓reduceIte, go_sem, oread, Nat.reduceAdd, Nat.reduceLT, Nat.reduceLeDiff, Nat.reduceEqDiff, eq_self, resAll, resAV, num10, noS, List.take_of_length_le (Nat.le_of_eq (bys_len (b.drop j)))]
    · rw [if_neg he] at hO
      rw [hO]
      refine Does.subT (cs := [zV.av, .d (.v (.slice none 0 0)), iA e]) ?_ (.cons (.refl _) (.cons .nil (.cons (.refl _) .nil)))
      refine Does.of_awpC (hint := fun _ => false) Tryz.func45 (by kernel_rfl) rfl [.cell 4 25, .tmp 5, .tmp 6] (by kernel_rfl) (by simp [Tryz.ntmps45]) ?_
      rw [Tryz.ntmps45]
      simp (implicitDefEqProofs := false) only [↓reduceIte, go_sem, Nat.reduceLT, Nat.reduceEqDiff, Int.reduceEq, reduceCtorEq, eq_self]
      refine KCall.ok (hgd _) ?_
      simp (implicitDefEqProofs := false) only [↓reduceIte, go_sem, owrite, Nat.reduceAdd, Nat.reduceLT, Nat.reduceEqDiff, eq_self, he]
      refine AEndC.ret ?_
      simp (implicitDefEqProofs := false) only [↓reduceIte, go_sem, oread, Nat.reduceAdd, Nat.reduceLT, Nat.reduceLeDiff, Nat.reduceEqDiff, eq_self, resAll, resAV, zV, noS]
  rw [if_neg h1] at hO
  by_cases h2 : k = 2
  · rw [if_pos h2] at hO
    subst h2
    rw [hO]
    have hf := fun H => float_does b hl hb H
    generalize floatV b = t at *
    obtain ⟨v, r, e⟩ := t
    refine Does.of_awpC (hint := fun _ => false) Tryz.func45 (by kernel_rfl) rfl [.cell 4 25, .tmp 5, .tmp 6] (by kernel_rfl) (by simp [Tryz.ntmps45]) ?_
    rw [Tryz.ntmps45]
    simp (implicitDefEqProofs := false) only [↓reduceIte, go_sem, Nat.reduceLT, Nat.reduceEqDiff, Int.reduceEq, reduceCtorEq, eq_self]
    refine KCall.ok (hf _) ?_
    simp (implicitDefEqProofs := false) only [↓reduceIte, go_sem, owrite, Nat.reduceAdd, Nat.reduceLT, Nat.reduceEqDiff, eq_self]
    refine AEndC.ret ?_
    simp (implicitDefEqProofs := false) only [↓reduceIte, go_sem, oread, Nat.reduceAdd, Nat.reduceLT, Nat.reduceLeDiff, Nat.reduceEqDiff, eq_self, resAll, resAV]
  rw [if_neg h2] at hO
  by_cases h3 : k = 3
  · rw [if_pos h3] at hO
    subst h3
    have hf := fun H => toText_does b 1024 (by decide) hl hb H
    generalize toTextP b 1024 = t at *
    obtain ⟨v, r, e⟩ := t
    simp only at hO hf
    by_cases he : e = 0
    · rw [if_pos he] at hO
      rw [hO]
      subst he
      refine Does.of_awpC (hint := fun _ => false) Tryz.func45 (by kernel_rfl) rfl [.cell 4 25, .tmp 5, .tmp 6] (by kernel_rfl) (by simp [Tryz.ntmps45]) ?_
      rw [Tryz.ntmps45]
      simp (implicitDefEqProofs := false) only [↓reduceIte, go_sem, Nat.reduceLT, Nat.reduceEqDiff, Int.reduceEq, reduceCtorEq, eq_self]
      refine KCall.ok (hf _) ?_
      simp (implicitDefEqProofs := false) only [↓reduceIte, go_sem, owrite, Nat.reduceAdd, Nat.reduceLT, Nat.reduceLeDiff, Nat.reduceEqDiff, eq_self]
      refine AEndC.ret ?_
      simp (implicitDefEqProofs := false) only [↓reduceIte, go_sem, oread, Nat.reduceAdd, Nat.reduceLT, Nat.reduceLeDiff, Nat.reduceEqDiff, eq_self, resAll, resAV]
    · rw [if_neg he] at hO
      rw [hO]
      refine Does.subT (cs := [zV.av, .d (.v (.slice none 0 0)), iA e]) ?_ (.cons (.refl _) (.cons .nil (.cons (.refl _) .nil)))
      refine Does.of_awpC (hint := fun _ => false) Tryz.func45 (by kernel_rfl) rfl [.cell 4 25, .tmp 5, .tmp 6] (by kernel_rfl) (by simp [Tryz.ntmps45]) ?_
      rw [Tryz.ntmps45]
      simp (implicitDefEqProofs := false) only [↓reduceIte, go_sem, Nat.reduceLT, Nat.reduceEqDiff, Int.reduceEq, reduceCtorEq, eq_self]
      refine KCall.ok (hf _) ?_
      simp (implicitDefEqProofs := false) only [↓reduceIte, go_sem, owrite, Nat.reduceAdd, Nat.reduceLT, Nat.reduceEqDiff, eq_self, he]
      refine AEndC.ret ?_
      simp (implicitDefEqProofs := false) only [↓reduceIte, go_sem, oread, Nat.reduceAdd, Nat.reduceLT, Nat.reduceLeDiff, Nat.reduceEqDiff, eq_self, resAll, resAV, zV, noS]
  rw [if_neg h3] at hO
  rw [hO]
  refine Does.subT (cs := [zV.av, .d (.v (.slice none 0 0)), iA 1]) ?_ (.cons (.refl _) (.cons .nil (.cons (.refl _) .nil)))
  refine Does.of_awpC (hint := fun _ => false) Tryz.func45 (by kernel_rfl) rfl [.cell 4 25, .tmp 5, .tmp 6] (by kernel_rfl) (by simp [Tryz.ntmps45]) ?_
  rw [Tryz.ntmps45]
  simp (implicitDefEqProofs := false) only [↓reduceIte, go_sem, owrite, Nat.reduceAdd, Nat.reduceLT, Nat.reduceEqDiff, eq_self, h0, h1, h2, h3]
  refine AEndC.ret ?_
  simp (implicitDefEqProofs := false) only [↓reduceIte, go_sem, oread, Nat.reduceAdd, Nat.reduceLT, Nat.reduceLeDiff, Nat.reduceEqDiff, eq_self, resAll, resAV, zV, noS]
end Go.Proofs.YtmbagpfmfiegkaaGreat
namespace Go.Proofs.YtmbagpfmfiegkaaGreat
open Go.Proofs.YtmbagpfmfiegkaaGreatAw Go.RowKit
set_option linter.unusedVariables false
set_option linter.unusedSimpArgs false
/-- So many values one behind the other. -/
def readN (k : Int) : Nat → List Nat → List Val × List Nat × Int
  | 0, b => ([], b, 0)
  | n + 1, b => if (ofV b k).2.2 = 0 then (if (readN k n (ofV b k).2.1).2.2 = 0 then ((ofV b k).1 :: (readN k n (ofV b k).2.1).1, (readN k n (ofV b k).2.1).2.1, 0) else ([], [], (readN k n (ofV b k).2.1).2.2)) else ([], [], (ofV b k).2.2)
def joinR (L : List Val) (q : List Val × List Nat × Int) : List Val × List Nat × Int := if q.2.2 = 0 then (L ++ q.1, q.2.1, 0) else ([], [], q.2.2)
theorem joinR_nil (k : Int) (n : Nat) (b : List Nat) : joinR [] (readN k n b) = readN k n b := by
  cases n with
  | zero => simp [joinR, readN]
  | succ n =>
    unfold joinR readN
    split
    · split
      · rfl
      · rename_i h; simp []
    · rename_i h; simp []
theorem joinR_step {k : Int} {n : Nat} {b r : List Nat} {v : Val} (L : List Val) (h : ofV b k = (v, r, 0)) : joinR L (readN k (n + 1) b) = joinR (L ++ [v]) (readN k n r) := by
  unfold joinR
  rw [show readN k (n + 1) b = if (ofV b k).2.2 = 0 then (if (readN k n (ofV b k).2.1).2.2 = 0 then ((ofV b k).1 :: (readN k n (ofV b k).2.1).1, (readN k n (ofV b k).2.1).2.1, 0) else ([], [], (readN k n (ofV b k).2.1).2.2)) else ([], [], (ofV b k).2.2) from rfl, h]
  simp only [if_true]
  by_cases h2 : (readN k n r).2.2 = 0
  · simp [h2]
  · simp [h2]
theorem joinR_stop {k : Int} {n : Nat} {b r : List Nat} {v : Val} {e : Int} (L : List Val) (h : ofV b k = (v, r, e)) (he : e ≠ 0) : joinR L (readN k (n + 1) b) = ([], [], e) := by
  unfold joinR
  rw [show readN k (n + 1) b = if (ofV b k).2.2 = 0 then (if (readN k n (ofV b k).2.1).2.2 = 0 then ((ofV b k).1 :: (readN k n (ofV b k).2.1).1, (readN k n (ofV b k).2.1).2.1, 0) else ([], [], (readN k n (ofV b k).2.1).2.2)) else ([], [], (ofV b k).2.2) from rfl, h]
  simp [he]
theorem ofV_suffix (b : List Nat) (k : Int) : ∃ j, (ofV b k).2.1 = b.drop j := by
  have nil : ∃ j, ([] : List Nat) = b.drop j := ⟨b.length, by simp⟩
  unfold ofV
  split
  · exact ⟨0, rfl⟩
  split
  · split
    · exact ⟨_, rfl⟩
    · exact nil
  split
  · unfold floatV
    split
    · exact nil
    · split
      · exact ⟨8, rfl⟩
      · exact nil
  split
  · split
    · unfold toTextP
      obtain ⟨j, h⟩ := numP_suffix 10 0 b
      rcases hn : numP 10 0 b with ⟨_ | n, r⟩
      · exact nil
      · rw [hn] at h
        simp only at h ⊢
        split
        · exact nil
        · split
          · exact nil
          · exact ⟨j + n, by rw [h, List.drop_drop]⟩
    · exact nil
  · exact nil
/-- Each word is below the next. -/
def RiseN (W : List Val) : Prop := ∀ i x y, W[i]? = some x → W[i + 1]? = some y → cmpV x y < 0
noncomputable instance RiseN.dec (W : List Val) : Decidable (RiseN W) := Classical.propDecidable _
noncomputable def readR (k : Int) (n : Nat) (b : List Nat) : List Val × List Nat × Int := if (readN k n b).2.2 = 0 then (if RiseN (readN k n b).1 then readN k n b else ([], [], 4)) else ([], [], (readN k n b).2.2)
set_option maxRecDepth 10000 in
set_option maxHeartbeats 2000000 in
theorem dread_does' (b : List Nat) (m : Nat) (k : Int) (hm : m ≤ 4096) (hl : b.length ≤ 140737488351232) (hb : ∀ c ∈ b, c < 256) (H : AHeap) :
    Does Tryz.prog 156 [.d (.list false (bys b)), iA m, iA k] H (.ok (if (readR k m b).2.2 = 0 then .tup [.d (.list false ((readR k m b).1.map Val.enc)), .d (.list false (bys (readR k m b).2.1)), iA 0] else .tup [.d (.v (.slice none 0 0)), .d (.v (.slice none 0 0)), iA (readR k m b).2.2])) H := by
  have hR : readR k m b = if (readN k m b).2.2 = 0 then (if RiseN (readN k m b).1 then readN k m b else ([], [], 4)) else ([], [], (readN k m b).2.2) := by unfold readR; rfl
  have hj0 := joinR_nil k m b
  refine Does.of_awp (hint := (fun _ => false)) Tryz.func156 (by kernel_rfl) rfl [6, 7, 8] (by kernel_rfl) (by decide) (by simp [Tryz.ntmps156]) ?_
  rw [Tryz.ntmps156]
  simp (implicitDefEqProofs := false) only [↓reduceIte, go_sem, Nat.reduceEqDiff]
  refine awp_for (fun j s H' => ∃ L c, H' = H ++ [.arr 25 3 j (L.map Val.enc)] ∧ L.length = j ∧ c.length ≤ b.length ∧ (∀ x ∈ c, x < 256) ∧ joinR L (readN k (m - j) c) = readN k m b ∧ s 0 = .d (.list false (bys c)) ∧ s 2 = iA k ∧ s 9 = .sl H.length j 0 j ∧ s 14 = iA m ∧ s 15 = iA j) m (by omega) (Weak.virt1 _ _ 9 25 3 (by decide) (by simp (implicitDefEqProofs := false) only [↓reduceIte, go_sem, Nat.reduceLT, Nat.reduceEqDiff, eq_self]) _) ?_ ?_ ?_
  · refine ⟨[], b, rfl, rfl, Nat.le_refl _, hb, by simpa using hj0, ?_⟩
    simp (implicitDefEqProofs := false) only [↓reduceIte, go_sem, Nat.reduceLT, Nat.reduceEqDiff, reduceCtorEq, eq_self]
  · rintro j s H' hj hw ⟨L, c, rfl, hL, hcl, hcb, hjoin, t0, t2, t9, t14, t15⟩
    have hod := fun H => valOf_does c k (by omega) hcb H
    obtain ⟨p, hp⟩ := ofV_suffix c k
    obtain ⟨q, hq⟩ : ∃ q, m - j = q + 1 := ⟨m - j - 1, by omega⟩
    have hst := fun v r h => joinR_step (k := k) (n := q) (b := c) (r := r) (v := v) L h
    have hsp := fun v r e h he => joinR_stop (k := k) (n := q) (b := c) (r := r) (v := v) (e := e) L h he
    rw [hq] at hjoin
    rcases hv : ofV c k with ⟨v, r, e⟩
    simp only [hv] at hod hp hst hsp
    simp (implicitDefEqProofs := false) only [↓reduceIte, go_sem, Nat.reduceLT, Nat.reduceEqDiff, reduceCtorEq, eq_self, t0, t2, t14, t15, hj]
    refine KCall.ok (hod _) ?_
    by_cases he : e = 0
    · subst he
      have hsn : L.map Val.enc ++ [[D.v (.int .i64 v.kind), D.v (.int .i64 v.i), D.v (.string v.s)]] = (L ++ [v]).map Val.enc := by simp [Val.enc]
      simp (implicitDefEqProofs := false) only [↓reduceIte, go_sem, oread, owrite, Nat.reduceAdd, Nat.reduceLT, Nat.reduceLeDiff, Nat.reduceEqDiff, reduceCtorEq, eq_self, t9, List.length_map, hL, hsn]
      refine ⟨by omega, by omega, ?_⟩
      simp (implicitDefEqProofs := false) only [↓reduceIte, go_sem, Nat.reduceLT, eq_self, t15]
      refine Rnd.cut [.arr 25 3 (j + 1) ((L ++ [v]).map Val.enc)] [vbox v] 1 rfl rfl (by simp (implicitDefEqProofs := false) only [go_sem, eq_self]) ?_
      refine ⟨L ++ [v], r, rfl, by simp [hL], ?_, ?_, ?_, ?_⟩
      · rw [hp, List.length_drop]; omega
      · intro x hx
        rw [hp] at hx
        exact hcb x (List.mem_of_mem_drop hx)
      · rw [show m - (j + 1) = q by omega, ← hst v r rfl, hjoin]
      · simp (implicitDefEqProofs := false) only [↓reduceIte, go_sem, Nat.reduceLT, Nat.reduceEqDiff, reduceCtorEq, eq_self, t2, t14, hw]
    · simp (implicitDefEqProofs := false) only [↓reduceIte, go_sem, owrite, Nat.reduceAdd, Nat.reduceLT, Nat.reduceEqDiff, eq_self, he]
      refine AEnd.ret ?_
      have hN : readN k m b = ([], [], e) := by rw [← hjoin]; exact hsp v r e rfl he
      rw [hR, hN]
      simp (implicitDefEqProofs := false) only [↓reduceIte, go_sem, Nat.reduceLT, Nat.reduceEqDiff, eq_self, he]
  · rintro s H' ⟨L, c, rfl, hL, hcl, hcb, hjoin, t0, t2, t9, t14, t15⟩
    have hN : readN k m b = (L, c, 0) := by rw [← hjoin, Nat.sub_self]; simp [joinR, readN]
    rw [hN] at hR
    simp only [if_true] at hR
    rw [hR]
    clear hR hN hjoin hj0
    simp (implicitDefEqProofs := false) only [↓reduceIte, go_sem, Nat.reduceLT, eq_self, t14, t15]
    refine awp_for3 (fun i s H' => H' = H ++ [.arr 25 3 m (L.map Val.enc)] ∧ (∀ j x y, j < i → L[j]? = some x → L[j + 1]? = some y → cmpV x y < 0) ∧ s 0 = .d (.list false (bys c)) ∧ s 9 = .sl H.length m 0 m ∧ s 13 = iA ((i + 1 : Nat) : Int)) (m - 1) (by omega) (Weak.refl _ _) ?_ ?_ ?_
    · refine ⟨rfl, fun j x y hj => by omega, ?_⟩
      simp (implicitDefEqProofs := false) only [↓reduceIte, go_sem, Nat.reduceLT, Nat.reduceEqDiff, reduceCtorEq, eq_self, t0, t9]
    · rintro i s H' hi hw ⟨rfl, hri, t0, t9, t13⟩
      have h1 := List.getElem?_eq_getElem (show i < L.length by omega)
      have h2 := List.getElem?_eq_getElem (show i + 1 < L.length by omega)
      generalize L[i] = x at h1
      generalize L[i + 1] = y at h2
      have hw1 : IntKind.i64.wrap (((i + 1 : Nat) : Int) - 1) = (i : Int) := by rw [wrap64_in _ (by omega) (by omega)]; omega
      have hw2 : IntKind.i64.wrap (((i + 1 : Nat) : Int) + 1) = ((i + 1 + 1 : Nat) : Int) := by rw [wrap64_in _ (by omega) (by omega)]; omega
      have g0 : ((i + 1 : Nat) : Int) < (m : Int) := by omega
      have g1 : ((i : Nat) : Int) < (m : Int) := by omega
      generalize hI : i + 1 = I at *
      simp (implicitDefEqProofs := false) only [↓reduceIte, go_sem, Nat.reduceLT, Nat.reduceEqDiff, eq_self, t9, t13, show ((I : Int) < (m : Int)) = True from eq_true g0]
      refine awp_draw K.mixed (by kernel_rfl) ?_
      simp (implicitDefEqProofs := false) only [↓reduceIte, go_sem, oread, Nat.reduceAdd, Nat.reduceLT, Nat.reduceEqDiff, eq_self, t9, t13, hw1, h1, h2, show I < m by omega, show i < m by omega, Val.enc]
      refine KCall.ok (vcmp_does x y _) ?_
      by_cases hc : cmpV x y < 0
      · simp (implicitDefEqProofs := false) only [↓reduceIte, go_sem, Nat.reduceLT, Nat.reduceEqDiff, eq_self, show (0 ≤ cmpV x y) = False from eq_false (by omega), t13, hw2]
        refine Rnd.same ⟨rfl, ?_, ?_⟩
        · intro j a b hj
          rcases Nat.lt_or_ge j i with h | h
          · exact hri j a b h
          · obtain rfl : j = i := by omega
            rw [hI, h1, h2]
            rintro ⟨rfl⟩ ⟨rfl⟩
            exact hc
        · simp (implicitDefEqProofs := false) only [↓reduceIte, go_sem, Nat.reduceLT, Nat.reduceEqDiff, reduceCtorEq, eq_self, t0, t9]
      · simp (implicitDefEqProofs := false) only [↓reduceIte, go_sem, Nat.reduceLT, eq_self, show (0 ≤ cmpV x y) = True from eq_true (by omega)]
        refine AEnd.ret ?_
        have hno : ¬ RiseN L := fun h => hc (h i x y h1 (by rw [hI]; exact h2))
        rw [if_neg hno]
        simp (implicitDefEqProofs := false) only [↓reduceIte, go_sem, Nat.reduceLT, Nat.reduceEqDiff, Int.reduceEq, eq_self]
    · rintro s H' ⟨rfl, hri, t0, t9, t13⟩
      have hyes : RiseN L := fun i x y hx hy => hri i x y (by have := (List.getElem?_eq_some_iff.1 hy).1; omega) hx hy
      have g0 : ¬ ((m - 1 : Nat) : Int) + 1 < (m : Int) := by omega
      rw [if_pos hyes]
      simp (implicitDefEqProofs := false) only [↓reduceIte, go_sem, Nat.reduceLT, Nat.reduceEqDiff, reduceCtorEq, eq_self, t0, t9, t13, eq_false g0]
      refine AEnd.ret ?_
      simp (implicitDefEqProofs := false) only [↓reduceIte, go_sem, Nat.reduceLT, Nat.reduceEqDiff, eq_self, List.take_of_length_le (show (L.map Val.enc).length ≤ m by rw [List.length_map]; omega)]
theorem dread_does (b : List Nat) (m : Nat) (k : Int) (hm : m ≤ 4096) (hl : b.length ≤ 140737488351232) (hb : ∀ c ∈ b, c < 256) (H : AHeap) :
    Does Tryz.prog 156 [.d (.list false (bys b)), iA m, iA k] H (.ok (.tup [.d (.list false ((readR k m b).1.map Val.enc)), .d (.list false (bys (readR k m b).2.1)), iA (readR k m b).2.2])) H := by
  have h := dread_does' b m k hm hl hb H
  by_cases he : (readR k m b).2.2 = 0
  · rw [if_pos he] at h
    rw [he]
    exact h
  · rw [if_neg he] at h
    have hz : readR k m b = ([], [], (readR k m b).2.2) := by
      unfold readR at he ⊢
      split
      · rename_i h1
        rw [if_pos h1] at he
        split
        · rename_i h2
          rw [if_pos h2] at he
          exact absurd h1 he
        · rfl
      · rfl
    rw [hz]
    exact Does.subT h (.cons .nil (.cons .nil (.cons (.refl _) .nil)))
end Go.Proofs.YtmbagpfmfiegkaaGreat
namespace Go.Proofs.YtmbagpfmfiegkaaGreat
open Go.Proofs.YtmbagpfmfiegkaaGreatAw Go.RowKit
set_option linter.unusedVariables false
set_option linter.unusedSimpArgs false
def plainL (l : List Val) (k : Int) : List Nat := if plainP l k = 0 then wbytes l else []
theorem wbytes_le {l : List Val} (hok : ∀ v ∈ l, I64 v.i) (hm : ∀ v ∈ l, mayV v = true) : ∀ k, k ≤ l.length → (wbytes (l.take k)).length ≤ k * 1035 := by
  intro k
  induction k with
  | zero => intro _; simp [wbytes]
  | succ k ih =>
    intro hk
    have hk' : k < l.length := by omega
    rw [List.take_succ_eq_append_getElem hk', wbytes_snoc, List.length_append]
    have h1 := ih (by omega)
    have h2 := valB_len (hok _ (List.getElem_mem hk')) (hm _ (List.getElem_mem hk'))
    omega
set_option maxRecDepth 10000 in
set_option maxHeartbeats 2000000 in
theorem plainBytes_does (l : List Val) (k : Int) (hok : ∀ v ∈ l, I64 v.i) (H : AHeap) (hl : l.length ≤ 1000000000000) :
    Does Tryz.prog 76 [.d (.list false (l.map Val.enc)), iA k] H (.ok (.tup [.d (.list false (bys (plainL l k))), iA (plainP l k)])) H := by
  by_cases hp : plainP l k = 0
  · rw [show plainL l k = wbytes l from if_pos hp]
    have hmay := plainP_may hp
    have h4 := plainP_len hp
    have hWb := wbytes_le hok hmay
    refine Does.of_awp (hint := (fun _ => false)) Tryz.func76 (by kernel_rfl) rfl [4, 5] (by kernel_rfl) (by decide) (by simp [Tryz.ntmps76]) ?_
    rw [Tryz.ntmps76]
    simp (implicitDefEqProofs := false) only [↓reduceIte, go_sem, Nat.reduceLT, Nat.reduceEqDiff, reduceCtorEq, eq_self]
    refine KCall.ok (plain_does l k false _ (by omega)) ?_
    rw [hp]
    simp (implicitDefEqProofs := false) only [↓reduceIte, go_sem, Nat.reduceLT, reduceCtorEq, eq_self]
    refine awp_for (fun j s H' => ∃ ver, H' = H ++ [.arr 5 1 ver (bys (wbytes (l.take j)))] ∧ s 7 = .sl H.length ver 0 (wbytes (l.take j)).length ∧ s 18 = .d (.list false (l.map Val.enc)) ∧ s 19 = iA l.length ∧ s 20 = iA j) l.length (by omega) (Weak.virt1 _ _ 7 5 1 (by decide) (by simp (implicitDefEqProofs := false) only [↓reduceIte, go_sem, Nat.reduceLT, Nat.reduceEqDiff, eq_self]) _) ?_ ?_ ?_
    · refine ⟨0, rfl, ?_⟩
      simp (implicitDefEqProofs := false) only [↓reduceIte, go_sem, Nat.reduceLT, Nat.reduceEqDiff, eq_self]
      rfl
    · rintro j s H' hj hw ⟨ver, rfl, t7, t18, t19, t20⟩
      have hx := List.getElem?_eq_getElem hj
      have hm := List.getElem_mem hj
      have hb := hWb j (by omega)
      have hvl := valB_len (hok _ hm) (hmay _ hm)
      have e1 : wbytes (l.take (j + 1)) = wbytes (l.take j) ++ valB l[j] := by rw [List.take_succ_eq_append_getElem hj, wbytes_snoc]
      have hvd := fun H => valBytes_does l[j] (hok _ hm) (hmay _ hm) H
      rw [e1]
      generalize wbytes (l.take j) = B at *
      generalize l[j] = w at *
      simp (implicitDefEqProofs := false) only [↓reduceIte, go_sem, oread, owrite, Nat.reduceAdd, Nat.reduceLT, Nat.reduceEqDiff, eq_self, t18, t19, t20, hj, hx, Val.enc]
      refine KCall.ok (hvd _) ?_
      simp (implicitDefEqProofs := false) only [↓reduceIte, go_sem, Nat.reduceLT, Nat.reduceEqDiff, eq_self, t7, bys_one, bys_len, bys_app]
      refine ⟨by omega, by omega, ?_⟩
      simp (implicitDefEqProofs := false) only [↓reduceIte, go_sem, Nat.reduceLT, eq_self, t20]
      refine Rnd.cut [.arr 5 1 (ver + 1) (bys (B ++ valB w))] [.box 25 3 0 1 [iA w.kind, iA w.i, sA w.s]] 1 rfl rfl (by simp (implicitDefEqProofs := false) only [go_sem, eq_self]) ?_
      refine ⟨ver + 1, rfl, ?_⟩
      simp (implicitDefEqProofs := false) only [↓reduceIte, go_sem, Nat.reduceLT, Nat.reduceEqDiff, eq_self, t18, t19, hw]
    · rintro s H' ⟨ver, rfl, t7, t18, t19, t20⟩
      rw [show l.take l.length = l from List.take_length] at *
      simp (implicitDefEqProofs := false) only [↓reduceIte, go_sem, Nat.reduceLT, Nat.reduceEqDiff, eq_self, t7, t19, t20]
      refine AEnd.ret ?_
      simp (implicitDefEqProofs := false) only [↓reduceIte, go_sem, Nat.reduceLT, Nat.reduceEqDiff, eq_self, List.take_of_length_le (Nat.le_of_eq (bys_len (wbytes l)))]
  · rw [show plainL l k = [] from if_neg hp]
    refine Does.subT (cs := [.d (.v (.slice none 0 0)), iA (plainP l k)]) ?_ (.cons .nil (.cons (.refl _) .nil))
    refine Does.of_awp (hint := (fun _ => false)) Tryz.func76 (by kernel_rfl) rfl [4, 5] (by kernel_rfl) (by decide) (by simp [Tryz.ntmps76]) ?_
    rw [Tryz.ntmps76]
    simp (implicitDefEqProofs := false) only [↓reduceIte, go_sem, Nat.reduceLT, Nat.reduceEqDiff, reduceCtorEq, eq_self]
    refine KCall.ok (plain_does l k false _ (by omega)) ?_
    simp (implicitDefEqProofs := false) only [↓reduceIte, go_sem, Nat.reduceLT, Nat.reduceEqDiff, eq_self, hp]
    refine AEnd.ret0 ?_
    simp (implicitDefEqProofs := false) only [↓reduceIte, go_sem, Nat.reduceLT, Nat.reduceEqDiff, eq_self]
def bB (b : List Nat) : AObj := .box 22 1 0 1 [.d (.list false (bys b))]
def kB (k : Int) : AObj := .box 3 1 0 1 [iA k]
set_option maxRecDepth 10000 in
theorem ofNext_does (b : List Nat) (k : Int) (hl : b.length ≤ 140737488351232) (hb : ∀ c ∈ b, c < 256) (G : AHeap) (ib ik : Nat) (h1 : G[ib]? = some (bB b)) (h2 : G[ik]? = some (kB k)) :
    Does Tryz.prog 115 [.ptr ib 0 0 0, .ptr ik 0 0 0] G (.ok (.tup [(ofV b k).1.av, iA (ofV b k).2.2])) (G.set ib (bB (ofV b k).2.1)) := by
  have hd := fun H => valOf_does b k hl hb H
  generalize ofV b k = t at *
  obtain ⟨v, r, e⟩ := t
  simp only at hd ⊢
  have l1 := len_of_get h1
  have l2 := len_of_get h2
  unfold bB kB at *
  refine Does.of_awpC (hint := fun _ => false) Tryz.func115 (by kernel_rfl) rfl [.cell 2 25, .tmp 3] (by kernel_rfl) (by simp [Tryz.ntmps115]) ?_
  rw [Tryz.ntmps115]
  simp (implicitDefEqProofs := false) only [↓reduceIte, go_sem, oread, Nat.reduceLT, Nat.reduceEqDiff, reduceCtorEq, eq_self, h1, h2, List.getElem?_append_left l1, List.getElem?_append_left l2]
  refine KCall.ok (hd _) ?_
  have hset : ∀ x y : AObj, (G ++ [x]).set ib y = G.set ib y ++ [x] := fun x y => List.set_append_left ib y l1
  have hget : ∀ (x y : AObj) , (G.set ib y ++ [x])[G.length]? = some x := fun x y => by rw [List.getElem?_append_right (by rw [List.length_set]; exact Nat.le_refl _), List.length_set, Nat.sub_self]; rfl
  have hst2 : ∀ (x y z : AObj), (G.set ib y ++ [x]).set G.length z = G.set ib y ++ [z] := fun x y z => by rw [List.set_append_right G.length z (by rw [List.length_set]; exact Nat.le_refl _), List.length_set, Nat.sub_self]; rfl
  simp (implicitDefEqProofs := false) only [↓reduceIte, go_sem, oread, owrite, Nat.reduceAdd, Nat.reduceLT, Nat.reduceEqDiff, reduceCtorEq, eq_self, h1, List.getElem?_append_left l1, hset, hget, hst2]
  refine AEndC.retSet (by simp (implicitDefEqProofs := false) only [go_sem, eq_self]) ?_
  simp (implicitDefEqProofs := false) only [↓reduceIte, go_sem, oread, Nat.reduceAdd, Nat.reduceLT, Nat.reduceLeDiff, Nat.reduceEqDiff, eq_self, resAll, resAV, hget]
def plainOfP (b : List Nat) (n k : Int) : List Val × Int :=
  if kindsP k = false then ([], 1)
  else if n < 0 then ([], 2)
  else if 4096 < n then ([], 2)
  else if (readN k n.toNat b).2.2 ≠ 0 then ([], (readN k n.toNat b).2.2)
  else if (readN k n.toNat b).2.1 ≠ [] then ([], 4)
  else ((readN k n.toNat b).1, 0)
set_option maxRecDepth 10000 in
set_option maxHeartbeats 2000000 in
theorem plainOf_does (b : List Nat) (n k : Int) (hl : b.length ≤ 140737488351232) (hb : ∀ c ∈ b, c < 256) (H : AHeap) :
    Does Tryz.prog 78 [.d (.list false (bys b)), iA n, iA k] H (.ok (.tup [.d (.list false ((plainOfP b n k).1.map Val.enc)), iA (plainOfP b n k).2])) H := by
  by_cases hk : kindsP k = false
  · rw [show plainOfP b n k = ([], 1) from if_pos hk]
    refine Does.subT (cs := [.d (.v (.slice none 0 0)), iA 1]) ?_ (.cons .nil (.cons (.refl _) .nil))
    refine Does.of_awp (hint := (fun _ => false)) Tryz.func78 (by kernel_rfl) rfl [6, 7] (by kernel_rfl) (by decide) (by simp [Tryz.ntmps78]) ?_
    rw [Tryz.ntmps78]
    simp (implicitDefEqProofs := false) only [↓reduceIte, go_sem, oread, Nat.reduceLT, Nat.reduceEqDiff, eq_self]
    refine KCall.ok (kinds_does k _) ?_
    simp (implicitDefEqProofs := false) only [↓reduceIte, go_sem, Nat.reduceLT, eq_self, hk]
    refine AEnd.ret ?_
    simp (implicitDefEqProofs := false) only [↓reduceIte, go_sem, Nat.reduceLT, Nat.reduceEqDiff, eq_self]
  rw [show plainOfP b n k = _ from if_neg hk]
  have hk1 : kindsP k = true := by simpa using hk
  by_cases h1 : n < 0
  · rw [if_pos h1]
    refine Does.subT (cs := [.d (.v (.slice none 0 0)), iA 2]) ?_ (.cons .nil (.cons (.refl _) .nil))
    refine Does.of_awp (hint := (fun _ => false)) Tryz.func78 (by kernel_rfl) rfl [6, 7] (by kernel_rfl) (by decide) (by simp [Tryz.ntmps78]) ?_
    rw [Tryz.ntmps78]
    simp (implicitDefEqProofs := false) only [↓reduceIte, go_sem, oread, Nat.reduceLT, Nat.reduceEqDiff, eq_self]
    refine KCall.ok (kinds_does k _) ?_
    simp (implicitDefEqProofs := false) only [↓reduceIte, go_sem, Nat.reduceLT, Nat.reduceEqDiff, eq_self, hk1, h1]
    refine AEnd.ret ?_
    simp (implicitDefEqProofs := false) only [↓reduceIte, go_sem, Nat.reduceLT, Nat.reduceEqDiff, eq_self]
  rw [if_neg h1]
  by_cases h2 : 4096 < n
  · rw [if_pos h2]
    refine Does.subT (cs := [.d (.v (.slice none 0 0)), iA 2]) ?_ (.cons .nil (.cons (.refl _) .nil))
    refine Does.of_awp (hint := (fun _ => false)) Tryz.func78 (by kernel_rfl) rfl [6, 7] (by kernel_rfl) (by decide) (by simp [Tryz.ntmps78]) ?_
    rw [Tryz.ntmps78]
    simp (implicitDefEqProofs := false) only [↓reduceIte, go_sem, oread, Nat.reduceLT, Nat.reduceEqDiff, eq_self]
    refine KCall.ok (kinds_does k _) ?_
    simp (implicitDefEqProofs := false) only [↓reduceIte, go_sem, Nat.reduceLT, Nat.reduceEqDiff, reduceCtorEq, eq_self, hk1, h1, h2]
    refine AEnd.ret ?_
    simp (implicitDefEqProofs := false) only [↓reduceIte, go_sem, Nat.reduceLT, Nat.reduceEqDiff, eq_self]
  rw [if_neg h2]
  obtain ⟨m, rfl⟩ : ∃ m : Nat, n = (m : Int) := ⟨n.toNat, by omega⟩
  rw [Int.toNat_natCast]
  have h1f : ((m : Int) < 0) = False := eq_false h1
  have h2f : ((4096 : Int) < (m : Int)) = False := eq_false h2
  have hj0 := joinR_nil k m b
  suffices h : Does Tryz.prog 78 [.d (.list false (bys b)), iA m, iA k] H (.ok (if (readN k m b).2.2 ≠ 0 then .tup [.d (.v (.slice none 0 0)), iA (readN k m b).2.2] else if (readN k m b).2.1 ≠ [] then .tup [.d (.v (.slice none 0 0)), iA 4] else .tup [.d (.list false ((readN k m b).1.map Val.enc)), iA 0])) H by
    by_cases c1 : (readN k m b).2.2 ≠ 0
    · rw [if_pos c1] at h ⊢
      exact Does.subT h (.cons .nil (.cons (.refl _) .nil))
    · rw [if_neg c1] at h ⊢
      by_cases c2 : (readN k m b).2.1 ≠ []
      · rw [if_pos c2] at h ⊢
        exact Does.subT h (.cons .nil (.cons (.refl _) .nil))
      · rw [if_neg c2] at h ⊢
        exact h
  refine Does.of_awp (hint := (fun _ => false)) Tryz.func78 (by kernel_rfl) rfl [6, 7] (by kernel_rfl) (by decide) (by simp [Tryz.ntmps78]) ?_
  rw [Tryz.ntmps78]
  simp (implicitDefEqProofs := false) only [↓reduceIte, go_sem, oread, Nat.reduceLT, Nat.reduceEqDiff, eq_self]
  refine KCall.ok (kinds_does k _) ?_
  simp (implicitDefEqProofs := false) only [↓reduceIte, go_sem, Nat.reduceLT, Nat.reduceEqDiff, reduceCtorEq, eq_self, hk1, h1f, h2f]
  refine awp_for (fun j s H' => ∃ L c, H' = H ++ [bB c, kB k, .arr 25 3 j (L.map Val.enc)] ∧ L.length = j ∧ c.length ≤ b.length ∧ (∀ x ∈ c, x < 256) ∧ joinR L (readN k (m - j) c) = readN k m b ∧ s 3 = .ptr H.length 0 0 0 ∧ s 8 = .fn 115 [.ptr H.length 0 0 0, .ptr (H.length + 1) 0 0 0] ∧ s 9 = .sl (H.length + 2) j 0 j ∧ s 24 = iA m ∧ s 25 = iA j) m (by omega) (Weak.virt1 _ _ 9 25 3 (by decide) (by simp (implicitDefEqProofs := false) only [↓reduceIte, go_sem, Nat.reduceLT, Nat.reduceEqDiff, eq_self]) _) ?_ ?_ ?_
  · refine ⟨[], b, by simp (implicitDefEqProofs := false) only [go_sem, eq_self, bB, kB], rfl, Nat.le_refl _, hb, by simpa using hj0, ?_⟩
    simp (implicitDefEqProofs := false) only [↓reduceIte, go_sem, Nat.reduceAdd, Nat.reduceLT, Nat.reduceEqDiff, eq_self]
  · rintro j s H' hj hw ⟨L, c, rfl, hL, hcl, hcb, hjoin, t3, t8, t9, t24, t25⟩
    obtain ⟨p, hp⟩ := ofV_suffix c k
    obtain ⟨q, hq⟩ : ∃ q, m - j = q + 1 := ⟨m - j - 1, by omega⟩
    have hst := fun v r h => joinR_step (k := k) (n := q) (b := c) (r := r) (v := v) L h
    have hsp := fun v r e h he => joinR_stop (k := k) (n := q) (b := c) (r := r) (v := v) (e := e) L h he
    have hod := ofNext_does c k (by omega) hcb (H ++ [bB c, kB k, .arr 25 3 j (L.map Val.enc)]) H.length (H.length + 1) (by simp) (by simp)
    rw [show ∀ x, (H ++ [bB c, kB k, .arr 25 3 j (L.map Val.enc)]).set H.length x = H ++ [x, kB k, .arr 25 3 j (L.map Val.enc)] from fun x => by simp []] at hod
    rw [hq] at hjoin
    rcases hv : ofV c k with ⟨v, r, e⟩
    simp only [hv] at hod hp hst hsp
    simp (implicitDefEqProofs := false) only [↓reduceIte, go_sem, Nat.reduceLT, Nat.reduceEqDiff, eq_self, t8, t24, t25, hj]
    refine KCall.ok hod ?_
    by_cases he : e = 0
    · subst he
      have hsn : L.map Val.enc ++ [[D.v (.int .i64 v.kind), D.v (.int .i64 v.i), D.v (.string v.s)]] = (L ++ [v]).map Val.enc := by simp [Val.enc]
      simp (implicitDefEqProofs := false) only [↓reduceIte, go_sem, oread, owrite, Nat.reduceAdd, Nat.reduceLT, Nat.reduceLeDiff, Nat.reduceEqDiff, eq_self, t9, List.length_map, hL, hsn]
      refine ⟨by omega, by omega, ?_⟩
      simp (implicitDefEqProofs := false) only [↓reduceIte, go_sem, Nat.reduceLT, eq_self, t25]
      refine Rnd.cut [bB r, kB k, .arr 25 3 (j + 1) ((L ++ [v]).map Val.enc)] [.box 25 3 0 1 [iA v.kind, iA v.i, sA v.s]] 3 rfl rfl (by simp (implicitDefEqProofs := false) only [go_sem, eq_self, bB, kB]) ?_
      refine ⟨L ++ [v], r, rfl, by simp [hL], ?_, ?_, ?_, ?_⟩
      · rw [hp, List.length_drop]; omega
      · intro x hx
        rw [hp] at hx
        exact hcb x (List.mem_of_mem_drop hx)
      · rw [show m - (j + 1) = q by omega, ← hst v r rfl, hjoin]
      · simp (implicitDefEqProofs := false) only [↓reduceIte, go_sem, Nat.reduceLT, Nat.reduceEqDiff, eq_self, t3, t8, t24, hw]
    · simp (implicitDefEqProofs := false) only [↓reduceIte, go_sem, owrite, Nat.reduceAdd, Nat.reduceLT, Nat.reduceEqDiff, eq_self, he]
      refine AEnd.ret ?_
      have hN : readN k m b = ([], [], e) := by rw [← hjoin]; exact hsp v r e rfl he
      rw [hN]
      simp (implicitDefEqProofs := false) only [↓reduceIte, go_sem, Nat.reduceLT, Nat.reduceEqDiff, eq_self, he, ne_eq, not_false_eq_true]
  · rintro s H' ⟨L, c, rfl, hL, hcl, hcb, hjoin, t3, t8, t9, t24, t25⟩
    have hN : readN k m b = (L, c, 0) := by rw [← hjoin, Nat.sub_self]; simp [joinR, readN]
    rw [hN]
    by_cases hc : c = []
    · subst hc
      simp (implicitDefEqProofs := false) only [↓reduceIte, go_sem, oread, Nat.reduceLT, Nat.reduceEqDiff, Int.reduceLT, eq_self, t3, t9, t24, t25, bB, kB, bys_len, List.length_nil]
      refine AEnd.ret ?_
      simp (implicitDefEqProofs := false) only [↓reduceIte, go_sem, Nat.reduceLT, Nat.reduceEqDiff, eq_self, ne_eq, not_true_eq_false, List.take_of_length_le (show (L.map Val.enc).length ≤ m by rw [List.length_map]; omega)]
    · have hcp : 0 < c.length := List.length_pos_iff.2 hc
      simp (implicitDefEqProofs := false) only [↓reduceIte, go_sem, oread, Nat.reduceLT, Nat.reduceEqDiff, eq_self, t3, t24, t25, bB, kB, bys_len, show (0 < (c.length : Int)) = True from eq_true (by omega)]
      refine AEnd.ret ?_
      simp (implicitDefEqProofs := false) only [↓reduceIte, go_sem, Nat.reduceLT, Nat.reduceEqDiff, eq_self, ne_eq, hc, not_true_eq_false, not_false_eq_true]
end Go.Proofs.YtmbagpfmfiegkaaGreat
namespace Go.Proofs.YtmbagpfmfiegkaaGreat
open Go.Proofs.YtmbagpfmfiegkaaGreatAw Go.RowKit
set_option linter.unusedVariables false
set_option linter.unusedSimpArgs false
end Go.Proofs.YtmbagpfmfiegkaaGreat
namespace Go.Proofs.YtmbagpfmfiegkaaGreat
open Go.Proofs.YtmbagpfmfiegkaaGreatAw Go.RowKit
set_option linter.unusedVariables false
set_option linter.unusedSimpArgs false
def encR (r : Nat × Val) : List D := [.v (.int .i64 r.1), .v (.int .i64 r.2.kind), .v (.int .i64 r.2.i), .v (.string r.2.s)]
def runA (r : Nat × Val) : AV := .agg [iA r.1, iA r.2.kind, iA r.2.i, sA r.2.s]
def zR : Nat × Val := (0, zV)
def lastR (R : List (Nat × Val)) : Nat × Val := R.getLast?.getD zR
def addR (R : List (Nat × Val)) (v : Val) : List (Nat × Val) := if R ≠ [] ∧ (lastR R).2 = v then R.dropLast ++ [((lastR R).1 + 1, v)] else R ++ [(1, v)]
def runsP (l : List Val) : List (Nat × Val) := l.foldl addR []
theorem runsP_take (l : List Val) (k : Nat) (h : k < l.length) : runsP (l.take (k + 1)) = addR (runsP (l.take k)) l[k] := by
  unfold runsP
  rw [List.take_succ_eq_append_getElem h, List.foldl_append]; rfl
theorem addR_len (R : List (Nat × Val)) (v : Val) : (addR R v).length ≤ R.length + 1 := by
  unfold addR
  split
  · rw [List.length_append, List.length_dropLast, List.length_singleton]; omega
  · simp
theorem runsP_len (l : List Val) : ∀ k, (runsP (l.take k)).length ≤ k := by
  intro k
  induction k with
  | zero => simp [runsP]
  | succ k ih =>
    rcases Nat.lt_or_ge k l.length with h | h
    · rw [runsP_take l k h]
      have := addR_len (runsP (l.take k)) l[k]
      omega
    · rw [List.take_of_length_le (by omega)]
      rw [List.take_of_length_le h] at ih
      omega
theorem addR_cnt {R : List (Nat × Val)} {k : Nat} (h : ∀ r ∈ R, r.1 ≤ k) (v : Val) : ∀ r ∈ addR R v, r.1 ≤ k + 1 := by
  intro r hr
  unfold addR at hr
  split at hr
  · rename_i hc
    rcases List.mem_append.1 hr with hr | hr
    · have := h r (List.dropLast_subset R hr); omega
    · simp at hr
      have hm : lastR R ∈ R := by
        unfold lastR
        rw [List.getLast?_eq_getElem?]
        have hp : 0 < R.length := List.length_pos_iff.2 hc.1
        rw [List.getElem?_eq_getElem (by omega)]
        exact List.getElem_mem _
      have := h _ hm
      rw [hr]; simp only; omega
  · rcases List.mem_append.1 hr with hr | hr
    · have := h r hr; omega
    · simp at hr; rw [hr]; simp
theorem runsP_cnt (l : List Val) : ∀ k, ∀ r ∈ runsP (l.take k), r.1 ≤ k := by
  intro k
  induction k with
  | zero => intro r hr; simp [runsP] at hr
  | succ k ih =>
    rcases Nat.lt_or_ge k l.length with h | h
    · rw [runsP_take l k h]
      exact addR_cnt ih _
    · rw [List.take_of_length_le (by omega)]
      rw [List.take_of_length_le h] at ih
      intro r hr
      have := ih r hr; omega
set_option maxRecDepth 10000 in
theorem last_does (R : List (Nat × Val)) (G : AHeap) (id ver : Nat) (hl : R.length ≤ 1000000000000) (h : G[id]? = some (.arr 165 4 ver (R.map encR))) :
    Does Tryz.prog 148 [.sl id ver 0 R.length] G (.ok (.tup [runA (lastR R), bA (decide (R ≠ []))])) G := by
  have hlt := len_of_get h
  refine Does.of_awpC (hint := fun _ => false) Tryz.func148 (by kernel_rfl) rfl [.cell 2 165, .tmp 3] (by kernel_rfl) (by simp [Tryz.ntmps148]) ?_
  rw [Tryz.ntmps148]
  by_cases h0 : R = []
  · subst h0
    simp only [List.length_nil, List.map_nil] at h ⊢
    simp (implicitDefEqProofs := false) only [↓reduceIte, go_sem, oread, owrite, Nat.reduceAdd, Nat.reduceLT, Nat.reduceEqDiff, reduceCtorEq, eq_self, h, List.getElem?_append_left hlt, List.length_nil]
    refine AEndC.ret ?_
    simp (implicitDefEqProofs := false) only [↓reduceIte, go_sem, oread, Nat.reduceAdd, Nat.reduceLT, Nat.reduceLeDiff, Nat.reduceEqDiff, eq_self, resAll, resAV, runA, lastR, zR, zV, noS, List.getLast?_nil, Option.getD_none]
  · have hpos : 0 < R.length := List.length_pos_iff.2 h0
    obtain ⟨n, hn⟩ : ∃ n, R.length = n + 1 := ⟨R.length - 1, by omega⟩
    have hget : R[n]? = some (lastR R) := by
      unfold lastR
      rw [List.getLast?_eq_getElem?, hn, Nat.add_sub_cancel, List.getElem?_eq_getElem (by omega)]
      rfl
    generalize hm : R.length = m at *
    have hw : IntKind.i64.wrap ((m : Int) - 1) = (n : Int) := by rw [wrap64_in _ (by omega) (by omega)]; omega
    generalize lastR R = q at *
    simp (implicitDefEqProofs := false) only [↓reduceIte, go_sem, oread, owrite, Nat.reduceAdd, Nat.reduceLT, Nat.reduceEqDiff, reduceCtorEq, eq_self, h, List.getElem?_append_left hlt, hw, hget, show ((m : Int) = 0) = False from eq_false (by omega), show ((n : Int) < (m : Int)) = True from eq_true (by omega), show ((0 : Int) ≤ (n : Int)) = True from eq_true (by omega), Option.map_some, encR, List.take_succ_cons, List.take_zero, List.map_cons, List.map_nil, List.length_cons, List.length_nil]
    refine AEndC.ret ?_
    simp (implicitDefEqProofs := false) only [↓reduceIte, go_sem, oread, Nat.reduceAdd, Nat.reduceLT, Nat.reduceLeDiff, Nat.reduceEqDiff, eq_self, resAll, resAV, runA, h0, not_false_eq_true, decide_true]
theorem addR_out {R : List (Nat × Val)} {v : Val} (h : ¬ (R ≠ [] ∧ (lastR R).2 = v)) : (addR R v).map encR = R.map encR ++ [[.v (.int .i64 1), .v (.int .i64 v.kind), .v (.int .i64 v.i), .v (.string v.s)]] := by
  unfold addR
  rw [if_neg h]
  simp [encR]
theorem addR_in {R : List (Nat × Val)} {v : Val} {n : Nat} (h : R ≠ [] ∧ (lastR R).2 = v) (hn : R.length = n + 1) : R[n]? = some (lastR R) ∧
    (R.map encR).set n [.v (.int .i64 (((lastR R).1 + 1 : Nat) : Int)), .v (.int .i64 v.kind), .v (.int .i64 v.i), .v (.string v.s)] = (addR R v).map encR ∧ (addR R v).length = n + 1 := by
  have hg : R[n]? = some (lastR R) := by
    unfold lastR
    rw [List.getLast?_eq_getElem?, hn, Nat.add_sub_cancel, List.getElem?_eq_getElem (by omega)]
    rfl
  refine ⟨hg, ?_, ?_⟩
  · unfold addR
    rw [if_pos h]
    have hd : R = R.dropLast ++ [lastR R] := by
      rw [List.dropLast_eq_take, hn, Nat.add_sub_cancel]
      conv => lhs; rw [← List.take_append_drop n R]
      obtain ⟨h1, h2⟩ := List.getElem?_eq_some_iff.1 hg
      rw [List.drop_eq_getElem_cons h1, h2, List.drop_eq_nil_of_le (by omega)]
    have hl : R.dropLast.length = n := by rw [List.length_dropLast, hn]; rfl
    generalize lastR R = q at *
    rw [List.map_append]
    generalize R.dropLast = D at *
    subst hd
    rw [List.map_append, List.set_append_right n _ (by rw [List.length_map, hl]; exact Nat.le_refl _), List.length_map, hl, Nat.sub_self]
    rfl
  · unfold addR
    rw [if_pos h, List.length_append, List.length_dropLast, hn]; rfl
set_option maxRecDepth 10000 in
set_option maxHeartbeats 2000000 in
theorem runs_does (l : List Val) (nn : Bool) (hl : l.length ≤ 1000000000) (H : AHeap) :
    Does Tryz.prog 116 [.d (.list nn (l.map Val.enc))] H (.ok (.d (.list false ((runsP l).map encR)))) H := by
  have hlen := runsP_len l
  have hcnt := runsP_cnt l
  refine Does.of_awp (hint := (fun _ => false)) Tryz.func116 (by kernel_rfl) rfl [2] (by kernel_rfl) (by decide) (by simp [Tryz.ntmps116]) ?_
  rw [Tryz.ntmps116]
  simp (implicitDefEqProofs := false) only [↓reduceIte, go_sem, Nat.reduceLT, reduceCtorEq, eq_self]
  refine awp_for (fun k s H' => ∃ ver, H' = H ++ [.arr 165 4 ver ((runsP (l.take k)).map encR)] ∧ s 3 = .sl H.length ver 0 (runsP (l.take k)).length ∧ s 8 = .d (.list nn (l.map Val.enc)) ∧ s 9 = iA l.length ∧ s 10 = iA k) l.length (by omega) (Weak.virt1 _ _ 3 165 4 (by decide) (by simp (implicitDefEqProofs := false) only [↓reduceIte, go_sem, Nat.reduceLT, Nat.reduceEqDiff, eq_self]) _) ?_ ?_ ?_
  · refine ⟨0, rfl, ?_⟩
    simp (implicitDefEqProofs := false) only [↓reduceIte, go_sem, Nat.reduceLT, Nat.reduceEqDiff, eq_self]
    rfl
  · rintro k s H' hk hw ⟨ver, rfl, t3, t8, t9, t10⟩
    have hx := List.getElem?_eq_getElem hk
    have e1 := runsP_take l k hk
    have hR := hlen k
    have hC := hcnt k
    rw [e1]
    generalize l[k] = v at *
    generalize runsP (l.take k) = R at *
    have hld := last_does R (H ++ [.arr 165 4 ver (R.map encR), .box 25 3 0 1 [iA v.kind, iA v.i, sA v.s]]) H.length ver (by omega) (by simp)
    simp (implicitDefEqProofs := false) only [↓reduceIte, go_sem, owrite, Nat.reduceAdd, Nat.reduceLT, Nat.reduceEqDiff, eq_self, t3, t8, t9, t10, hk, hx, Val.enc]
    refine KCall.ok hld ?_
    by_cases hc : R ≠ [] ∧ (lastR R).2 = v
    · obtain ⟨n, hn⟩ : ∃ n, R.length = n + 1 := ⟨R.length - 1, by have := List.length_pos_iff.2 hc.1; omega⟩
      obtain ⟨a1, a2, a3⟩ := addR_in hc hn
      rw [a3]
      rw [hn] at t3
      have h1 := hc.1
      have h2 := hc.2
      generalize lastR R = q at *
      obtain ⟨m, w⟩ := q
      simp only at h2 a2
      subst h2
      have hm := hC _ (List.mem_of_getElem? a1)
      simp only at hm
      have w1 : IntKind.i64.wrap ((m : Int) + 1) = ((m + 1 : Nat) : Int) := by rw [wrap64_in _ (by omega) (by omega)]; rfl
      generalize hz : n + 1 = z at *
      have w2 : IntKind.i64.wrap ((z : Int) - 1) = (n : Int) := by rw [wrap64_in _ (by omega) (by omega)]; omega
      generalize hy : ((m + 1 : Nat) : Int) = y at *
      generalize (addR R w).map encR = R2 at *
      simp (implicitDefEqProofs := false) only [↓reduceIte, go_sem, oread, owrite, Nat.reduceAdd, Nat.reduceLT, Nat.reduceLeDiff, Nat.reduceEqDiff, eq_self, runA, ne_eq, h1, not_false_eq_true, decide_true, sameV_eq, t3, hn, w2, show ((n : Int) < (z : Int)) = True from eq_true (by omega), show ((0 : Int) ≤ (n : Int)) = True from eq_true (by omega), a1, Option.map_some, encR, List.take_succ_cons, List.take_zero, List.map_cons, List.map_nil, List.length_cons, List.length_nil, w1, List.drop_succ_cons, List.drop_zero, a2]
      simp (implicitDefEqProofs := false) only [↓reduceIte, go_sem, Nat.reduceLT, eq_self, t10]
      refine Rnd.cut [.arr 165 4 ver R2] [.box 25 3 0 1 [iA w.kind, iA w.i, sA w.s], .box 165 4 0 1 [iA m, iA w.kind, iA w.i, sA w.s]] 1 rfl rfl (by simp (implicitDefEqProofs := false) only [go_sem, eq_self]) ?_
      refine ⟨ver, rfl, ?_⟩
      simp (implicitDefEqProofs := false) only [↓reduceIte, go_sem, Nat.reduceLT, Nat.reduceEqDiff, eq_self, t3, t8, t9, hw]
    · have a1 := addR_out hc
      have a2 : (addR R v).length = R.length + 1 := by unfold addR; rw [if_neg hc, List.length_append]; rfl
      rw [a2]
      by_cases h1 : R = []
      · subst h1
        generalize (addR [] v).map encR = R2 at *
        simp only [List.length_nil, List.map_nil, List.nil_append] at a1 t3 ⊢
        subst a1
        simp (implicitDefEqProofs := false) only [↓reduceIte, go_sem, oread, owrite, Nat.reduceAdd, Nat.reduceLT, Nat.reduceLeDiff, Nat.reduceEqDiff, reduceCtorEq, eq_self, runA, lastR, zR, zV, noS, List.getLast?_nil, Option.getD_none, ne_eq, not_true_eq_false, decide_false, t3, List.length_nil]
        simp (implicitDefEqProofs := false) only [↓reduceIte, go_sem, Nat.reduceLT, eq_self, t10]
        refine Rnd.cut [.arr 165 4 (ver + 1) [[.v (.int .i64 1), .v (.int .i64 v.kind), .v (.int .i64 v.i), .v (.string v.s)]]] [.box 25 3 0 1 [iA v.kind, iA v.i, sA v.s], .box 165 4 0 1 [iA 0, iA 0, iA 0, sA ⟨#[]⟩]] 1 rfl rfl (by simp (implicitDefEqProofs := false) only [go_sem, eq_self]) ?_
        refine ⟨ver + 1, rfl, ?_⟩
        simp (implicitDefEqProofs := false) only [↓reduceIte, go_sem, Nat.reduceLT, Nat.reduceEqDiff, eq_self, t8, t9, hw]
      · have h2 : ¬ (lastR R).2 = v := fun h => hc ⟨h1, h⟩
        generalize lastR R = q at *
        obtain ⟨m, w⟩ := q
        simp only at h2
        generalize (addR R v).map encR = R2 at *
        subst a1
        simp (implicitDefEqProofs := false) only [↓reduceIte, go_sem, oread, owrite, Nat.reduceAdd, Nat.reduceLT, Nat.reduceLeDiff, Nat.reduceEqDiff, eq_self, runA, ne_eq, h1, not_false_eq_true, decide_true, sameV_eq, h2, decide_false, t3, List.length_map]
        refine ⟨by omega, by omega, ?_⟩
        simp (implicitDefEqProofs := false) only [↓reduceIte, go_sem, Nat.reduceLT, eq_self, t10]
        refine Rnd.cut [.arr 165 4 (ver + 1) (R.map encR ++ [[.v (.int .i64 1), .v (.int .i64 v.kind), .v (.int .i64 v.i), .v (.string v.s)]])] [.box 25 3 0 1 [iA v.kind, iA v.i, sA v.s], .box 165 4 0 1 [iA m, iA w.kind, iA w.i, sA w.s]] 1 rfl rfl (by simp (implicitDefEqProofs := false) only [go_sem, eq_self]) ?_
        refine ⟨ver + 1, rfl, ?_⟩
        simp (implicitDefEqProofs := false) only [↓reduceIte, go_sem, Nat.reduceLT, Nat.reduceEqDiff, eq_self, t8, t9, hw]
  · rintro s H' ⟨ver, rfl, t3, t8, t9, t10⟩
    rw [List.take_length] at t3
    rw [List.take_length]
    simp (implicitDefEqProofs := false) only [↓reduceIte, go_sem, Nat.reduceLT, Nat.reduceEqDiff, eq_self, t3, t9, t10]
    refine AEnd.ret ?_
    simp (implicitDefEqProofs := false) only [↓reduceIte, go_sem, Nat.reduceLT, eq_self, List.take_of_length_le (show ((runsP l).map encR).length ≤ (runsP l).length by rw [List.length_map]; exact Nat.le_refl _)]
end Go.Proofs.YtmbagpfmfiegkaaGreat
namespace Go.Proofs.YtmbagpfmfiegkaaGreat
open Go.Proofs.YtmbagpfmfiegkaaGreatAw Go.RowKit
set_option linter.unusedVariables false
set_option linter.unusedSimpArgs false
theorem addR_val {R : List (Nat × Val)} {p : Val → Prop} (h : ∀ r ∈ R, p r.2) {v : Val} (hv : p v) : ∀ r ∈ addR R v, p r.2 := by
  intro r hr
  unfold addR at hr
  split at hr
  · rcases List.mem_append.1 hr with hr | hr
    · exact h r (List.dropLast_subset R hr)
    · simp at hr; rw [hr]; exact hv
  · rcases List.mem_append.1 hr with hr | hr
    · exact h r hr
    · simp at hr; rw [hr]; exact hv
theorem foldR_val {p : Val → Prop} : ∀ (l : List Val) (R : List (Nat × Val)), (∀ v ∈ l, p v) → (∀ r ∈ R, p r.2) → ∀ r ∈ l.foldl addR R, p r.2
  | [], R, _, h => h
  | v :: l, R, hl, h => foldR_val l _ (fun x hx => hl x (by simp [hx])) (addR_val h (hl v (by simp)))
theorem runsP_val {p : Val → Prop} {l : List Val} (h : ∀ v ∈ l, p v) : ∀ r ∈ runsP l, p r.2 := foldR_val l [] h (by simp)
def runB (r : Nat × Val) : List Nat := putP r.1 ++ valB r.2
def rleB (R : List (Nat × Val)) : List Nat := R.flatMap runB
def rleL (l : List Val) (k : Int) : List Nat := if plainP l k = 0 then rleB (runsP l) else []
theorem rleB_snoc (R : List (Nat × Val)) (r : Nat × Val) : rleB (R ++ [r]) = rleB R ++ runB r := by simp [rleB]
set_option maxRecDepth 10000 in
set_option maxHeartbeats 2000000 in
theorem rleBytes_does (l : List Val) (k : Int) (hok : ∀ v ∈ l, I64 v.i) (H : AHeap) (hl : l.length ≤ 1000000000) :
    Does Tryz.prog 80 [.d (.list false (l.map Val.enc)), iA k] H (.ok (.tup [.d (.list false (bys (rleL l k))), iA (plainP l k)])) H := by
  by_cases hp : plainP l k = 0
  · rw [show rleL l k = rleB (runsP l) from if_pos hp]
    have hmay := plainP_may hp
    have h4 := plainP_len hp
    have hrd := fun H => runs_does l false hl H
    have hRl := runsP_len l l.length
    have hRc := runsP_cnt l l.length
    rw [List.take_length] at hRl hRc
    have hRv := runsP_val (p := fun v => I64 v.i ∧ mayV v = true) (l := l) fun v hv => ⟨hok v hv, hmay v hv⟩
    generalize runsP l = R at *
    have hone : ∀ r ∈ R, (runB r).length ≤ 1050 := fun r hr => by
      have h1 := putP_len 10 r.1 (by have := hRc r hr; omega)
      have h2 := valB_len (hRv r hr).1 (hRv r hr).2
      unfold runB
      rw [List.length_append]; omega
    have hWb : ∀ k, k ≤ R.length → (rleB (R.take k)).length ≤ k * 1050 := by
      intro k
      induction k with
      | zero => intro _; simp [rleB]
      | succ k ih =>
        intro hk
        have hk' : k < R.length := by omega
        rw [List.take_succ_eq_append_getElem hk', rleB_snoc, List.length_append]
        have h1 := ih (by omega)
        have h2 := hone _ (List.getElem_mem hk')
        omega
    refine Does.of_awp (hint := (fun _ => false)) Tryz.func80 (by kernel_rfl) rfl [4, 5] (by kernel_rfl) (by decide) (by simp [Tryz.ntmps80]) ?_
    rw [Tryz.ntmps80]
    simp (implicitDefEqProofs := false) only [↓reduceIte, go_sem, Nat.reduceLT, Nat.reduceEqDiff, reduceCtorEq, eq_self]
    refine KCall.ok (plain_does l k false _ (by omega)) ?_
    rw [hp]
    simp (implicitDefEqProofs := false) only [↓reduceIte, go_sem, Nat.reduceLT, reduceCtorEq, eq_self]
    refine KCall.ok (hrd _) ?_
    simp (implicitDefEqProofs := false) only [↓reduceIte, go_sem, Nat.reduceLT, eq_self]
    refine awp_for (fun j s H' => ∃ ver, H' = H ++ [.arr 5 1 ver (bys (rleB (R.take j)))] ∧ s 7 = .sl H.length ver 0 (rleB (R.take j)).length ∧ s 19 = .d (.list false (R.map encR)) ∧ s 20 = iA R.length ∧ s 21 = iA j) R.length (by omega) (Weak.virt1 _ _ 7 5 1 (by decide) (by simp (implicitDefEqProofs := false) only [↓reduceIte, go_sem, Nat.reduceLT, Nat.reduceEqDiff, eq_self]) _) ?_ ?_ ?_
    · refine ⟨0, rfl, ?_⟩
      simp (implicitDefEqProofs := false) only [↓reduceIte, go_sem, Nat.reduceLT, Nat.reduceEqDiff, eq_self]
      rfl
    · rintro j s H' hj hw ⟨ver, rfl, t7, t19, t20, t21⟩
      have hx := List.getElem?_eq_getElem hj
      have hm := List.getElem_mem hj
      have hb := hWb j (by omega)
      have hrl := hone _ hm
      have hc := hRc _ hm
      have hv := hRv _ hm
      have e1 : rleB (R.take (j + 1)) = rleB (R.take j) ++ (putP (R[j]).1 ++ valB (R[j]).2) := by rw [List.take_succ_eq_append_getElem hj, rleB_snoc, runB]
      unfold runB at hrl
      rw [List.length_append] at hrl
      rw [e1]
      generalize rleB (R.take j) = B at *
      generalize R[j] = r at *
      obtain ⟨m, w⟩ := r
      simp only at hrl hc hv ⊢
      have hvd := fun H => valBytes_does w hv.1 hv.2 H
      have wm := wrapU64N m (by omega)
      simp (implicitDefEqProofs := false) only [↓reduceIte, go_sem, oread, owrite, Nat.reduceAdd, Nat.reduceLT, Nat.reduceEqDiff, eq_self, t19, t20, t21, hj, hx, encR]
      refine KCall.ok (hvd _) ?_
      simp (implicitDefEqProofs := false) only [↓reduceIte, go_sem, oread, Nat.reduceAdd, Nat.reduceLT, Nat.reduceLeDiff, Nat.reduceEqDiff, eq_self, t7, wm]
      refine KCall.ok (put_does m (by omega) _) ?_
      simp (implicitDefEqProofs := false) only [↓reduceIte, go_sem, Nat.reduceLT, Nat.reduceEqDiff, eq_self, bys_one, bys_len, bys_app]
      have hpm := putP_len 10 m (by omega)
      refine ⟨by omega, by omega, by omega, by omega, ?_⟩
      simp (implicitDefEqProofs := false) only [↓reduceIte, go_sem, Nat.reduceLT, eq_self, t21]
      refine Rnd.cut [.arr 5 1 (ver + 1 + 1) (bys (B ++ (putP m ++ valB w)))] [.box 165 4 0 1 [iA m, iA w.kind, iA w.i, sA w.s]] 1 rfl rfl (by simp (implicitDefEqProofs := false) only [go_sem, eq_self]) ?_
      refine ⟨ver + 1 + 1, rfl, ?_⟩
      simp (implicitDefEqProofs := false) only [↓reduceIte, go_sem, Nat.reduceAdd, Nat.reduceLT, Nat.reduceEqDiff, eq_self, t19, t20, hw, Nat.add_assoc]
    · rintro s H' ⟨ver, rfl, t7, t19, t20, t21⟩
      rw [show R.take R.length = R from List.take_length] at *
      simp (implicitDefEqProofs := false) only [↓reduceIte, go_sem, Nat.reduceLT, Nat.reduceEqDiff, eq_self, t7, t20, t21]
      refine AEnd.ret ?_
      simp (implicitDefEqProofs := false) only [↓reduceIte, go_sem, Nat.reduceLT, Nat.reduceEqDiff, eq_self, List.take_of_length_le (Nat.le_of_eq (bys_len (rleB R)))]
  · rw [show rleL l k = [] from if_neg hp]
    refine Does.subT (cs := [.d (.v (.slice none 0 0)), iA (plainP l k)]) ?_ (.cons .nil (.cons (.refl _) .nil))
    refine Does.of_awp (hint := (fun _ => false)) Tryz.func80 (by kernel_rfl) rfl [4, 5] (by kernel_rfl) (by decide) (by simp [Tryz.ntmps80]) ?_
    rw [Tryz.ntmps80]
    simp (implicitDefEqProofs := false) only [↓reduceIte, go_sem, Nat.reduceLT, Nat.reduceEqDiff, reduceCtorEq, eq_self]
    refine KCall.ok (plain_does l k false _ (by omega)) ?_
    simp (implicitDefEqProofs := false) only [↓reduceIte, go_sem, Nat.reduceLT, Nat.reduceEqDiff, eq_self, hp]
    refine AEnd.ret0 ?_
    simp (implicitDefEqProofs := false) only [↓reduceIte, go_sem, Nat.reduceLT, Nat.reduceEqDiff, eq_self]
end Go.Proofs.YtmbagpfmfiegkaaGreat
namespace Go.Proofs.YtmbagpfmfiegkaaGreat
open Go.Proofs.YtmbagpfmfiegkaaGreatAw Go.RowKit
set_option linter.unusedVariables false
set_option linter.unusedSimpArgs false
theorem readN_len (k : Int) : ∀ (n : Nat) (b : List Nat), (readN k n b).2.2 = 0 → (readN k n b).1.length = n
  | 0, _, _ => rfl
  | n + 1, b, h => by
    unfold readN at h ⊢
    split
    · rename_i h1
      rw [if_pos h1] at h
      split
      · rename_i h2
        simp [readN_len k n _ h2]
      · rename_i h2
        rw [if_neg h2] at h
        exact absurd h h2
    · rename_i h1
      rw [if_neg h1] at h
      exact absurd h h1
theorem readN_suffix (k : Int) : ∀ (n : Nat) (b : List Nat), ∃ j, (readN k n b).2.1 = b.drop j
  | 0, b => ⟨0, rfl⟩
  | n + 1, b => by
    have nil : ∃ j, ([] : List Nat) = b.drop j := ⟨b.length, by simp⟩
    unfold readN
    split
    · split
      · obtain ⟨j, h⟩ := ofV_suffix b k
        obtain ⟨i, h2⟩ := readN_suffix k n (ofV b k).2.1
        exact ⟨j + i, by rw [h2, h, List.drop_drop]⟩
      · exact nil
    · exact nil
theorem readR_ok {k : Int} {n : Nat} {b : List Nat} (h : (readR k n b).2.2 = 0) : readR k n b = readN k n b ∧ (readN k n b).2.2 = 0 ∧ RiseN (readN k n b).1 := by
  unfold readR at h ⊢
  split
  · rename_i h1
    rw [if_pos h1] at h
    split
    · rename_i h2
      exact ⟨rfl, h1, h2⟩
    · rename_i h2
      rw [if_neg h2] at h
      simp at h
  · rename_i h1
    rw [if_neg h1] at h
    exact absurd h h1
/-- What follows the words: the codes, or an error. -/
noncomputable def tailV (q : List Val × List Nat × Int) (n : Nat) : List Val × List Nat × Int :=
  if q.2.2 ≠ 0 then ([], [], q.2.2)
  else if unpackE q.2.1 n (widP q.1.length) ≠ 0 then ([], [], unpackE q.2.1 n (widP q.1.length))
  else if usedP (unpackL q.2.1 n (widP q.1.length)) q.1.length then (q.1, unpackL q.2.1 n (widP q.1.length), 0) else ([], [], 4)
noncomputable def toCodesV (b : List Nat) (n k : Int) : List Val × List Nat × Int :=
  if kindsP k = false then ([], [], 1)
  else if n < 0 then ([], [], 2)
  else if 4096 < n then ([], [], 2)
  else if (getP b).2.2 ≠ 0 then ([], [], (getP b).2.2)
  else if n < (getP b).1 then ([], [], 4)
  else tailV (readR k (getP b).1 (b.drop (getP b).2.1)) n.toNat
set_option maxRecDepth 10000 in
set_option maxHeartbeats 2000000 in
theorem tocodes_does (b : List Nat) (n k : Int) (hl : b.length ≤ 140737488351232) (hb : ∀ c ∈ b, c < 256) (H : AHeap) :
    Does Tryz.prog 123 [.d (.list false (bys b)), iA n, iA k] H (.ok (.tup [.d (.list false ((toCodesV b n k).1.map Val.enc)), .d (.list false (us (toCodesV b n k).2.1)), iA (toCodesV b n k).2.2])) H := by
  by_cases hk : kindsP k = false
  · rw [show toCodesV b n k = ([], [], 1) from if_pos hk]
    refine Does.subT (cs := [.d (.v (.slice none 0 0)), .d (.v (.slice none 0 0)), iA 1]) ?_ (.cons .nil (.cons .nil (.cons (.refl _) .nil)))
    refine Does.of_awp (hint := (fun _ => false)) Tryz.func123 (by kernel_rfl) rfl [6, 7, 8] (by kernel_rfl) (by decide) (by simp [Tryz.ntmps123]) ?_
    rw [Tryz.ntmps123]
    simp (implicitDefEqProofs := false) only [↓reduceIte, go_sem, Nat.reduceLT, Nat.reduceEqDiff, eq_self]
    refine KCall.ok (plainNone_does k _) ?_
    simp (implicitDefEqProofs := false) only [↓reduceIte, go_sem, Nat.reduceLT, Nat.reduceEqDiff, Int.reduceEq, eq_self, hk, Bool.false_eq_true]
    refine AEnd.ret0 ?_
    simp (implicitDefEqProofs := false) only [↓reduceIte, go_sem, Nat.reduceLT, Nat.reduceEqDiff, eq_self]
  rw [show toCodesV b n k = _ from if_neg hk]
  have hk1 : kindsP k = true := by simpa using hk
  by_cases h1 : n < 0
  · rw [if_pos h1]
    refine Does.subT (cs := [.d (.v (.slice none 0 0)), .d (.v (.slice none 0 0)), iA 2]) ?_ (.cons .nil (.cons .nil (.cons (.refl _) .nil)))
    refine Does.of_awp (hint := (fun _ => false)) Tryz.func123 (by kernel_rfl) rfl [6, 7, 8] (by kernel_rfl) (by decide) (by simp [Tryz.ntmps123]) ?_
    rw [Tryz.ntmps123]
    simp (implicitDefEqProofs := false) only [↓reduceIte, go_sem, Nat.reduceLT, Nat.reduceEqDiff, eq_self]
    refine KCall.ok (plainNone_does k _) ?_
    simp (implicitDefEqProofs := false) only [↓reduceIte, go_sem, Nat.reduceLT, Nat.reduceEqDiff, eq_self, hk1, h1]
    refine AEnd.ret0 ?_
    simp (implicitDefEqProofs := false) only [↓reduceIte, go_sem, Nat.reduceLT, Nat.reduceEqDiff, eq_self]
  rw [if_neg h1]
  by_cases h2 : 4096 < n
  · rw [if_pos h2]
    refine Does.subT (cs := [.d (.v (.slice none 0 0)), .d (.v (.slice none 0 0)), iA 2]) ?_ (.cons .nil (.cons .nil (.cons (.refl _) .nil)))
    refine Does.of_awp (hint := (fun _ => false)) Tryz.func123 (by kernel_rfl) rfl [6, 7, 8] (by kernel_rfl) (by decide) (by simp [Tryz.ntmps123]) ?_
    rw [Tryz.ntmps123]
    simp (implicitDefEqProofs := false) only [↓reduceIte, go_sem, Nat.reduceLT, Nat.reduceEqDiff, eq_self]
    refine KCall.ok (plainNone_does k _) ?_
    simp (implicitDefEqProofs := false) only [↓reduceIte, go_sem, Nat.reduceLT, Nat.reduceEqDiff, reduceCtorEq, eq_self, hk1, h1, h2]
    refine AEnd.ret0 ?_
    simp (implicitDefEqProofs := false) only [↓reduceIte, go_sem, Nat.reduceLT, Nat.reduceEqDiff, eq_self]
  rw [if_neg h2]
  obtain ⟨N, rfl⟩ : ∃ N : Nat, n = (N : Int) := ⟨n.toNat, by omega⟩
  rw [Int.toNat_natCast]
  have h1f : ((N : Int) < 0) = False := eq_false h1
  have h2f : ((4096 : Int) < (N : Int)) = False := eq_false h2
  have hgd := fun H => getN_does b false (by omega) hb H
  have hgl := getP_le b
  have hglt := getP_lt b
  generalize getP b = g at *
  obtain ⟨many, j, e⟩ := g
  simp only at hgd hgl hglt ⊢
  have hNu := wrapU64N N (by omega)
  by_cases he : e = 0
  · subst he
    rw [if_neg (by simp)]
    by_cases h3 : (N : Int) < (many : Int)
    · rw [if_pos h3]
      refine Does.subT (cs := [.d (.v (.slice none 0 0)), .d (.v (.slice none 0 0)), iA 4]) ?_ (.cons .nil (.cons .nil (.cons (.refl _) .nil)))
      refine Does.of_awp (hint := (fun _ => false)) Tryz.func123 (by kernel_rfl) rfl [6, 7, 8] (by kernel_rfl) (by decide) (by simp [Tryz.ntmps123]) ?_
      rw [Tryz.ntmps123]
      simp (implicitDefEqProofs := false) only [↓reduceIte, go_sem, Nat.reduceLT, Nat.reduceEqDiff, eq_self]
      refine KCall.ok (plainNone_does k _) ?_
      simp (implicitDefEqProofs := false) only [↓reduceIte, go_sem, Nat.reduceLT, Nat.reduceEqDiff, reduceCtorEq, eq_self, hk1, h1f, h2f]
      refine KCall.ok (hgd _) ?_
      simp (implicitDefEqProofs := false) only [↓reduceIte, go_sem, Nat.reduceLT, Nat.reduceEqDiff, eq_self, hNu, eq_true h3]
      refine AEnd.ret0 ?_
      simp (implicitDefEqProofs := false) only [↓reduceIte, go_sem, Nat.reduceLT, Nat.reduceEqDiff, eq_self]
    rw [if_neg h3]
    have h3f : ((N : Int) < (many : Int)) = False := eq_false h3
    have hmw : IntKind.i64.wrap (many : Int) = (many : Int) := wrap64_in _ (by omega) (by omega)
    have hj0 : ((0 : Int) ≤ (j : Int)) = True := eq_true (by omega)
    have hdb : ∀ c ∈ b.drop j, c < 256 := fun c hc => hb c (List.mem_of_mem_drop hc)
    have hrd := fun H => dread_does (b.drop j) many k (by omega) (by rw [List.length_drop]; omega) hdb H
    have hro := readR_ok (k := k) (n := many) (b := b.drop j)
    have hrl := readN_len k many (b.drop j)
    obtain ⟨i, hrs⟩ := readN_suffix k many (b.drop j)
    have hbt : (bys b).take b.length = bys b := List.take_of_length_le (by rw [bys_len]; exact Nat.le_refl _)
    generalize readN k many (b.drop j) = q2 at *
    generalize readR k many (b.drop j) = q at *
    obtain ⟨W, r, f⟩ := q
    simp only at hrd hro
    by_cases hf : f = 0
    · subst hf
      obtain ⟨e1, e2, e3⟩ := hro rfl
      subst e1
      have hW : W.length = many := hrl rfl
      have hrs' : r = (b.drop j).drop i := hrs
      have hrb : ∀ c ∈ r, c < 256 := fun c hc => hdb c (List.mem_of_mem_drop (hrs' ▸ hc))
      have hrlen : r.length ≤ b.length := by rw [hrs', List.length_drop, List.length_drop]; omega
      have hwl := widP_le (n := W.length) (by omega)
      have hun := fun H => unpack_does r N (widP W.length) false (by omega) hrb (by omega) (by omega) H
      have hT : tailV (W, r, 0) N = if unpackE r N (widP W.length) ≠ 0 then ([], [], unpackE r N (widP W.length)) else if usedP (unpackL r N (widP W.length)) W.length then (W, unpackL r N (widP W.length), 0) else ([], [], 4) := rfl
      have hdw := fun H => dwidth_does W.length (by omega) H
      have hCl := unpackL_len r N (widP W.length)
      have hClt := unpackL_lt r N (widP W.length) (by omega)
      unfold unpackA at hun
      rw [hT]
      generalize widP W.length = wd at *
      generalize unpackL r N wd = C at *
      generalize unpackE r N wd = z at *
      by_cases hz : z = 0
      · subst hz
        rw [if_neg (by simp)]
        have hus := fun H => used_does C W.length H (by omega) (by omega) hClt
        rw [if_pos rfl] at hun
        cases hu : usedP C W.length with
        | true =>
          rw [hu] at hus
          refine Does.of_awp (hint := (fun _ => false)) Tryz.func123 (by kernel_rfl) rfl [6, 7, 8] (by kernel_rfl) (by decide) (by simp [Tryz.ntmps123]) ?_
          rw [Tryz.ntmps123]
          simp (implicitDefEqProofs := false) only [↓reduceIte, go_sem, Nat.reduceLT, Nat.reduceEqDiff, eq_self]
          refine KCall.ok (plainNone_does k _) ?_
          simp (implicitDefEqProofs := false) only [↓reduceIte, go_sem, Nat.reduceLT, Nat.reduceEqDiff, reduceCtorEq, eq_self, hk1, h1f, h2f]
          refine KCall.ok (hgd _) ?_
          simp (implicitDefEqProofs := false) only [↓reduceIte, go_sem, Nat.reduceLT, Nat.reduceEqDiff, reduceCtorEq, eq_self, hNu, h3f, bys_one, bys_len, hj0, hbt, drop_bys, hmw]
          refine ⟨by omega, KCall.ok (hrd _) ?_⟩
          simp (implicitDefEqProofs := false) only [↓reduceIte, go_sem, Nat.reduceLT, Nat.reduceEqDiff, eq_self, List.length_map]
          refine KCall.ok (hdw _) ?_
          simp (implicitDefEqProofs := false) only [↓reduceIte, go_sem, Nat.reduceLT, Nat.reduceEqDiff, eq_self]
          refine KCall.ok (hun _) ?_
          simp (implicitDefEqProofs := false) only [↓reduceIte, go_sem, Nat.reduceLT, Nat.reduceEqDiff, eq_self, List.length_map]
          refine KCall.ok (hus _) ?_
          simp (implicitDefEqProofs := false) only [↓reduceIte, go_sem, Nat.reduceLT, Nat.reduceEqDiff, eq_self]
          refine AEnd.ret0 ?_
          simp (implicitDefEqProofs := false) only [↓reduceIte, go_sem, Nat.reduceLT, Nat.reduceEqDiff, eq_self]
        | false =>
          rw [hu] at hus
          rw [if_neg (by simp)]
          refine Does.subT (cs := [.d (.v (.slice none 0 0)), .d (.v (.slice none 0 0)), iA 4]) ?_ (.cons .nil (.cons .nil (.cons (.refl _) .nil)))
          refine Does.of_awp (hint := (fun _ => false)) Tryz.func123 (by kernel_rfl) rfl [6, 7, 8] (by kernel_rfl) (by decide) (by simp [Tryz.ntmps123]) ?_
          rw [Tryz.ntmps123]
          simp (implicitDefEqProofs := false) only [↓reduceIte, go_sem, Nat.reduceLT, Nat.reduceEqDiff, eq_self]
          refine KCall.ok (plainNone_does k _) ?_
          simp (implicitDefEqProofs := false) only [↓reduceIte, go_sem, Nat.reduceLT, Nat.reduceEqDiff, reduceCtorEq, eq_self, hk1, h1f, h2f]
          refine KCall.ok (hgd _) ?_
          simp (implicitDefEqProofs := false) only [↓reduceIte, go_sem, Nat.reduceLT, Nat.reduceEqDiff, reduceCtorEq, eq_self, hNu, h3f, bys_one, bys_len, hj0, hbt, drop_bys, hmw]
          refine ⟨by omega, KCall.ok (hrd _) ?_⟩
          simp (implicitDefEqProofs := false) only [↓reduceIte, go_sem, Nat.reduceLT, Nat.reduceEqDiff, eq_self, List.length_map]
          refine KCall.ok (hdw _) ?_
          simp (implicitDefEqProofs := false) only [↓reduceIte, go_sem, Nat.reduceLT, Nat.reduceEqDiff, eq_self]
          refine KCall.ok (hun _) ?_
          simp (implicitDefEqProofs := false) only [↓reduceIte, go_sem, Nat.reduceLT, Nat.reduceEqDiff, eq_self, List.length_map]
          refine KCall.ok (hus _) ?_
          simp (implicitDefEqProofs := false) only [↓reduceIte, go_sem, Nat.reduceLT, eq_self]
          refine AEnd.ret0 ?_
          simp (implicitDefEqProofs := false) only [↓reduceIte, go_sem, Nat.reduceLT, Nat.reduceEqDiff, eq_self]
      · rw [if_pos hz]
        rw [if_neg hz] at hun
        refine Does.subT (cs := [.d (.v (.slice none 0 0)), .d (.v (.slice none 0 0)), iA z]) ?_ (.cons .nil (.cons .nil (.cons (.refl _) .nil)))
        refine Does.of_awp (hint := (fun _ => false)) Tryz.func123 (by kernel_rfl) rfl [6, 7, 8] (by kernel_rfl) (by decide) (by simp [Tryz.ntmps123]) ?_
        rw [Tryz.ntmps123]
        simp (implicitDefEqProofs := false) only [↓reduceIte, go_sem, Nat.reduceLT, Nat.reduceEqDiff, eq_self]
        refine KCall.ok (plainNone_does k _) ?_
        simp (implicitDefEqProofs := false) only [↓reduceIte, go_sem, Nat.reduceLT, Nat.reduceEqDiff, reduceCtorEq, eq_self, hk1, h1f, h2f]
        refine KCall.ok (hgd _) ?_
        simp (implicitDefEqProofs := false) only [↓reduceIte, go_sem, Nat.reduceLT, Nat.reduceEqDiff, reduceCtorEq, eq_self, hNu, h3f, bys_one, bys_len, hj0, hbt, drop_bys, hmw]
        refine ⟨by omega, KCall.ok (hrd _) ?_⟩
        simp (implicitDefEqProofs := false) only [↓reduceIte, go_sem, Nat.reduceLT, Nat.reduceEqDiff, eq_self, List.length_map]
        refine KCall.ok (hdw _) ?_
        simp (implicitDefEqProofs := false) only [↓reduceIte, go_sem, Nat.reduceLT, Nat.reduceEqDiff, eq_self]
        refine KCall.ok (hun _) ?_
        simp (implicitDefEqProofs := false) only [↓reduceIte, go_sem, Nat.reduceLT, Nat.reduceEqDiff, eq_self, hz]
        refine AEnd.ret0 ?_
        simp (implicitDefEqProofs := false) only [↓reduceIte, go_sem, Nat.reduceLT, Nat.reduceEqDiff, eq_self]
    · rw [show tailV (W, r, f) N = ([], [], f) from if_pos hf]
      refine Does.subT (cs := [.d (.v (.slice none 0 0)), .d (.v (.slice none 0 0)), iA f]) ?_ (.cons .nil (.cons .nil (.cons (.refl _) .nil)))
      refine Does.of_awp (hint := (fun _ => false)) Tryz.func123 (by kernel_rfl) rfl [6, 7, 8] (by kernel_rfl) (by decide) (by simp [Tryz.ntmps123]) ?_
      rw [Tryz.ntmps123]
      simp (implicitDefEqProofs := false) only [↓reduceIte, go_sem, Nat.reduceLT, Nat.reduceEqDiff, eq_self]
      refine KCall.ok (plainNone_does k _) ?_
      simp (implicitDefEqProofs := false) only [↓reduceIte, go_sem, Nat.reduceLT, Nat.reduceEqDiff, reduceCtorEq, eq_self, hk1, h1f, h2f]
      refine KCall.ok (hgd _) ?_
      simp (implicitDefEqProofs := false) only [↓reduceIte, go_sem, Nat.reduceLT, Nat.reduceEqDiff, reduceCtorEq, eq_self, hNu, h3f, bys_one, bys_len, hj0, hbt, drop_bys, hmw]
      refine ⟨by omega, KCall.ok (hrd _) ?_⟩
      simp (implicitDefEqProofs := false) only [↓reduceIte, go_sem, Nat.reduceLT, Nat.reduceEqDiff, eq_self, hf]
      refine AEnd.ret0 ?_
      simp (implicitDefEqProofs := false) only [↓reduceIte, go_sem, Nat.reduceLT, Nat.reduceEqDiff, eq_self]
  · rw [if_pos he]
    refine Does.subT (cs := [.d (.v (.slice none 0 0)), .d (.v (.slice none 0 0)), iA e]) ?_ (.cons .nil (.cons .nil (.cons (.refl _) .nil)))
    refine Does.of_awp (hint := (fun _ => false)) Tryz.func123 (by kernel_rfl) rfl [6, 7, 8] (by kernel_rfl) (by decide) (by simp [Tryz.ntmps123]) ?_
    rw [Tryz.ntmps123]
    simp (implicitDefEqProofs := false) only [↓reduceIte, go_sem, Nat.reduceLT, Nat.reduceEqDiff, eq_self]
    refine KCall.ok (plainNone_does k _) ?_
    simp (implicitDefEqProofs := false) only [↓reduceIte, go_sem, Nat.reduceLT, Nat.reduceEqDiff, reduceCtorEq, eq_self, hk1, h1f, h2f]
    refine KCall.ok (hgd _) ?_
    simp (implicitDefEqProofs := false) only [↓reduceIte, go_sem, Nat.reduceLT, Nat.reduceEqDiff, eq_self, he]
    refine AEnd.ret0 ?_
    simp (implicitDefEqProofs := false) only [↓reduceIte, go_sem, Nat.reduceLT, Nat.reduceEqDiff, eq_self]
end Go.Proofs.YtmbagpfmfiegkaaGreat
namespace Go.Proofs.YtmbagpfmfiegkaaGreat
open Go.Proofs.YtmbagpfmfiegkaaGreatAw Go.RowKit
set_option linter.unusedVariables false
set_option linter.unusedSimpArgs false
def pickV (W : List Val) (C : List Nat) : List Val := C.map fun c => W.getD c zV
noncomputable def ofDict (b : List Nat) (n k : Int) : List Val × Int := if (toCodesV b n k).2.2 = 0 then (pickV (toCodesV b n k).1 (toCodesV b n k).2.1, 0) else ([], (toCodesV b n k).2.2)
theorem usedP_lt {C : List Nat} {n : Nat} (h : usedP C n = true) : ∀ c ∈ C, c < n := fun c hc => by
  unfold usedP at h
  rw [Bool.and_eq_true, List.all_eq_true] at h
  simpa using h.1 c ((toldL_mem C c).2 hc)
/-- What a good reading is. -/
theorem toCodes_ok {b : List Nat} {n k : Int} {W : List Val} {C : List Nat} (h : toCodesV b n k = (W, C, 0)) :
    ∃ (N many j i : Nat), n = (N : Int) ∧ N ≤ 4096 ∧ kindsP k = true ∧ getP b = (many, j, 0) ∧ many ≤ N ∧ readN k many (b.drop j) = (W, (b.drop j).drop i, 0) ∧ RiseN W ∧ W.length = many ∧
      unpackE ((b.drop j).drop i) N (widP W.length) = 0 ∧ C = unpackL ((b.drop j).drop i) N (widP W.length) ∧ usedP C W.length = true := by
  unfold toCodesV at h
  split at h
  · simp at h
  rename_i hk
  split at h
  · simp at h
  rename_i h1
  split at h
  · simp at h
  rename_i h2
  split at h
  · rename_i he
    simp only [Prod.mk.injEq] at h
    exact absurd h.2.2 he
  rename_i he
  split at h
  · simp at h
  rename_i h3
  rcases hg : getP b with ⟨many, j, e⟩
  rw [hg] at h he h3
  simp only at h he h3
  have he' : e = 0 := by simpa using he
  subst he'
  obtain ⟨i, hrs⟩ := readN_suffix k many (b.drop j)
  have hro := readR_ok (k := k) (n := many) (b := b.drop j)
  have hrl := readN_len k many (b.drop j)
  rcases hq : readR k many (b.drop j) with ⟨W', r, f⟩
  rw [hq] at h hro
  simp only at hro
  unfold tailV at h
  split at h
  · rename_i hf
    simp only [Prod.mk.injEq] at h
    exact absurd h.2.2 hf
  rename_i hf
  have hf' : f = 0 := by simpa using hf
  subst hf'
  obtain ⟨e1, e2, e3⟩ := hro rfl
  rw [← e1] at e3 hrs hrl
  simp only at h hrs
  split at h
  · rename_i hz
    simp only [Prod.mk.injEq] at h
    exact absurd h.2.2 hz
  rename_i hz
  split at h
  · rename_i hu
    simp only [Prod.mk.injEq] at h
    obtain ⟨rfl, rfl, _⟩ := h
    have hW : W'.length = many := hrl rfl
    subst hrs
    refine ⟨n.toNat, many, j, i, by omega, by omega, by simpa using hk, rfl, by omega, e1.symm, e3, hW, by simpa using hz, rfl, hu⟩
  · simp at h
set_option maxRecDepth 10000 in
set_option maxHeartbeats 2000000 in
theorem dictOf_does (b : List Nat) (n k : Int) (hl : b.length ≤ 140737488351232) (hb : ∀ c ∈ b, c < 256) (H : AHeap) :
    Does Tryz.prog 86 [.d (.list false (bys b)), iA n, iA k] H (.ok (.tup [.d (.list false ((ofDict b n k).1.map Val.enc)), iA (ofDict b n k).2])) H := by
  have htd := fun H => tocodes_does b n k hl hb H
  have hok := fun W C => toCodes_ok (b := b) (n := n) (k := k) (W := W) (C := C)
  unfold ofDict
  generalize toCodesV b n k = t at *
  obtain ⟨W, C, e⟩ := t
  simp only at htd hok ⊢
  by_cases he : e = 0
  · subst he
    obtain ⟨N, many, j, i, rfl, hN, _, _, hmN, _, _, hW, _, hC, hu⟩ := hok W C rfl
    have hlt := usedP_lt hu
    have hCl : C.length = N := by rw [hC, unpackL_len]
    clear hok hC hu
    rw [if_pos rfl]
    refine Does.of_awp (hint := (fun _ => false)) Tryz.func86 (by kernel_rfl) rfl [6, 7] (by kernel_rfl) (by decide) (by simp [Tryz.ntmps86]) ?_
    rw [Tryz.ntmps86]
    simp (implicitDefEqProofs := false) only [↓reduceIte, go_sem, Nat.reduceLT, Nat.reduceEqDiff, reduceCtorEq, eq_self]
    refine KCall.ok (htd _) ?_
    simp (implicitDefEqProofs := false) only [↓reduceIte, go_sem, Nat.reduceLT, Nat.reduceEqDiff, eq_self]
    refine awp_for (fun i s H' => H' = H ++ [.arr 25 3 i ((pickV W (C.take i)).map Val.enc)] ∧ s 8 = .d (.list false (W.map Val.enc)) ∧ s 11 = .sl H.length i 0 i ∧ s 25 = .d (.list false (us C)) ∧ s 26 = iA C.length ∧ s 27 = iA i) C.length (by omega) (Weak.virt1 _ _ 11 25 3 (by decide) (by simp (implicitDefEqProofs := false) only [↓reduceIte, go_sem, Nat.reduceLT, Nat.reduceEqDiff, eq_self]) _) ?_ ?_ ?_
    · refine ⟨rfl, ?_⟩
      simp (implicitDefEqProofs := false) only [↓reduceIte, go_sem, Nat.reduceLT, Nat.reduceEqDiff, eq_self, us_len]
    · rintro i s H' hi hw ⟨rfl, t8, t11, t25, t26, t27⟩
      have hx := us_get C i hi
      have hcl := hlt _ (List.getElem_mem hi)
      have hwg := List.getElem?_eq_getElem hcl
      have e1 : pickV W (C.take (i + 1)) = pickV W (C.take i) ++ [W[C[i]]] := by
        unfold pickV
        rw [List.take_succ_eq_append_getElem hi, List.map_append]
        simp [List.getD, hcl]
      have hpl : (pickV W (C.take i)).length = i := by unfold pickV; rw [List.length_map, List.length_take]; omega
      rw [e1]
      generalize pickV W (C.take i) = L at *
      generalize W[C[i]] = v at *
      generalize C[i] = c at *
      have hc0 : ((0 : Int) ≤ (c : Int)) = True := eq_true (by omega)
      have hsn : L.map Val.enc ++ [[D.v (.int .i64 v.kind), D.v (.int .i64 v.i), D.v (.string v.s)]] = (L ++ [v]).map Val.enc := by simp [Val.enc]
      simp (implicitDefEqProofs := false) only [↓reduceIte, go_sem, Nat.reduceAdd, Nat.reduceLT, Nat.reduceLeDiff, Nat.reduceEqDiff, eq_self, t8, t11, t25, t26, t27, hi, hx, hwg, hc0, List.length_map, hpl, hsn, Val.enc]
      refine ⟨by omega, by omega, ?_⟩
      refine Rnd.same ⟨rfl, ?_⟩
      simp (implicitDefEqProofs := false) only [↓reduceIte, go_sem, Nat.reduceLT, Nat.reduceEqDiff, eq_self, t8, t25, t26, hw]
    · rintro s H' ⟨rfl, t8, t11, t25, t26, t27⟩
      simp (implicitDefEqProofs := false) only [↓reduceIte, go_sem, Nat.reduceLT, Nat.reduceEqDiff, eq_self, t11, t26, t27]
      refine AEnd.ret ?_
      rw [List.take_length]
      simp (implicitDefEqProofs := false) only [↓reduceIte, go_sem, Nat.reduceLT, Nat.reduceEqDiff, eq_self, List.take_of_length_le (show ((pickV W C).map Val.enc).length ≤ C.length by rw [List.length_map, pickV, List.length_map]; omega)]
  · rw [if_neg he]
    refine Does.subT (cs := [.d (.v (.slice none 0 0)), iA e]) ?_ (.cons .nil (.cons (.refl _) .nil))
    refine Does.of_awp (hint := (fun _ => false)) Tryz.func86 (by kernel_rfl) rfl [6, 7] (by kernel_rfl) (by decide) (by simp [Tryz.ntmps86]) ?_
    rw [Tryz.ntmps86]
    simp (implicitDefEqProofs := false) only [↓reduceIte, go_sem, Nat.reduceLT, Nat.reduceEqDiff, reduceCtorEq, eq_self]
    refine KCall.ok (htd _) ?_
    simp (implicitDefEqProofs := false) only [↓reduceIte, go_sem, Nat.reduceLT, Nat.reduceEqDiff, eq_self, he]
    refine AEnd.ret0 ?_
    simp (implicitDefEqProofs := false) only [↓reduceIte, go_sem, Nat.reduceLT, Nat.reduceEqDiff, eq_self]
end Go.Proofs.YtmbagpfmfiegkaaGreat
namespace Go.Proofs.YtmbagpfmfiegkaaGreat
open Go.Proofs.YtmbagpfmfiegkaaGreatAw Go.RowKit
set_option linter.unusedVariables false
set_option linter.unusedSimpArgs false
/-- The codecs of a kind, whose box is this one. -/
def codecM (id : Nat) (k : Int) : List (Int × AV) :=
  [(1, .agg [.fn 75 [.ptr id 0 0 0], .fn 77 [.ptr id 0 0 0]]), (2, .agg [.fn 79 [.ptr id 0 0 0], .fn 81 [.ptr id 0 0 0]]), (3, .agg [.fn 83 [.ptr id 0 0 0], .fn 85 [.ptr id 0 0 0]])] ++
  if k = 1 then [(4, .agg [.fn 87 [], .fn 88 []])] else []
set_option maxRecDepth 10000 in
set_option maxHeartbeats 1000000 in
theorem codecs_does (k : Int) (H : AHeap) : Does Tryz.prog 46 [iA k] H (.ok (.mp (H.length + 1))) (H ++ [kB k, .mp .i64 (codecM H.length k)]) := by
  by_cases h : k = 1
  · subst h
    have hM : codecM H.length 1 = [(1, .agg [.fn 75 [.ptr H.length 0 0 0], .fn 77 [.ptr H.length 0 0 0]]), (2, .agg [.fn 79 [.ptr H.length 0 0 0], .fn 81 [.ptr H.length 0 0 0]]), (3, .agg [.fn 83 [.ptr H.length 0 0 0], .fn 85 [.ptr H.length 0 0 0]]), (4, .agg [.fn 87 [], .fn 88 []])] := by unfold codecM; rw [if_pos rfl]; rfl
    rw [hM]
    refine Does.of_awp (hint := (fun _ => false)) Tryz.func46 (by kernel_rfl) rfl [2] (by kernel_rfl) (by decide) (by simp [Tryz.ntmps46]) ?_
    rw [Tryz.ntmps46]
    simp (implicitDefEqProofs := false) only [↓reduceIte, go_sem, oread, Nat.reduceAdd, Nat.reduceLT, Nat.reduceLeDiff, Nat.reduceEqDiff, Int.reduceEq, eq_self, mpPut, mpIdx]
    unfold kB
    exact ⟨_, Weak.refl _ _, by simp (implicitDefEqProofs := false) only [↓reduceIte, go_sem, Nat.reduceLT, eq_self]⟩
  · have hM : codecM H.length k = [(1, .agg [.fn 75 [.ptr H.length 0 0 0], .fn 77 [.ptr H.length 0 0 0]]), (2, .agg [.fn 79 [.ptr H.length 0 0 0], .fn 81 [.ptr H.length 0 0 0]]), (3, .agg [.fn 83 [.ptr H.length 0 0 0], .fn 85 [.ptr H.length 0 0 0]])] := by unfold codecM; rw [if_neg h]; rfl
    rw [hM]
    refine Does.of_awp (hint := (fun _ => false)) Tryz.func46 (by kernel_rfl) rfl [2] (by kernel_rfl) (by decide) (by simp [Tryz.ntmps46]) ?_
    rw [Tryz.ntmps46]
    simp (implicitDefEqProofs := false) only [↓reduceIte, go_sem, oread, Nat.reduceAdd, Nat.reduceLT, Nat.reduceLeDiff, Nat.reduceEqDiff, Int.reduceEq, eq_self, mpPut, mpIdx, h]
    unfold kB
    exact ⟨_, Weak.refl _ _, by simp (implicitDefEqProofs := false) only [↓reduceIte, go_sem, Nat.reduceLT, eq_self]⟩
set_option maxRecDepth 10000 in
theorem putPlain_does (l : List Val) (k : Int) (hok : ∀ v ∈ l, I64 v.i) (hl : l.length ≤ 1000000000) (G : AHeap) (id : Nat) (h : G[id]? = some (kB k)) :
    Does Tryz.prog 75 [.d (.list false (l.map Val.enc)), .ptr id 0 0 0] G (.ok (.tup [.d (.list false (bys (plainL l k))), iA (plainP l k)])) G := by
  have hd := fun H => plainBytes_does l k hok H (by omega)
  unfold kB at h
  refine Does.of_awp (hint := (fun _ => false)) Tryz.func75 (by kernel_rfl) rfl [3, 4] (by kernel_rfl) (by decide) (by simp [Tryz.ntmps75]) ?_
  rw [Tryz.ntmps75]
  simp (implicitDefEqProofs := false) only [↓reduceIte, go_sem, oread, Nat.reduceLT, Nat.reduceEqDiff, reduceCtorEq, eq_self, h]
  refine KCall.ok (hd _) ?_
  simp (implicitDefEqProofs := false) only [↓reduceIte, go_sem, Nat.reduceLT, Nat.reduceEqDiff, eq_self]
  refine AEnd.ret0 ?_
  simp (implicitDefEqProofs := false) only [↓reduceIte, go_sem, Nat.reduceLT, Nat.reduceEqDiff, eq_self]
set_option maxRecDepth 10000 in
theorem putDict_does (l : List Val) (k : Int) (hok : ∀ v ∈ l, I64 v.i) (hl : l.length ≤ 1000000000) (G : AHeap) (id : Nat) (h : G[id]? = some (kB k)) :
    Does Tryz.prog 83 [.d (.list false (l.map Val.enc)), .ptr id 0 0 0] G (.ok (.tup [.d (.list false (bys (dictL l k))), iA (plainP l k)])) G := by
  have hd := fun H => dictBytes_does l k hok H (by omega)
  unfold kB at h
  refine Does.of_awp (hint := (fun _ => false)) Tryz.func83 (by kernel_rfl) rfl [3, 4] (by kernel_rfl) (by decide) (by simp [Tryz.ntmps83]) ?_
  rw [Tryz.ntmps83]
  simp (implicitDefEqProofs := false) only [↓reduceIte, go_sem, oread, Nat.reduceLT, Nat.reduceEqDiff, reduceCtorEq, eq_self, h]
  refine KCall.ok (hd _) ?_
  simp (implicitDefEqProofs := false) only [↓reduceIte, go_sem, Nat.reduceLT, Nat.reduceEqDiff, eq_self]
  refine AEnd.ret0 ?_
  simp (implicitDefEqProofs := false) only [↓reduceIte, go_sem, Nat.reduceLT, Nat.reduceEqDiff, eq_self]
set_option maxRecDepth 10000 in
theorem putRle_does (l : List Val) (k : Int) (hok : ∀ v ∈ l, I64 v.i) (hl : l.length ≤ 1000000000) (G : AHeap) (id : Nat) (h : G[id]? = some (kB k)) :
    Does Tryz.prog 79 [.d (.list false (l.map Val.enc)), .ptr id 0 0 0] G (.ok (.tup [.d (.list false (bys (rleL l k))), iA (plainP l k)])) G := by
  have hd := fun H => rleBytes_does l k hok H (by omega)
  unfold kB at h
  refine Does.of_awp (hint := (fun _ => false)) Tryz.func79 (by kernel_rfl) rfl [3, 4] (by kernel_rfl) (by decide) (by simp [Tryz.ntmps79]) ?_
  rw [Tryz.ntmps79]
  simp (implicitDefEqProofs := false) only [↓reduceIte, go_sem, oread, Nat.reduceLT, Nat.reduceEqDiff, reduceCtorEq, eq_self, h]
  refine KCall.ok (hd _) ?_
  simp (implicitDefEqProofs := false) only [↓reduceIte, go_sem, Nat.reduceLT, Nat.reduceEqDiff, eq_self]
  refine AEnd.ret0 ?_
  simp (implicitDefEqProofs := false) only [↓reduceIte, go_sem, Nat.reduceLT, Nat.reduceEqDiff, eq_self]
set_option maxRecDepth 10000 in
theorem getPlain_does (b : List Nat) (n k : Int) (hl : b.length ≤ 140737488351232) (hb : ∀ c ∈ b, c < 256) (G : AHeap) (id : Nat) (h : G[id]? = some (kB k)) :
    Does Tryz.prog 77 [.d (.list false (bys b)), iA n, .ptr id 0 0 0] G (.ok (.tup [.d (.list false ((plainOfP b n k).1.map Val.enc)), iA (plainOfP b n k).2])) G := by
  have hd := fun H => plainOf_does b n k hl hb H
  unfold kB at h
  refine Does.of_awp (hint := (fun _ => false)) Tryz.func77 (by kernel_rfl) rfl [5, 6] (by kernel_rfl) (by decide) (by simp [Tryz.ntmps77]) ?_
  rw [Tryz.ntmps77]
  simp (implicitDefEqProofs := false) only [↓reduceIte, go_sem, oread, Nat.reduceLT, Nat.reduceEqDiff, reduceCtorEq, eq_self, h]
  refine KCall.ok (hd _) ?_
  simp (implicitDefEqProofs := false) only [↓reduceIte, go_sem, Nat.reduceLT, Nat.reduceEqDiff, eq_self]
  refine AEnd.ret0 ?_
  simp (implicitDefEqProofs := false) only [↓reduceIte, go_sem, Nat.reduceLT, Nat.reduceEqDiff, eq_self]
set_option maxRecDepth 10000 in
theorem getDict_does (b : List Nat) (n k : Int) (hl : b.length ≤ 140737488351232) (hb : ∀ c ∈ b, c < 256) (G : AHeap) (id : Nat) (h : G[id]? = some (kB k)) :
    Does Tryz.prog 85 [.d (.list false (bys b)), iA n, .ptr id 0 0 0] G (.ok (.tup [.d (.list false ((ofDict b n k).1.map Val.enc)), iA (ofDict b n k).2])) G := by
  have hd := fun H => dictOf_does b n k hl hb H
  unfold kB at h
  refine Does.of_awp (hint := (fun _ => false)) Tryz.func85 (by kernel_rfl) rfl [5, 6] (by kernel_rfl) (by decide) (by simp [Tryz.ntmps85]) ?_
  rw [Tryz.ntmps85]
  simp (implicitDefEqProofs := false) only [↓reduceIte, go_sem, oread, Nat.reduceLT, Nat.reduceEqDiff, reduceCtorEq, eq_self, h]
  refine KCall.ok (hd _) ?_
  simp (implicitDefEqProofs := false) only [↓reduceIte, go_sem, Nat.reduceLT, Nat.reduceEqDiff, eq_self]
  refine AEnd.ret0 ?_
  simp (implicitDefEqProofs := false) only [↓reduceIte, go_sem, Nat.reduceLT, Nat.reduceEqDiff, eq_self]
end Go.Proofs.YtmbagpfmfiegkaaGreat

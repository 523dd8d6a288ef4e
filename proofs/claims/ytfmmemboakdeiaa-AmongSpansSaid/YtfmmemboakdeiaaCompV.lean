/- slices.CompactFunc over Val: what it does. -/
import Derived.Test.YtfmmemboakdeiaaInsSV
import Derived.Test.YtfmmemboakdeiaaCompP
namespace Go.Proofs.Ytfmmemboakdeiaa
open Go.Proofs.YtfmmemboakdeiaaAw Go.RowKit
set_option linter.unusedVariables false
set_option linter.unusedSimpArgs false
namespace SV
def EqOk (g : FuncId) (caps : List AV) (c : Val → Val → Bool) (H : AHeap) (id : Nat) : Prop := ∀ (o : AObj) (x y : Val), Does Try.prog g ([.agg (x.enc.map .d), .agg (y.enc.map .d)] ++ caps) (H.set id o) (.ok (bA (c x y))) (H.set id o)
def zrow : List D := [iD 0, iD 0, .v (.string ⟨#[]⟩)]
def compH (H : AHeap) (id ver : Nat) (c : Val → Val → Bool) (L : List Val) : AHeap := H.set id (.arr 26 3 ver ((St.compactP c L).map Val.enc ++ List.replicate (L.length - (St.compactP c L).length) zrow))
theorem compH_same (H : AHeap) (id ver : Nat) (c : Val → Val → Bool) (L : List Val) (h : St.compactP c L = L) : compH H id ver c L = aH H id ver L := by
  unfold compH aH
  rw [h, Nat.sub_self, List.replicate_zero, List.append_nil]
set_option maxRecDepth 10000 in
set_option maxHeartbeats 4000000 in
theorem compact_does (H : AHeap) (id ver : Nat) (hid : id < H.length) (g : FuncId) (caps : List AV) (c : Val → Val → Bool) (hc : EqOk g caps c H id) (n : Nat) (hbig : n ≤ 100000000000) (L : List Val) (hn : L.length = n) :
    Does Try.prog 28 [.sl id ver 0 n, .fn g caps] (aH H id ver L) (.ok (.sl id ver 0 (St.compactP c L).length)) (compH H id ver c L) := by
  have gh := aH_get hid ver L
  have hcE : ∀ M : List Val, ∀ x y : Val, Does Try.prog g ([.agg (x.enc.map .d), .agg (y.enc.map .d)] ++ caps) (aH H id ver M) (.ok (bA (c x y))) (aH H id ver M) := fun M x y => hc _ x y
  generalize hE1 : compH H id ver c L = E1
  by_cases h2 : n < 2
  · have hsame : St.compactP c L = L := by
      cases L with
      | nil => rfl
      | cons x t =>
        cases t with
        | nil => rfl
        | cons y t => simp at hn; omega
    have he : aH H id ver L = E1 := by rw [← hE1, compH_same _ _ _ _ _ hsame]
    rw [hsame, hn]
    generalize aH H id ver L = E0 at *
    subst he
    refine Does.of_awp (hint := (fun _ => false)) Try.func28 (by kernel_rfl) rfl [4] (by kernel_rfl) (by decide) (by simp [Try.ntmps28]) ?_
    rw [Try.ntmps28]
    simp (implicitDefEqProofs := false) only [↓reduceIte, go_sem, oread, owrite, Nat.reduceAdd, Nat.reduceSub, Nat.reduceMul, Nat.reduceLT, Nat.reduceLeDiff, Nat.reduceEqDiff, Nat.reduceBEq, Int.reduceLE, Int.reduceLT, Int.reduceEq, Int.reduceNe, Int.reduceAdd, Int.reduceSub, Int.reduceMul, Int.reduceNeg, Int.reduceToNat, Int.reduceNatCast, reduceCtorEq, eq_self, gh, show ((n : Int) < 2) = True from eq_true (by omega)]
    refine AEnd.ret0 ?_
    simp (implicitDefEqProofs := false) only [↓reduceIte, go_sem, oread, owrite, Nat.reduceAdd, Nat.reduceSub, Nat.reduceMul, Nat.reduceLT, Nat.reduceLeDiff, Nat.reduceEqDiff, Nat.reduceBEq, Int.reduceLE, Int.reduceLT, Int.reduceEq, Int.reduceNe, Int.reduceAdd, Int.reduceSub, Int.reduceMul, Int.reduceNeg, Int.reduceToNat, Int.reduceNatCast, reduceCtorEq, eq_self]
  generalize hE0 : aH H id ver L = E0 at gh
  refine Does.of_awp (hint := (fun _ => false)) Try.func28 (by kernel_rfl) rfl [4] (by kernel_rfl) (by decide) (by simp [Try.ntmps28]) ?_
  rw [Try.ntmps28]
  simp (implicitDefEqProofs := false) only [↓reduceIte, go_sem, oread, owrite, Nat.reduceAdd, Nat.reduceSub, Nat.reduceMul, Nat.reduceLT, Nat.reduceLeDiff, Nat.reduceEqDiff, Nat.reduceBEq, Int.reduceLE, Int.reduceLT, Int.reduceEq, Int.reduceNe, Int.reduceAdd, Int.reduceSub, Int.reduceMul, Int.reduceNeg, Int.reduceToNat, Int.reduceNatCast, reduceCtorEq, eq_self, gh, show ((n : Int) < 2) = False from eq_false (by omega)]
  refine awp_for3 (fun k s H' => H' = E0 ∧ St.compactP c (L.take (k + 1)) = L.take (k + 1) ∧ s 0 = .sl id ver 0 n ∧ s 1 = .fn g caps ∧ s 5 = iA ((k : Int) + 1)) (n - 1) (by omega) (Weak.refl _ _) ?_ ?_ ?_
  · refine ⟨rfl, ?_, ?_⟩
    · cases L <;> rfl
    · simp (implicitDefEqProofs := false) only [↓reduceIte, go_sem, oread, owrite, Nat.reduceAdd, Nat.reduceSub, Nat.reduceMul, Nat.reduceLT, Nat.reduceLeDiff, Nat.reduceEqDiff, Nat.reduceBEq, Int.reduceLE, Int.reduceLT, Int.reduceEq, Int.reduceNe, Int.reduceAdd, Int.reduceSub, Int.reduceMul, Int.reduceNeg, Int.reduceToNat, Int.reduceNatCast, reduceCtorEq, eq_self]
  · rintro k s H' hk hw ⟨rfl, hp, t0, t1, t5⟩
    obtain ⟨q, hq⟩ : ∃ q, q = k + 1 := ⟨_, rfl⟩
    obtain ⟨x, hx⟩ : ∃ x, L[q]? = some x := ⟨_, List.getElem?_eq_getElem (by omega)⟩
    obtain ⟨y, hy⟩ : ∃ y, L[k]? = some y := ⟨_, List.getElem?_eq_getElem (by omega)⟩
    have e1 : L.take (q + 1) = L.take q ++ [x] := by rw [List.take_add_one, hx]; rfl
    have hsn : St.compactP c (L.take (q + 1)) = St.compactP c (L.take q) ++ (if c x y = true then [] else [x]) := by
      rw [e1]
      exact St.compactP_snoc (k := k) (by rw [List.length_take]; omega) (by rw [List.getElem?_take, if_pos (by omega)]; exact hy)
    rw [← hq] at hp
    have f1 : ((k : Int) + 1) = (q : Int) := by omega
    rw [f1] at t5
    have gx := get_enc hx
    have gy := get_enc hy
    have hd := hcE L x y
    rw [hE0] at hd
    have w1 : IntKind.i64.wrap ((q : Int) - 1) = (k : Int) := by rw [wrap64_in _ (by omega) (by omega)]; omega
    have w2 : IntKind.i64.wrap ((q : Int) + 1) = (q : Int) + 1 := wrap64_in _ (by omega) (by omega)
    have hqn : q < n := by omega
    have hkn : k < n := by omega
    simp only [Val.enc] at gx gy
    simp only [Val.enc, List.map_cons, List.map_nil] at hd
    simp (implicitDefEqProofs := false) only [↓reduceIte, go_sem, oread, owrite, Nat.reduceAdd, Nat.reduceSub, Nat.reduceMul, Nat.reduceLT, Nat.reduceLeDiff, Nat.reduceEqDiff, Nat.reduceBEq, Int.reduceLE, Int.reduceLT, Int.reduceEq, Int.reduceNe, Int.reduceAdd, Int.reduceSub, Int.reduceMul, Int.reduceNeg, Int.reduceToNat, Int.reduceNatCast, reduceCtorEq, eq_self, t0, t5, gh, eq_true hqn]
    refine awp_draw K.mixed (by kernel_rfl) ?_
    simp (implicitDefEqProofs := false) only [↓reduceIte, go_sem, oread, owrite, Nat.reduceAdd, Nat.reduceSub, Nat.reduceMul, Nat.reduceLT, Nat.reduceLeDiff, Nat.reduceEqDiff, Nat.reduceBEq, Int.reduceLE, Int.reduceLT, Int.reduceEq, Int.reduceNe, Int.reduceAdd, Int.reduceSub, Int.reduceMul, Int.reduceNeg, Int.reduceToNat, Int.reduceNatCast, reduceCtorEq, eq_self, t0, t1, t5, gh, gx, gy, hqn, hkn, w1]
    refine KCall.ok hd ?_
    cases hcc : c x y with
    | false =>
      rw [hcc] at hsn
      simp (implicitDefEqProofs := false) only [↓reduceIte, go_sem, oread, owrite, Nat.reduceAdd, Nat.reduceSub, Nat.reduceMul, Nat.reduceLT, Nat.reduceLeDiff, Nat.reduceEqDiff, Nat.reduceBEq, Int.reduceLE, Int.reduceLT, Int.reduceEq, Int.reduceNe, Int.reduceAdd, Int.reduceSub, Int.reduceMul, Int.reduceNeg, Int.reduceToNat, Int.reduceNatCast, reduceCtorEq, eq_self, t5, w2]
      refine Rnd.same ⟨rfl, ?_, ?_⟩
      · rw [← hq, hsn, hp, e1]; rfl
      · simp (implicitDefEqProofs := false) only [↓reduceIte, go_sem, oread, owrite, Nat.reduceAdd, Nat.reduceSub, Nat.reduceMul, Nat.reduceLT, Nat.reduceLeDiff, Nat.reduceEqDiff, Nat.reduceBEq, Int.reduceLE, Int.reduceLT, Int.reduceEq, Int.reduceNe, Int.reduceAdd, Int.reduceSub, Int.reduceMul, Int.reduceNeg, Int.reduceToNat, Int.reduceNatCast, reduceCtorEq, eq_self, t0, t1, show ((k : Int) + 1) = (q : Int) by omega]
    | true =>
      rw [hcc] at hsn
      have hsn2 : St.compactP c (L.take (q + 1)) = L.take q := by rw [hsn, hp]; simp
      simp (implicitDefEqProofs := false) only [↓reduceIte, go_sem, oread, owrite, Nat.reduceAdd, Nat.reduceSub, Nat.reduceMul, Nat.reduceLT, Nat.reduceLeDiff, Nat.reduceEqDiff, Nat.reduceBEq, Int.reduceLE, Int.reduceLT, Int.reduceEq, Int.reduceNe, Int.reduceAdd, Int.reduceSub, Int.reduceMul, Int.reduceNeg, Int.reduceToNat, Int.reduceNatCast, reduceCtorEq, eq_self, t0, t5, gh]
      refine ⟨by omega, .inr (by omega), ?_⟩
      have hnq : ((n : Int).toNat - q) = n - q := by omega
      refine awp_for3 (fun k2 s H' => (∃ C K1, H' = aH H id ver C ∧ C = K1 ++ L.drop K1.length ∧ K1 = St.compactP c (L.take (q + k2 + 1)) ∧ K1.length ≤ q + k2 ∧ s 5 = iA K1.length) ∧ s 0 = .sl id ver 0 n ∧ s 1 = .fn g caps ∧ s 6 = .sl id ver q (n - q) ∧ s 7 = iA ((k2 : Int) + 1)) (n - q - 1) (by omega) (Weak.refl _ _) ?_ ?_ ?_
      · refine ⟨⟨L, L.take q, hE0.symm, ?_, ?_, ?_, ?_⟩, ?_⟩
        · rw [List.length_take, Nat.min_eq_left (by omega), List.take_append_drop]
        · rw [Nat.add_zero]; exact hsn2.symm
        · rw [List.length_take]; omega
        · rw [List.length_take, Nat.min_eq_left (by omega)]; simp (implicitDefEqProofs := false) only [↓reduceIte, go_sem, oread, owrite, Nat.reduceAdd, Nat.reduceSub, Nat.reduceMul, Nat.reduceLT, Nat.reduceLeDiff, Nat.reduceEqDiff, Nat.reduceBEq, Int.reduceLE, Int.reduceLT, Int.reduceEq, Int.reduceNe, Int.reduceAdd, Int.reduceSub, Int.reduceMul, Int.reduceNeg, Int.reduceToNat, Int.reduceNatCast, reduceCtorEq, eq_self, t5]
        · simp (implicitDefEqProofs := false) only [↓reduceIte, go_sem, oread, owrite, Nat.reduceAdd, Nat.reduceSub, Nat.reduceMul, Nat.reduceLT, Nat.reduceLeDiff, Nat.reduceEqDiff, Nat.reduceBEq, Int.reduceLE, Int.reduceLT, Int.reduceEq, Int.reduceNe, Int.reduceAdd, Int.reduceSub, Int.reduceMul, Int.reduceNeg, Int.reduceToNat, Int.reduceNatCast, reduceCtorEq, eq_self, t0, t1, Nat.zero_add, hnq]
      · rintro k2 s H' hk2 hw3 ⟨⟨C, K1, rfl, hC, hK1, hKl, t5⟩, t0, t1, t6, t7⟩
        obtain ⟨u, hu⟩ : ∃ u, u = k2 + 1 := ⟨_, rfl⟩
        obtain ⟨v, hv⟩ : ∃ v, v = q + u := ⟨_, rfl⟩
        obtain ⟨x2, hx2⟩ : ∃ x, L[v]? = some x := ⟨_, List.getElem?_eq_getElem (by omega)⟩
        obtain ⟨y2, hy2⟩ : ∃ y, L[v - 1]? = some y := ⟨_, List.getElem?_eq_getElem (by omega)⟩
        have hCg : ∀ i, K1.length ≤ i → C[i]? = L[i]? := fun i hi => by
          rw [hC, List.getElem?_append_right hi, List.getElem?_drop, Nat.add_sub_cancel' hi]
        have hCl : C.length = n := by rw [hC, List.length_append, List.length_drop]; omega
        have e2 : L.take (v + 1) = L.take v ++ [x2] := by rw [List.take_add_one, hx2]; rfl
        have hsn3 : St.compactP c (L.take (v + 1)) = K1 ++ (if c x2 y2 = true then [] else [x2]) := by
          rw [e2, hK1, show q + k2 + 1 = v by omega]
          exact St.compactP_snoc (k := v - 1) (by rw [List.length_take]; omega) (by rw [List.getElem?_take, if_pos (by omega)]; exact hy2)
        have gx2 := get_enc ((hCg v (by omega)).trans hx2)
        have gy2 := get_enc ((hCg (v - 1) (by omega)).trans hy2)
        have hd2 := hcE C x2 y2
        have gC := aH_get hid ver C
        have f2 : ((k2 : Int) + 1) = (u : Int) := by omega
        rw [f2] at t7
        have w3 : IntKind.i64.wrap ((u : Int) - 1) = (k2 : Int) := by rw [wrap64_in _ (by omega) (by omega)]; omega
        have w4 : IntKind.i64.wrap ((u : Int) + 1) = (u : Int) + 1 := wrap64_in _ (by omega) (by omega)
        have f3 : q + u = v := hv.symm
        have f4 : q + k2 = v - 1 := by omega
        have hun : u < n - q := by omega
        have hkn2 : k2 < n - q := by omega
        simp only [Val.enc] at gx2 gy2
        simp only [Val.enc, List.map_cons, List.map_nil] at hd2
        simp (implicitDefEqProofs := false) only [↓reduceIte, go_sem, oread, owrite, Nat.reduceAdd, Nat.reduceSub, Nat.reduceMul, Nat.reduceLT, Nat.reduceLeDiff, Nat.reduceEqDiff, Nat.reduceBEq, Int.reduceLE, Int.reduceLT, Int.reduceEq, Int.reduceNe, Int.reduceAdd, Int.reduceSub, Int.reduceMul, Int.reduceNeg, Int.reduceToNat, Int.reduceNatCast, reduceCtorEq, eq_self, t6, t7, gC, eq_true hun]
        refine awp_draw K.mixed (by kernel_rfl) ?_
        simp (implicitDefEqProofs := false) only [↓reduceIte, go_sem, oread, owrite, Nat.reduceAdd, Nat.reduceSub, Nat.reduceMul, Nat.reduceLT, Nat.reduceLeDiff, Nat.reduceEqDiff, Nat.reduceBEq, Int.reduceLE, Int.reduceLT, Int.reduceEq, Int.reduceNe, Int.reduceAdd, Int.reduceSub, Int.reduceMul, Int.reduceNeg, Int.reduceToNat, Int.reduceNatCast, reduceCtorEq, eq_self, t1, t6, t7, gC, w3, hun, hkn2, f3, f4, gx2, gy2]
        refine KCall.ok hd2 ?_
        cases hc2 : c x2 y2 with
        | true =>
          rw [hc2] at hsn3
          simp (implicitDefEqProofs := false) only [↓reduceIte, go_sem, oread, owrite, Nat.reduceAdd, Nat.reduceSub, Nat.reduceMul, Nat.reduceLT, Nat.reduceLeDiff, Nat.reduceEqDiff, Nat.reduceBEq, Int.reduceLE, Int.reduceLT, Int.reduceEq, Int.reduceNe, Int.reduceAdd, Int.reduceSub, Int.reduceMul, Int.reduceNeg, Int.reduceToNat, Int.reduceNatCast, reduceCtorEq, eq_self, t7, w4]
          refine Rnd.same ⟨⟨C, K1, rfl, hC, ?_, by omega, ?_⟩, ?_⟩
          · rw [show q + (k2 + 1) + 1 = v + 1 by omega, hsn3]; simp
          · simp (implicitDefEqProofs := false) only [↓reduceIte, go_sem, oread, owrite, Nat.reduceAdd, Nat.reduceSub, Nat.reduceMul, Nat.reduceLT, Nat.reduceLeDiff, Nat.reduceEqDiff, Nat.reduceBEq, Int.reduceLE, Int.reduceLT, Int.reduceEq, Int.reduceNe, Int.reduceAdd, Int.reduceSub, Int.reduceMul, Int.reduceNeg, Int.reduceToNat, Int.reduceNatCast, reduceCtorEq, eq_self, t5]
          · simp (implicitDefEqProofs := false) only [↓reduceIte, go_sem, oread, owrite, Nat.reduceAdd, Nat.reduceSub, Nat.reduceMul, Nat.reduceLT, Nat.reduceLeDiff, Nat.reduceEqDiff, Nat.reduceBEq, Int.reduceLE, Int.reduceLT, Int.reduceEq, Int.reduceNe, Int.reduceAdd, Int.reduceSub, Int.reduceMul, Int.reduceNeg, Int.reduceToNat, Int.reduceNatCast, reduceCtorEq, eq_self, t0, t1, t6, show ((k2 : Int) + 1) = (u : Int) by omega]
        | false =>
          rw [hc2] at hsn3
          obtain ⟨r, hr⟩ : ∃ r, r = K1.length := ⟨_, rfl⟩
          rw [← hr] at t5
          have hrn : r < n := by omega
          have w5 : IntKind.i64.wrap ((r : Int) + 1) = ((r + 1 : Nat) : Int) := by rw [wrap64_in _ (by omega) (by omega)]; omega
          obtain ⟨r2, hr2⟩ : ∃ r2, r2 = r + 1 := ⟨_, rfl⟩
          rw [← hr2] at w5
          have s1 := set_enc C r x2
          obtain ⟨z0, hz0⟩ : ∃ z, C[r]? = some z := ⟨_, List.getElem?_eq_getElem (by omega)⟩
          have gz := get_enc hz0
          simp only [Val.enc] at s1 gz
          simp (implicitDefEqProofs := false) only [↓reduceIte, go_sem, oread, owrite, Nat.reduceAdd, Nat.reduceSub, Nat.reduceMul, Nat.reduceLT, Nat.reduceLeDiff, Nat.reduceEqDiff, Nat.reduceBEq, Int.reduceLE, Int.reduceLT, Int.reduceEq, Int.reduceNe, Int.reduceAdd, Int.reduceSub, Int.reduceMul, Int.reduceNeg, Int.reduceToNat, Int.reduceNatCast, reduceCtorEq, eq_self, t0, t5, t6, t7, gC, hun, hrn, f3, gx2, gz, s1, aH_set, w4, w5]
          refine Rnd.same ⟨⟨C.set r x2, K1 ++ [x2], by rw [← aH_fold], ?_, ?_, ?_, ?_⟩, ?_⟩
          · have e3 : L.drop r = L[r]'(by omega) :: L.drop (r + 1) := List.drop_eq_getElem_cons (by omega)
            rw [hC, ← hr, e3, set_at hr.symm]; simp [hr]
          · rw [show q + (k2 + 1) + 1 = v + 1 by omega, hsn3]; simp
          · rw [List.length_append, List.length_singleton]; omega
          · simp (implicitDefEqProofs := false) only [↓reduceIte, go_sem, oread, owrite, Nat.reduceAdd, Nat.reduceSub, Nat.reduceMul, Nat.reduceLT, Nat.reduceLeDiff, Nat.reduceEqDiff, Nat.reduceBEq, Int.reduceLE, Int.reduceLT, Int.reduceEq, Int.reduceNe, Int.reduceAdd, Int.reduceSub, Int.reduceMul, Int.reduceNeg, Int.reduceToNat, Int.reduceNatCast, reduceCtorEq, eq_self, List.length_append, show ((K1.length : Int) + 1) = (r2 : Int) by omega]
          · simp (implicitDefEqProofs := false) only [↓reduceIte, go_sem, oread, owrite, Nat.reduceAdd, Nat.reduceSub, Nat.reduceMul, Nat.reduceLT, Nat.reduceLeDiff, Nat.reduceEqDiff, Nat.reduceBEq, Int.reduceLE, Int.reduceLT, Int.reduceEq, Int.reduceNe, Int.reduceAdd, Int.reduceSub, Int.reduceMul, Int.reduceNeg, Int.reduceToNat, Int.reduceNatCast, reduceCtorEq, eq_self, t0, t1, t6, show ((k2 : Int) + 1) = (u : Int) by omega]
      · rintro s H' ⟨⟨C, K1, rfl, hC, hK1, hKl, t5⟩, t0, t1, t6, t7⟩
        have hK2 : St.compactP c L = K1 := by rw [hK1, List.take_of_length_le (by omega)]
        have hCl : C.length = n := by rw [hC, List.length_append, List.length_drop]; omega
        have gC := aH_get hid ver C
        have hlt : ((((n - q - 1 : Nat) : Int) + 1) < ((n - q : Nat) : Int)) = False := eq_false (by omega)
        obtain ⟨r, hr⟩ : ∃ r, r = K1.length := ⟨_, rfl⟩
        rw [← hr] at t5
        have hrn : ((n : Int).toNat - r) = n - r := by omega
        have hCt : C.take r = K1 := by rw [hC, hr, List.take_left]
        have hsr : setRows (C.map Val.enc) r (zrows (.agg #[.int .i64 0, .int .i64 0, .string ⟨#[]⟩]) (n - r)) = (St.compactP c L).map Val.enc ++ List.replicate (L.length - (St.compactP c L).length) zrow := by
          unfold setRows
          rw [← List.map_take, hCt, List.drop_of_length_le (by simp [zrows]; omega), List.append_nil, hK2, hn, ← hr]
          rfl
        have hfo : H.set id (.arr 26 3 ver ((St.compactP c L).map Val.enc ++ List.replicate (L.length - (St.compactP c L).length) zrow)) = E1 := hE1
        have gE : E1[id]? = some (.arr 26 3 ver ((St.compactP c L).map Val.enc ++ List.replicate (L.length - (St.compactP c L).length) zrow)) := by rw [← hfo]; simp [hid]
        simp (implicitDefEqProofs := false) only [↓reduceIte, go_sem, oread, owrite, Nat.reduceAdd, Nat.reduceSub, Nat.reduceMul, Nat.reduceLT, Nat.reduceLeDiff, Nat.reduceEqDiff, Nat.reduceBEq, Int.reduceLE, Int.reduceLT, Int.reduceEq, Int.reduceNe, Int.reduceAdd, Int.reduceSub, Int.reduceMul, Int.reduceNeg, Int.reduceToNat, Int.reduceNatCast, reduceCtorEq, eq_self, t0, t5, t6, t7, gC, hlt]
        refine ⟨by omega, .inr (by omega), ?_⟩
        rw [hsr, aH_set, hfo]
        simp (implicitDefEqProofs := false) only [↓reduceIte, go_sem, oread, owrite, Nat.reduceAdd, Nat.reduceSub, Nat.reduceMul, Nat.reduceLT, Nat.reduceLeDiff, Nat.reduceEqDiff, Nat.reduceBEq, Int.reduceLE, Int.reduceLT, Int.reduceEq, Int.reduceNe, Int.reduceAdd, Int.reduceSub, Int.reduceMul, Int.reduceNeg, Int.reduceToNat, Int.reduceNatCast, reduceCtorEq, eq_self, t0, t5, gE]
        refine ⟨by omega, .inl trivial, _, Weak.refl _ _, ?_⟩
        simp (implicitDefEqProofs := false) only [↓reduceIte, go_sem, oread, owrite, Nat.reduceAdd, Nat.reduceSub, Nat.reduceMul, Nat.reduceLT, Nat.reduceLeDiff, Nat.reduceEqDiff, Nat.reduceBEq, Int.reduceLE, Int.reduceLT, Int.reduceEq, Int.reduceNe, Int.reduceAdd, Int.reduceSub, Int.reduceMul, Int.reduceNeg, Int.reduceToNat, Int.reduceNatCast, reduceCtorEq, eq_self, hK2, ← hr, Nat.sub_zero]
  · rintro s H' ⟨rfl, hp, t0, t1, t5⟩
    have hsame : St.compactP c L = L := by rwa [show n - 1 + 1 = n by omega, ← hn, List.take_length] at hp
    have he : H' = E1 := by rw [← hE1, compH_same _ _ _ _ _ hsame, hE0]
    simp (implicitDefEqProofs := false) only [↓reduceIte, go_sem, oread, owrite, Nat.reduceAdd, Nat.reduceSub, Nat.reduceMul, Nat.reduceLT, Nat.reduceLeDiff, Nat.reduceEqDiff, Nat.reduceBEq, Int.reduceLE, Int.reduceLT, Int.reduceEq, Int.reduceNe, Int.reduceAdd, Int.reduceSub, Int.reduceMul, Int.reduceNeg, Int.reduceToNat, Int.reduceNatCast, reduceCtorEq, eq_self, t0, t5, gh, show (((n - 1 : Nat) : Int) + 1 < (n : Int)) = False from eq_false (by omega)]
    rw [← he, hsame, hn]
    refine AEnd.ret0 ?_
    simp (implicitDefEqProofs := false) only [↓reduceIte, go_sem, oread, owrite, Nat.reduceAdd, Nat.reduceSub, Nat.reduceMul, Nat.reduceLT, Nat.reduceLeDiff, Nat.reduceEqDiff, Nat.reduceBEq, Int.reduceLE, Int.reduceLT, Int.reduceEq, Int.reduceNe, Int.reduceAdd, Int.reduceSub, Int.reduceMul, Int.reduceNeg, Int.reduceToNat, Int.reduceNatCast, reduceCtorEq, eq_self]
end SV
end Go.Proofs.Ytfmmemboakdeiaa

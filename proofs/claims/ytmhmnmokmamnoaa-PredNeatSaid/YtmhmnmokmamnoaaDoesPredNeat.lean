/- The law PredNeat: what it does. -/
import Derived.Test.YtmhmnmokmamnoaaDoesPredChecks
namespace Go.Proofs.Ytmhmnmokmamnoaa
open Go.Proofs.YtmhmnmokmamnoaaAw Go.RowKit
set_option linter.unusedVariables false
set_option linter.unusedSimpArgs false
/-! ### What is made neat -/
theorem cgo_sorted {α : Type} {c : α → α → Int} (ht : Tri c) : ∀ {t : List α} {p : α}, St.Sorted (ltT c) (p :: t) → (p :: St.cgo (fun a b => decide (c a b = 0)) p t).Pairwise (fun x y => ltT c x y = true) ∧ ∀ x ∈ t, ∃ y ∈ p :: St.cgo (fun a b => decide (c a b = 0)) p t, c x y = 0
  | [], p, _ => by simp [St.cgo]
  | y :: t, p, h => by
    have h1 := List.pairwise_cons.1 h
    have h2 := List.pairwise_cons.1 h1.2
    have hp : ltT c y p = false := h1.1 y (by simp)
    unfold St.cgo
    by_cases he : c y p = 0
    · rw [if_pos (by simpa using he)]
      have hs : St.Sorted (ltT c) (p :: t) := List.pairwise_cons.2 ⟨fun z hz => h1.1 z (by simp [hz]), h2.2⟩
      -- the neighbour's own walk goes on from y: alike to p
      have key : ∀ (t : List α) (y p : α), c y p = 0 → St.cgo (fun a b => decide (c a b = 0)) y t = St.cgo (fun a b => decide (c a b = 0)) p t := by
        intro t
        cases t with
        | nil => intros; rfl
        | cons z t =>
          intro y p h
          unfold St.cgo
          have : decide (c z y = 0) = decide (c z p = 0) := by
            rw [Bool.eq_iff_iff, decide_eq_true_eq, decide_eq_true_eq]
            exact ⟨fun g => ht.zero_trans g h, fun g => ht.zero_trans g ((ht.zero y p).1 h)⟩
          rw [this]
      rw [key t y p he]
      obtain ⟨i1, i2⟩ := cgo_sorted ht hs
      refine ⟨i1, fun x hx => ?_⟩
      rcases List.mem_cons.1 hx with rfl | hx
      · exact ⟨p, by simp, he⟩
      · exact i2 x hx
    · rw [if_neg (by simpa using he)]
      obtain ⟨i1, i2⟩ := cgo_sorted ht h1.2
      have hlt : ltT c p y = true := by
        simp only [ltT, decide_eq_true_eq, decide_eq_false_iff_not] at hp ⊢
        have := ht.anti p y
        omega
      refine ⟨List.pairwise_cons.2 ⟨fun z hz => ?_, i1⟩, fun x hx => ?_⟩
      · rcases List.mem_cons.1 hz with rfl | hz
        · exact hlt
        · exact ht.ord.trans hlt ((List.pairwise_cons.1 i1).1 z hz)
      · rcases List.mem_cons.1 hx with rfl | hx
        · exact ⟨x, by simp, ht.self x⟩
        · obtain ⟨z, hz, hc⟩ := i2 x hx
          exact ⟨z, List.mem_cons_of_mem _ hz, hc⟩
theorem compact_sorted {α : Type} {c : α → α → Int} (ht : Tri c) {l : List α} (h : St.Sorted (ltT c) l) : (St.compactP (fun a b => decide (c a b = 0)) l).Pairwise (fun x y => ltT c x y = true) ∧ ∀ x ∈ l, ∃ y ∈ St.compactP (fun a b => decide (c a b = 0)) l, c x y = 0 := by
  cases l with
  | nil => simp [St.compactP]
  | cons p t =>
    obtain ⟨h1, h2⟩ := cgo_sorted ht h
    refine ⟨h1, fun x hx => ?_⟩
    rcases List.mem_cons.1 hx with rfl | hx
    · exact ⟨x, by simp [St.compactP], ht.self x⟩
    · exact h2 x hx
theorem compact_rise {α : Type} {c : α → α → Int} (ht : Tri c) : ∀ {l : List α}, l.Pairwise (fun x y => ltT c x y = true) → St.compactP (fun a b => decide (c a b = 0)) l = l := by
  intro l h
  cases l with
  | nil => rfl
  | cons p t =>
    simp only [St.compactP]
    congr 1
    induction t generalizing p with
    | nil => rfl
    | cons y t ih =>
      have h1 := List.pairwise_cons.1 h
      unfold St.cgo
      have : ¬ c y p = 0 := fun e => by
        have h3 := h1.1 y (by simp)
        simp only [ltT, decide_eq_true_eq] at h3
        have := (ht.zero y p).1 e
        omega
      rw [if_neg (by simpa using this)]
      congr 1
      exact ih y h1.2
theorem rise_sorted {α : Type} {c : α → α → Int} (ht : Tri c) {l : List α} (h : l.Pairwise (fun x y => ltT c x y = true)) : St.Sorted (ltT c) l := h.imp fun {x y} hx => ht.ord.asym x y hx
/-- Words: what is sorted, each once. -/
def wordsP {α : Type} (c : α → α → Int) (l : List α) : List α := St.compactP (fun a b => decide (c a b = 0)) (St.sortS (ltT c) l)
theorem words_rise {α : Type} {c : α → α → Int} (ht : Tri c) (l : List α) : (wordsP c l).Pairwise (fun x y => ltT c x y = true) := (compact_sorted ht (St.sortS_sorted ht.ord l)).1
theorem words_mem {α : Type} {c : α → α → Int} (ht : Tri c) {l : List α} {x : α} (h : x ∈ wordsP c l) : x ∈ l := (St.sortS_mem ht.ord).1 (compactP_mem h)
theorem words_has {α : Type} {c : α → α → Int} (ht : Tri c) {l : List α} {x : α} (h : x ∈ l) : ∃ y ∈ wordsP c l, c x y = 0 := (compact_sorted ht (St.sortS_sorted ht.ord l)).2 x ((St.sortS_mem ht.ord).2 h)
theorem words_idem {α : Type} {c : α → α → Int} (ht : Tri c) (l : List α) : wordsP c (wordsP c l) = wordsP c l := by
  have h := words_rise ht l
  generalize wordsP c l = m at h
  unfold wordsP
  rw [St.sortS_self ht.ord (rise_sorted ht h), compact_rise ht h]
theorem neatP_eq (l : List Atom) : neatP l = wordsP cmpA l := rfl
theorem neatP_idem (l : List Atom) : neatP (neatP l) = neatP l := words_idem cmpA_tri l
/-! ### Atoms that may be are one where they stand alike -/
theorem keyN_inj {a b : Nat} (ha : a < 18446744073709551616) (hb : b < 18446744073709551616) (h : keyN a = keyN b) : cleanN a = cleanN b := by
  have h1 := cleanN_lt a ha
  have h2 := cleanN_lt b hb
  unfold keyN at h
  split at h <;> split at h <;> omega
theorem toU_inj {a b : Int} (ha : I64 a) (hb : I64 b) (h : toU a = toU b) : a = b := by
  unfold toU at h
  obtain ⟨h1, h2⟩ := ha
  obtain ⟨h3, h4⟩ := hb
  omega
theorem cmpV_may {v w : Val} (hv : v.Ok) (hw : w.Ok) (mv : mayV v = true) (mw : mayV w = true) (h : cmpV v w = 0) : v = w := by
  rw [cmpV_eq] at h
  have hk : v.kind = w.kind := by
    by_cases hc : cmpI v.kind w.kind = 0
    · exact cmpI_zero.1 hc
    · rw [if_pos hc] at h; exact absurd h hc
  rw [if_neg (by rw [hk]; simp [cmpI_zero])] at h
  obtain ⟨k, i, s⟩ := v
  obtain ⟨k', i', s'⟩ := w
  simp only at hk
  subst hk
  unfold mayV at mv mw
  unfold cmpK at h
  simp only at mv mw h
  by_cases k1 : k = 1
  · subst k1
    simp [toList_nil_size] at mv mw
    simp only [if_true] at h
    rw [cmpI_zero.1 h, mv, mw]
  · by_cases k2 : k = 2
    · subst k2
      simp [toList_nil_size] at mv mw
      simp only [show ¬ (2 : Int) = 1 by decide, if_false, if_true] at h
      have h2 := keyN_inj (toU_lt i) (toU_lt i') (by have := cmpI_zero.1 h; unfold keyV at this; exact_mod_cast this)
      have e : i = i' := toU_inj hv.i hw.i (by rw [mv.1, mw.1, h2])
      rw [mv.2, mw.2, e]
    · by_cases k3 : k = 3
      · subst k3
        simp at mv mw
        simp only [show ¬ (3 : Int) = 1 by decide, show ¬ (3 : Int) = 2 by decide, if_false, if_true] at h
        rw [cmpS_zero.1 h, mv.1, mw.1]
      · simp [k1, k2, k3, toList_nil_size] at mv mw
        rw [mv.2.1, mv.2.2, mw.2.1, mw.2.2]
theorem mayA_val {a : Atom} (h : mayA a = true) : mayV a.val = true := by
  unfold mayA at h
  split at h
  · cases h
  · split at h
    · have : a.val = ⟨0, 0, noS⟩ := by simpa using h
      rw [this]
      simp [mayV, noS_toList]
    · simp at h; exact h.1
theorem cmpA_may {a b : Atom} (ha : a.Ok) (hb : b.Ok) (ma : mayA a = true) (mb : mayA b = true) (h : cmpA a b = 0) : a = b := by
  rw [cmpA_eq] at h
  by_cases h1 : cmpI a.col b.col = 0
  · rw [if_neg (by simpa using h1)] at h
    by_cases h2 : cmpI a.op b.op = 0
    · rw [if_neg (by simpa using h2)] at h
      have h3 := cmpV_may ha.val hb.val (mayA_val ma) (mayA_val mb) h
      obtain ⟨c, o, v⟩ := a
      obtain ⟨c', o', v'⟩ := b
      have e1 := cmpI_zero.1 h1
      have e2 := cmpI_zero.1 h2
      simp only at e1 e2 h3
      rw [e1, e2, h3]
    · rw [if_pos h2] at h; exact absurd h h2
  · rw [if_pos h1] at h; exact absurd h h1
theorem allP_neat {l : List Atom} (hok : ∀ a ∈ l, a.Ok) (hm : ∀ a ∈ l, mayA a = true) (row : List Val) : allP (neatP l) row = allP l row := by
  rw [Bool.eq_iff_iff]
  unfold allP
  rw [List.all_eq_true, List.all_eq_true]
  constructor
  · intro h a ha
    obtain ⟨b, hb, hc⟩ := words_has cmpA_tri ha
    have hbl := words_mem cmpA_tri hb
    rw [cmpA_may (hok a ha) (hok b hbl) (hm a ha) (hm b hbl) hc]
    exact h b hb
  · exact fun h a ha => h a (neatP_mem ha)
theorem neat_rise {l : List Atom} {k : Nat} {x y : Atom} (hx : (neatP l)[k]? = some x) (hy : (neatP l)[k + 1]? = some y) : ¬ (y.col < x.col) ∧ (y.col = x.col → ¬ y.op < x.op) := by
  have h := words_rise cmpA_tri l
  obtain ⟨h1, rfl⟩ := List.getElem?_eq_some_iff.1 hx
  obtain ⟨h2, rfl⟩ := List.getElem?_eq_some_iff.1 hy
  have h3 := List.pairwise_iff_getElem.1 h k (k + 1) h1 h2 (by omega)
  simp only [ltT, decide_eq_true_eq] at h3
  change cmpA (neatP l)[k] (neatP l)[k + 1] < 0 at h3
  rw [cmpA_eq] at h3
  generalize (neatP l)[k] = x at *
  generalize (neatP l)[k + 1] = y at *
  have z1 := @cmpI_zero x.col y.col
  have z2 := @cmpI_zero x.op y.op
  by_cases c1 : cmpI x.col y.col = 0
  · rw [if_neg (by simpa using c1)] at h3
    have e1 := z1.1 c1
    by_cases c2 : cmpI x.op y.op = 0
    · have e2 := z2.1 c2
      omega
    · rw [if_pos c2] at h3
      have := cmpI_neg.1 h3
      omega
  · rw [if_pos c1] at h3
    have := cmpI_neg.1 h3
    omega
set_option maxRecDepth 10000 in
set_option maxHeartbeats 2000000 in
theorem same13_does (l m : List Atom) (n1 n2 : Bool) (H : AHeap) (hl : l.length ≤ 1000000000000) : Does Try.prog 22 [.d (.list n1 (l.map Atom.enc)), .d (.list n2 (m.map Atom.enc))] H (.ok (bA (decide (l = m)))) H := by
  refine Does.of_awp (hint := (fun _ => false)) Try.func22 (by kernel_rfl) rfl [4] (by kernel_rfl) (by decide) (by simp [Try.ntmps22]) ?_
  rw [Try.ntmps22]
  simp (implicitDefEqProofs := false) only [↓reduceIte, go_sem, oread, owrite, Nat.reduceAdd, Nat.reduceSub, Nat.reduceMul, Nat.reduceLT, Nat.reduceLeDiff, Nat.reduceEqDiff, Nat.reduceBEq, Int.reduceLE, Int.reduceLT, Int.reduceEq, Int.reduceNe, Int.reduceAdd, Int.reduceSub, Int.reduceMul, Int.reduceNeg, Int.reduceToNat, Int.reduceNatCast, reduceCtorEq, eq_self]
  by_cases hlm : l.length = m.length
  · refine awp_F (by simp (implicitDefEqProofs := false) only [↓reduceIte, go_sem, oread, owrite, Nat.reduceAdd, Nat.reduceSub, Nat.reduceMul, Nat.reduceLT, Nat.reduceLeDiff, Nat.reduceEqDiff, Nat.reduceBEq, Int.reduceLE, Int.reduceLT, Int.reduceEq, Int.reduceNe, Int.reduceAdd, Int.reduceSub, Int.reduceMul, Int.reduceNeg, Int.reduceToNat, Int.reduceNatCast, reduceCtorEq, eq_self, hlm]) ?_
    simp (implicitDefEqProofs := false) only [↓reduceIte, go_sem, oread, owrite, Nat.reduceAdd, Nat.reduceSub, Nat.reduceMul, Nat.reduceLT, Nat.reduceLeDiff, Nat.reduceEqDiff, Nat.reduceBEq, Int.reduceLE, Int.reduceLT, Int.reduceEq, Int.reduceNe, Int.reduceAdd, Int.reduceSub, Int.reduceMul, Int.reduceNeg, Int.reduceToNat, Int.reduceNatCast, reduceCtorEq, eq_self]
    refine awp_for3 (fun k s H' => H' = H ∧ l.take k = m.take k ∧ s 0 = .d (.list n1 (l.map Atom.enc)) ∧ s 1 = .d (.list n2 (m.map Atom.enc)) ∧ s 5 = iA k) l.length (by omega) (Weak.refl _ _) ?_ ?_ ?_
    · simp (implicitDefEqProofs := false) only [↓reduceIte, go_sem, oread, owrite, Nat.reduceAdd, Nat.reduceSub, Nat.reduceMul, Nat.reduceLT, Nat.reduceLeDiff, Nat.reduceEqDiff, Nat.reduceBEq, Int.reduceLE, Int.reduceLT, Int.reduceEq, Int.reduceNe, Int.reduceAdd, Int.reduceSub, Int.reduceMul, Int.reduceNeg, Int.reduceToNat, Int.reduceNatCast, reduceCtorEq, eq_self, List.take_zero]
    · rintro k s H' hk hw ⟨rfl, hp, h0, h1, h5⟩
      have hx := List.getElem?_eq_getElem hk
      have hy := List.getElem?_eq_getElem (show k < m.length by omega)
      have e1 := List.take_succ_eq_append_getElem hk
      have e2 := List.take_succ_eq_append_getElem (show k < m.length by omega)
      have e3 : ∀ (g : l = m), l[k] = m[k]'(by omega) := by intro g; subst g; rfl
      generalize l[k] = x at hx e1 e3
      generalize m[k]'(by omega) = y at hy e2 e3
      have hk2 : k < m.length := by omega
      simp (implicitDefEqProofs := false) only [↓reduceIte, go_sem, oread, owrite, Nat.reduceAdd, Nat.reduceSub, Nat.reduceMul, Nat.reduceLT, Nat.reduceLeDiff, Nat.reduceEqDiff, Nat.reduceBEq, Int.reduceLE, Int.reduceLT, Int.reduceEq, Int.reduceNe, Int.reduceAdd, Int.reduceSub, Int.reduceMul, Int.reduceNeg, Int.reduceToNat, Int.reduceNatCast, reduceCtorEq, eq_self, h0, h1, h5, hk]
      refine awp_draw K.mixed (by kernel_rfl) ?_
      simp (implicitDefEqProofs := false) only [↓reduceIte, go_sem, oread, owrite, Nat.reduceAdd, Nat.reduceSub, Nat.reduceMul, Nat.reduceLT, Nat.reduceLeDiff, Nat.reduceEqDiff, Nat.reduceBEq, Int.reduceLE, Int.reduceLT, Int.reduceEq, Int.reduceNe, Int.reduceAdd, Int.reduceSub, Int.reduceMul, Int.reduceNeg, Int.reduceToNat, Int.reduceNatCast, reduceCtorEq, eq_self, h0, h1, h5, hx, hy, hk, hk2, Atom.enc, sameA_eq]
      by_cases hxy : x = y
      · refine awp_F (by simp (implicitDefEqProofs := false) only [↓reduceIte, go_sem, oread, owrite, Nat.reduceAdd, Nat.reduceSub, Nat.reduceMul, Nat.reduceLT, Nat.reduceLeDiff, Nat.reduceEqDiff, Nat.reduceBEq, Int.reduceLE, Int.reduceLT, Int.reduceEq, Int.reduceNe, Int.reduceAdd, Int.reduceSub, Int.reduceMul, Int.reduceNeg, Int.reduceToNat, Int.reduceNatCast, reduceCtorEq, eq_self, hxy]) ?_
        simp (implicitDefEqProofs := false) only [↓reduceIte, go_sem, oread, owrite, Nat.reduceAdd, Nat.reduceSub, Nat.reduceMul, Nat.reduceLT, Nat.reduceLeDiff, Nat.reduceEqDiff, Nat.reduceBEq, Int.reduceLE, Int.reduceLT, Int.reduceEq, Int.reduceNe, Int.reduceAdd, Int.reduceSub, Int.reduceMul, Int.reduceNeg, Int.reduceToNat, Int.reduceNatCast, reduceCtorEq, eq_self, h5]
        refine Rnd.same ⟨rfl, by rw [e1, e2, hp, hxy], ?_⟩
        simp (implicitDefEqProofs := false) only [↓reduceIte, go_sem, oread, owrite, Nat.reduceAdd, Nat.reduceSub, Nat.reduceMul, Nat.reduceLT, Nat.reduceLeDiff, Nat.reduceEqDiff, Nat.reduceBEq, Int.reduceLE, Int.reduceLT, Int.reduceEq, Int.reduceNe, Int.reduceAdd, Int.reduceSub, Int.reduceMul, Int.reduceNeg, Int.reduceToNat, Int.reduceNatCast, reduceCtorEq, eq_self, h0, h1, hw]
      · refine awp_T (by simp (implicitDefEqProofs := false) only [↓reduceIte, go_sem, oread, owrite, Nat.reduceAdd, Nat.reduceSub, Nat.reduceMul, Nat.reduceLT, Nat.reduceLeDiff, Nat.reduceEqDiff, Nat.reduceBEq, Int.reduceLE, Int.reduceLT, Int.reduceEq, Int.reduceNe, Int.reduceAdd, Int.reduceSub, Int.reduceMul, Int.reduceNeg, Int.reduceToNat, Int.reduceNatCast, reduceCtorEq, eq_self, hxy]) ?_
        simp (implicitDefEqProofs := false) only [↓reduceIte, go_sem, oread, owrite, Nat.reduceAdd, Nat.reduceSub, Nat.reduceMul, Nat.reduceLT, Nat.reduceLeDiff, Nat.reduceEqDiff, Nat.reduceBEq, Int.reduceLE, Int.reduceLT, Int.reduceEq, Int.reduceNe, Int.reduceAdd, Int.reduceSub, Int.reduceMul, Int.reduceNeg, Int.reduceToNat, Int.reduceNatCast, reduceCtorEq, eq_self]
        refine AEnd.ret0 ?_
        simp (implicitDefEqProofs := false) only [↓reduceIte, go_sem, oread, owrite, Nat.reduceAdd, Nat.reduceSub, Nat.reduceMul, Nat.reduceLT, Nat.reduceLeDiff, Nat.reduceEqDiff, Nat.reduceBEq, Int.reduceLE, Int.reduceLT, Int.reduceEq, Int.reduceNe, Int.reduceAdd, Int.reduceSub, Int.reduceMul, Int.reduceNeg, Int.reduceToNat, Int.reduceNatCast, reduceCtorEq, eq_self, show ¬ l = m from fun g => hxy (e3 g)]
    · rintro s H' ⟨rfl, hp, h0, h1, h5⟩
      simp (implicitDefEqProofs := false) only [↓reduceIte, go_sem, oread, owrite, Nat.reduceAdd, Nat.reduceSub, Nat.reduceMul, Nat.reduceLT, Nat.reduceLeDiff, Nat.reduceEqDiff, Nat.reduceBEq, Int.reduceLE, Int.reduceLT, Int.reduceEq, Int.reduceNe, Int.reduceAdd, Int.reduceSub, Int.reduceMul, Int.reduceNeg, Int.reduceToNat, Int.reduceNatCast, reduceCtorEq, eq_self, h0, h1, h5]
      refine AEnd.ret0 ?_
      rw [List.take_length, hlm, List.take_length] at hp
      simp (implicitDefEqProofs := false) only [↓reduceIte, go_sem, oread, owrite, Nat.reduceAdd, Nat.reduceSub, Nat.reduceMul, Nat.reduceLT, Nat.reduceLeDiff, Nat.reduceEqDiff, Nat.reduceBEq, Int.reduceLE, Int.reduceLT, Int.reduceEq, Int.reduceNe, Int.reduceAdd, Int.reduceSub, Int.reduceMul, Int.reduceNeg, Int.reduceToNat, Int.reduceNatCast, reduceCtorEq, eq_self, hp]
  · simp (implicitDefEqProofs := false) only [↓reduceIte, go_sem, oread, owrite, Nat.reduceAdd, Nat.reduceSub, Nat.reduceMul, Nat.reduceLT, Nat.reduceLeDiff, Nat.reduceEqDiff, Nat.reduceBEq, Int.reduceLE, Int.reduceLT, Int.reduceEq, Int.reduceNe, Int.reduceAdd, Int.reduceSub, Int.reduceMul, Int.reduceNeg, Int.reduceToNat, Int.reduceNatCast, reduceCtorEq, eq_self, hlm, show ((l.length : Int) = (m.length : Int)) = False from eq_false (by omega)]
    refine AEnd.ret0 ?_
    simp (implicitDefEqProofs := false) only [↓reduceIte, go_sem, oread, owrite, Nat.reduceAdd, Nat.reduceSub, Nat.reduceMul, Nat.reduceLT, Nat.reduceLeDiff, Nat.reduceEqDiff, Nat.reduceBEq, Int.reduceLE, Int.reduceLT, Int.reduceEq, Int.reduceNe, Int.reduceAdd, Int.reduceSub, Int.reduceMul, Int.reduceNeg, Int.reduceToNat, Int.reduceNatCast, reduceCtorEq, eq_self, show ¬ l = m from fun g => hlm (by rw [g])]
set_option maxRecDepth 10000 in
set_option maxHeartbeats 2000000 in
theorem predNeat_walk (l : List Atom) (row : List Val) (hok : ∀ a ∈ l, a.Ok) (hl : l.length ≤ 1000000000000000) (H : AHeap) : Does Try.prog 8 [.d (.list false (l.map Atom.enc)), .d (.list false (row.map Val.enc))] H (.ok (bA true)) H := by
  refine Does.of_awp (hint := (fun _ => false)) Try.func8 (by kernel_rfl) rfl [4] (by kernel_rfl) (by decide) (by simp [Try.ntmps8]) ?_
  rw [Try.ntmps8]
  simp (implicitDefEqProofs := false) only [↓reduceIte, go_sem, oread, owrite, Nat.reduceAdd, Nat.reduceSub, Nat.reduceMul, Nat.reduceLT, Nat.reduceLeDiff, Nat.reduceEqDiff, Nat.reduceBEq, Int.reduceLE, Int.reduceLT, Int.reduceEq, Int.reduceNe, Int.reduceAdd, Int.reduceSub, Int.reduceMul, Int.reduceNeg, Int.reduceToNat, Int.reduceNatCast, reduceCtorEq, eq_self]
  refine KCall.ok (shown13_does _) ?_
  simp (implicitDefEqProofs := false) only [↓reduceIte, go_sem, oread, owrite, Nat.reduceAdd, Nat.reduceSub, Nat.reduceMul, Nat.reduceLT, Nat.reduceLeDiff, Nat.reduceEqDiff, Nat.reduceBEq, Int.reduceLE, Int.reduceLT, Int.reduceEq, Int.reduceNe, Int.reduceAdd, Int.reduceSub, Int.reduceMul, Int.reduceNeg, Int.reduceToNat, Int.reduceNatCast, reduceCtorEq, eq_self]
  refine KCall.ok (few13_does l _ hl) ?_
  have hl' : (l.take 100).length ≤ 100 := by simp; omega
  have hok' : ∀ a ∈ l.take 100, a.Ok := fun a ha => hok a (List.mem_of_mem_take ha)
  clear hl hok
  generalize l.take 100 = l at hl' hok' ⊢
  have hnl := neatP_len l
  simp (implicitDefEqProofs := false) only [↓reduceIte, go_sem, oread, owrite, Nat.reduceAdd, Nat.reduceSub, Nat.reduceMul, Nat.reduceLT, Nat.reduceLeDiff, Nat.reduceEqDiff, Nat.reduceBEq, Int.reduceLE, Int.reduceLT, Int.reduceEq, Int.reduceNe, Int.reduceAdd, Int.reduceSub, Int.reduceMul, Int.reduceNeg, Int.reduceToNat, Int.reduceNatCast, reduceCtorEq, eq_self]
  refine KCall.ok (neat_does l _ _ (by omega)) ?_
  simp (implicitDefEqProofs := false) only [↓reduceIte, go_sem, oread, owrite, Nat.reduceAdd, Nat.reduceSub, Nat.reduceMul, Nat.reduceLT, Nat.reduceLeDiff, Nat.reduceEqDiff, Nat.reduceBEq, Int.reduceLE, Int.reduceLT, Int.reduceEq, Int.reduceNe, Int.reduceAdd, Int.reduceSub, Int.reduceMul, Int.reduceNeg, Int.reduceToNat, Int.reduceNatCast, reduceCtorEq, eq_self]
  refine awp_for3 (fun k s H' => H' = H ∧ s 0 = .d (.list false (l.map Atom.enc)) ∧ s 1 = .d (.list false (row.map Val.enc)) ∧ s 5 = bA true ∧ s 6 = .d (.list false ((neatP l).map Atom.enc)) ∧ s 7 = bA ((l.take k).all mayA) ∧ s 8 = iA k) l.length (by omega) (Weak.refl _ _) ?_ ?_ ?_
  · refine ⟨rfl, ?_⟩
    simp (implicitDefEqProofs := false) only [↓reduceIte, go_sem, oread, owrite, Nat.reduceAdd, Nat.reduceSub, Nat.reduceMul, Nat.reduceLT, Nat.reduceLeDiff, Nat.reduceEqDiff, Nat.reduceBEq, Int.reduceLE, Int.reduceLT, Int.reduceEq, Int.reduceNe, Int.reduceAdd, Int.reduceSub, Int.reduceMul, Int.reduceNeg, Int.reduceToNat, Int.reduceNatCast, reduceCtorEq, eq_self, List.take_zero, List.all_nil]
  · rintro k s H' hkl hw ⟨rfl, t0, t1, t5, t6, t7, t8⟩
    have hx := List.getElem?_eq_getElem hkl
    have e2 : (l.take (k + 1)).all mayA = ((l.take k).all mayA && mayA l[k]) := by rw [List.take_succ_eq_append_getElem hkl, List.all_append, List.all_cons, List.all_nil, Bool.and_true]
    generalize l[k] = x at hx e2
    rw [e2]
    simp (implicitDefEqProofs := false) only [↓reduceIte, go_sem, oread, owrite, Nat.reduceAdd, Nat.reduceSub, Nat.reduceMul, Nat.reduceLT, Nat.reduceLeDiff, Nat.reduceEqDiff, Nat.reduceBEq, Int.reduceLE, Int.reduceLT, Int.reduceEq, Int.reduceNe, Int.reduceAdd, Int.reduceSub, Int.reduceMul, Int.reduceNeg, Int.reduceToNat, Int.reduceNatCast, reduceCtorEq, eq_self, t0, t8, hkl]
    cases ha : (l.take k).all mayA with
    | true =>
      simp (implicitDefEqProofs := false) only [↓reduceIte, go_sem, oread, owrite, Nat.reduceAdd, Nat.reduceSub, Nat.reduceMul, Nat.reduceLT, Nat.reduceLeDiff, Nat.reduceEqDiff, Nat.reduceBEq, Int.reduceLE, Int.reduceLT, Int.reduceEq, Int.reduceNe, Int.reduceAdd, Int.reduceSub, Int.reduceMul, Int.reduceNeg, Int.reduceToNat, Int.reduceNatCast, reduceCtorEq, eq_self, t0, t7, ha, t8, hkl, hx, Atom.enc]
      refine KCall.ok (mayA_does x _) ?_
      simp (implicitDefEqProofs := false) only [↓reduceIte, go_sem, oread, owrite, Nat.reduceAdd, Nat.reduceSub, Nat.reduceMul, Nat.reduceLT, Nat.reduceLeDiff, Nat.reduceEqDiff, Nat.reduceBEq, Int.reduceLE, Int.reduceLT, Int.reduceEq, Int.reduceNe, Int.reduceAdd, Int.reduceSub, Int.reduceMul, Int.reduceNeg, Int.reduceToNat, Int.reduceNatCast, reduceCtorEq, eq_self, t7, ha, t8]
      refine Rnd.same ⟨rfl, ?_⟩
      simp (implicitDefEqProofs := false) only [↓reduceIte, go_sem, oread, owrite, Nat.reduceAdd, Nat.reduceSub, Nat.reduceMul, Nat.reduceLT, Nat.reduceLeDiff, Nat.reduceEqDiff, Nat.reduceBEq, Int.reduceLE, Int.reduceLT, Int.reduceEq, Int.reduceNe, Int.reduceAdd, Int.reduceSub, Int.reduceMul, Int.reduceNeg, Int.reduceToNat, Int.reduceNatCast, reduceCtorEq, eq_self, t0, t1, t5, t6, hw]
    | false =>
      simp (implicitDefEqProofs := false) only [↓reduceIte, go_sem, oread, owrite, Nat.reduceAdd, Nat.reduceSub, Nat.reduceMul, Nat.reduceLT, Nat.reduceLeDiff, Nat.reduceEqDiff, Nat.reduceBEq, Int.reduceLE, Int.reduceLT, Int.reduceEq, Int.reduceNe, Int.reduceAdd, Int.reduceSub, Int.reduceMul, Int.reduceNeg, Int.reduceToNat, Int.reduceNatCast, reduceCtorEq, eq_self, t7, ha, t8]
      refine Rnd.same ⟨rfl, ?_⟩
      simp (implicitDefEqProofs := false) only [↓reduceIte, go_sem, oread, owrite, Nat.reduceAdd, Nat.reduceSub, Nat.reduceMul, Nat.reduceLT, Nat.reduceLeDiff, Nat.reduceEqDiff, Nat.reduceBEq, Int.reduceLE, Int.reduceLT, Int.reduceEq, Int.reduceNe, Int.reduceAdd, Int.reduceSub, Int.reduceMul, Int.reduceNeg, Int.reduceToNat, Int.reduceNatCast, reduceCtorEq, eq_self, t0, t1, t5, t6, hw]
  · rintro s H' ⟨rfl, t0, t1, t5, t6, t7, t8⟩
    rw [List.take_length] at t7
    simp (implicitDefEqProofs := false) only [↓reduceIte, go_sem, oread, owrite, Nat.reduceAdd, Nat.reduceSub, Nat.reduceMul, Nat.reduceLT, Nat.reduceLeDiff, Nat.reduceEqDiff, Nat.reduceBEq, Int.reduceLE, Int.reduceLT, Int.reduceEq, Int.reduceNe, Int.reduceAdd, Int.reduceSub, Int.reduceMul, Int.reduceNeg, Int.reduceToNat, Int.reduceNatCast, reduceCtorEq, eq_self, t0, t8]
    refine awp_for3 (fun k s H1 => H1 = H' ∧ s 0 = .d (.list false (l.map Atom.enc)) ∧ s 1 = .d (.list false (row.map Val.enc)) ∧ s 5 = bA true ∧ s 6 = .d (.list false ((neatP l).map Atom.enc)) ∧ s 7 = bA (l.all mayA) ∧ s 9 = iA ((k : Int) + 1)) ((neatP l).length - 1) (by omega) (Weak.refl _ _) ?_ ?_ ?_
    · refine ⟨rfl, ?_⟩
      simp (implicitDefEqProofs := false) only [↓reduceIte, go_sem, oread, owrite, Nat.reduceAdd, Nat.reduceSub, Nat.reduceMul, Nat.reduceLT, Nat.reduceLeDiff, Nat.reduceEqDiff, Nat.reduceBEq, Int.reduceLE, Int.reduceLT, Int.reduceEq, Int.reduceNe, Int.reduceAdd, Int.reduceSub, Int.reduceMul, Int.reduceNeg, Int.reduceToNat, Int.reduceNatCast, reduceCtorEq, eq_self, t0, t1, t5, t6, t7]
    · rintro k s H1 hk hw ⟨rfl, t0, t1, t5, t6, t7, t9⟩
      have hk1 : k < (neatP l).length := by omega
      have hk2 : k + 1 < (neatP l).length := by omega
      have hx := List.getElem?_eq_getElem hk1
      have hy := List.getElem?_eq_getElem hk2
      have hr := neat_rise hx hy
      generalize (neatP l)[k] = x at hx hr
      generalize (neatP l)[k + 1] = y at hy hr
      have hw2 : IntKind.i64.wrap ((k : Int) + 1 - 1) = (k : Int) := by rw [wrap64_in _ (by omega) (by omega)]; omega
      have hw3 : IntKind.i64.wrap ((k : Int) + 1 + 1) = (k : Int) + 1 + 1 := wrap64_in _ (by omega) (by omega)
      have hc : ((k : Int) + 1 < ((neatP l).length : Int)) = True := eq_true (by omega)
      have ht : ((k : Int) + 1).toNat = k + 1 := by omega
      have hp : (0 ≤ (k : Int) + 1) = True := eq_true (by omega)
      simp (implicitDefEqProofs := false) only [↓reduceIte, go_sem, oread, owrite, Nat.reduceAdd, Nat.reduceSub, Nat.reduceMul, Nat.reduceLT, Nat.reduceLeDiff, Nat.reduceEqDiff, Nat.reduceBEq, Int.reduceLE, Int.reduceLT, Int.reduceEq, Int.reduceNe, Int.reduceAdd, Int.reduceSub, Int.reduceMul, Int.reduceNeg, Int.reduceToNat, Int.reduceNatCast, reduceCtorEq, eq_self, t6, t9, hc]
      refine awp_draw K.mixed (by kernel_rfl) ?_
      by_cases he : y.col = x.col
      · simp (implicitDefEqProofs := false) only [↓reduceIte, go_sem, oread, owrite, Nat.reduceAdd, Nat.reduceSub, Nat.reduceMul, Nat.reduceLT, Nat.reduceLeDiff, Nat.reduceEqDiff, Nat.reduceBEq, Int.reduceLE, Int.reduceLT, Int.reduceEq, Int.reduceNe, Int.reduceAdd, Int.reduceSub, Int.reduceMul, Int.reduceNeg, Int.reduceToNat, Int.reduceNatCast, reduceCtorEq, eq_self, t6, t9, hw2, hx, hy, hc, ht, hp, hk1, hk2, Atom.enc, hr.1, he, hr.2 he, Int.lt_irrefl]
        refine ⟨_, _, Weak.refl _ _, rfl, ?_⟩
        simp (implicitDefEqProofs := false) only [↓reduceIte, go_sem, oread, owrite, Nat.reduceAdd, Nat.reduceSub, Nat.reduceMul, Nat.reduceLT, Nat.reduceLeDiff, Nat.reduceEqDiff, Nat.reduceBEq, Int.reduceLE, Int.reduceLT, Int.reduceEq, Int.reduceNe, Int.reduceAdd, Int.reduceSub, Int.reduceMul, Int.reduceNeg, Int.reduceToNat, Int.reduceNatCast, reduceCtorEq, eq_self, t0, t1, t5, t6, t7, hw3]
      · simp (implicitDefEqProofs := false) only [↓reduceIte, go_sem, oread, owrite, Nat.reduceAdd, Nat.reduceSub, Nat.reduceMul, Nat.reduceLT, Nat.reduceLeDiff, Nat.reduceEqDiff, Nat.reduceBEq, Int.reduceLE, Int.reduceLT, Int.reduceEq, Int.reduceNe, Int.reduceAdd, Int.reduceSub, Int.reduceMul, Int.reduceNeg, Int.reduceToNat, Int.reduceNatCast, reduceCtorEq, eq_self, t6, t9, hw2, hx, hy, hc, ht, hp, hk1, hk2, Atom.enc, hr.1, he]
        refine Rnd.same ⟨rfl, ?_⟩
        simp (implicitDefEqProofs := false) only [↓reduceIte, go_sem, oread, owrite, Nat.reduceAdd, Nat.reduceSub, Nat.reduceMul, Nat.reduceLT, Nat.reduceLeDiff, Nat.reduceEqDiff, Nat.reduceBEq, Int.reduceLE, Int.reduceLT, Int.reduceEq, Int.reduceNe, Int.reduceAdd, Int.reduceSub, Int.reduceMul, Int.reduceNeg, Int.reduceToNat, Int.reduceNatCast, reduceCtorEq, eq_self, t0, t1, t5, t6, t7, hw3]
    · rintro s H1 ⟨rfl, t0, t1, t5, t6, t7, t9⟩
      have hc : ((((neatP l).length - 1 : Nat) : Int) + 1 < ((neatP l).length : Int)) = False := eq_false (by omega)
      simp (implicitDefEqProofs := false) only [↓reduceIte, go_sem, oread, owrite, Nat.reduceAdd, Nat.reduceSub, Nat.reduceMul, Nat.reduceLT, Nat.reduceLeDiff, Nat.reduceEqDiff, Nat.reduceBEq, Int.reduceLE, Int.reduceLT, Int.reduceEq, Int.reduceNe, Int.reduceAdd, Int.reduceSub, Int.reduceMul, Int.reduceNeg, Int.reduceToNat, Int.reduceNatCast, reduceCtorEq, eq_self, t6, t9, hc]
      have hs : ∀ b : Bool, b = true ∨ b = false := by decide
      have hle : (((neatP l).length : Int) ≤ (l.length : Int)) = True := eq_true (by omega)
      cases ha : l.all mayA with
      | true =>
        have hall := allP_neat hok' (by simpa [List.all_eq_true] using ha) row
        simp (implicitDefEqProofs := false) only [↓reduceIte, go_sem, oread, owrite, Nat.reduceAdd, Nat.reduceSub, Nat.reduceMul, Nat.reduceLT, Nat.reduceLeDiff, Nat.reduceEqDiff, Nat.reduceBEq, Int.reduceLE, Int.reduceLT, Int.reduceEq, Int.reduceNe, Int.reduceAdd, Int.reduceSub, Int.reduceMul, Int.reduceNeg, Int.reduceToNat, Int.reduceNatCast, reduceCtorEq, eq_self, t0, t1, t5, t6, t7, ha]
        refine KCall.ok (all_does (neatP l) row _ _ _ (by omega)) ?_
        simp (implicitDefEqProofs := false) only [↓reduceIte, go_sem, oread, owrite, Nat.reduceAdd, Nat.reduceSub, Nat.reduceMul, Nat.reduceLT, Nat.reduceLeDiff, Nat.reduceEqDiff, Nat.reduceBEq, Int.reduceLE, Int.reduceLT, Int.reduceEq, Int.reduceNe, Int.reduceAdd, Int.reduceSub, Int.reduceMul, Int.reduceNeg, Int.reduceToNat, Int.reduceNatCast, reduceCtorEq, eq_self, t0, t1]
        refine KCall.ok (all_does l row _ _ _ (by omega)) ?_
        rw [hall]
        simp (implicitDefEqProofs := false) only [↓reduceIte, go_sem, oread, owrite, Nat.reduceAdd, Nat.reduceSub, Nat.reduceMul, Nat.reduceLT, Nat.reduceLeDiff, Nat.reduceEqDiff, Nat.reduceBEq, Int.reduceLE, Int.reduceLT, Int.reduceEq, Int.reduceNe, Int.reduceAdd, Int.reduceSub, Int.reduceMul, Int.reduceNeg, Int.reduceToNat, Int.reduceNatCast, reduceCtorEq, eq_self, t5, t6]
        refine KCall.ok (neat_does (neatP l) _ _ (by omega)) ?_
        rw [neatP_idem]
        simp (implicitDefEqProofs := false) only [↓reduceIte, go_sem, oread, owrite, Nat.reduceAdd, Nat.reduceSub, Nat.reduceMul, Nat.reduceLT, Nat.reduceLeDiff, Nat.reduceEqDiff, Nat.reduceBEq, Int.reduceLE, Int.reduceLT, Int.reduceEq, Int.reduceNe, Int.reduceAdd, Int.reduceSub, Int.reduceMul, Int.reduceNeg, Int.reduceToNat, Int.reduceNatCast, reduceCtorEq, eq_self, t5, t6]
        refine KCall.ok (same13_does (neatP l) (neatP l) _ _ _ (by omega)) ?_
        simp (implicitDefEqProofs := false) only [↓reduceIte, go_sem, oread, owrite, Nat.reduceAdd, Nat.reduceSub, Nat.reduceMul, Nat.reduceLT, Nat.reduceLeDiff, Nat.reduceEqDiff, Nat.reduceBEq, Int.reduceLE, Int.reduceLT, Int.reduceEq, Int.reduceNe, Int.reduceAdd, Int.reduceSub, Int.reduceMul, Int.reduceNeg, Int.reduceToNat, Int.reduceNatCast, reduceCtorEq, eq_self, t0, t6, hle]
        refine AEnd.ret0 ?_
        simp (implicitDefEqProofs := false) only [↓reduceIte, go_sem, oread, owrite, Nat.reduceAdd, Nat.reduceSub, Nat.reduceMul, Nat.reduceLT, Nat.reduceLeDiff, Nat.reduceEqDiff, Nat.reduceBEq, Int.reduceLE, Int.reduceLT, Int.reduceEq, Int.reduceNe, Int.reduceAdd, Int.reduceSub, Int.reduceMul, Int.reduceNeg, Int.reduceToNat, Int.reduceNatCast, reduceCtorEq, eq_self]
      | false =>
        simp (implicitDefEqProofs := false) only [↓reduceIte, go_sem, oread, owrite, Nat.reduceAdd, Nat.reduceSub, Nat.reduceMul, Nat.reduceLT, Nat.reduceLeDiff, Nat.reduceEqDiff, Nat.reduceBEq, Int.reduceLE, Int.reduceLT, Int.reduceEq, Int.reduceNe, Int.reduceAdd, Int.reduceSub, Int.reduceMul, Int.reduceNeg, Int.reduceToNat, Int.reduceNatCast, reduceCtorEq, eq_self, t5, t6, t7, ha]
        refine KCall.ok (neat_does (neatP l) _ _ (by omega)) ?_
        rw [neatP_idem]
        simp (implicitDefEqProofs := false) only [↓reduceIte, go_sem, oread, owrite, Nat.reduceAdd, Nat.reduceSub, Nat.reduceMul, Nat.reduceLT, Nat.reduceLeDiff, Nat.reduceEqDiff, Nat.reduceBEq, Int.reduceLE, Int.reduceLT, Int.reduceEq, Int.reduceNe, Int.reduceAdd, Int.reduceSub, Int.reduceMul, Int.reduceNeg, Int.reduceToNat, Int.reduceNatCast, reduceCtorEq, eq_self, t5, t6]
        refine KCall.ok (same13_does (neatP l) (neatP l) _ _ _ (by omega)) ?_
        simp (implicitDefEqProofs := false) only [↓reduceIte, go_sem, oread, owrite, Nat.reduceAdd, Nat.reduceSub, Nat.reduceMul, Nat.reduceLT, Nat.reduceLeDiff, Nat.reduceEqDiff, Nat.reduceBEq, Int.reduceLE, Int.reduceLT, Int.reduceEq, Int.reduceNe, Int.reduceAdd, Int.reduceSub, Int.reduceMul, Int.reduceNeg, Int.reduceToNat, Int.reduceNatCast, reduceCtorEq, eq_self, t0, t6, hle]
        refine AEnd.ret0 ?_
        simp (implicitDefEqProofs := false) only [↓reduceIte, go_sem, oread, owrite, Nat.reduceAdd, Nat.reduceSub, Nat.reduceMul, Nat.reduceLT, Nat.reduceLeDiff, Nat.reduceEqDiff, Nat.reduceBEq, Int.reduceLE, Int.reduceLT, Int.reduceEq, Int.reduceNe, Int.reduceAdd, Int.reduceSub, Int.reduceMul, Int.reduceNeg, Int.reduceToNat, Int.reduceNatCast, reduceCtorEq, eq_self]
theorem predNeat_does (x0 : AV) (h0 : ArgOk Try.prog 36 x0) (x1 : AV) (h1 : ArgOk Try.prog 22 x1) : Does Try.prog 8 [x0, x1] [] (.ok (.d (.v (.bool true)))) [] := by
  obtain ⟨l, rfl, hl, hok⟩ := argAtoms' h0
  obtain ⟨d, rfl, hf⟩ := arg_one h1 K.agB22 (sh := .slice 32 shVal) (by kernel_rfl)
  obtain ⟨row, rfl, _, _⟩ := vals_inv hf
  exact predNeat_walk l row hok hl []
end Go.Proofs.Ytmhmnmokmamnoaa

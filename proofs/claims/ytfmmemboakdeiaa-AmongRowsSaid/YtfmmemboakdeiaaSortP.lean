/- Stable sorting, in plain Lean: what is sorted, and stands alike within each class, is one list. -/
import Derived.Test.YtfmmemboakdeiaaBase
namespace Go.Proofs.Ytfmmemboakdeiaa
set_option linter.unusedVariables false
namespace St
variable {α : Type}
/-- Which of two is ahead: a strict order in which what is not ahead of one another is alike. -/
structure Ord (lt : α → α → Bool) : Prop where
  asym : ∀ x y, lt x y = true → lt y x = false
  ntrans : ∀ x y z, lt x z = true → lt x y = true ∨ lt y z = true
variable {lt : α → α → Bool} {l : List α}
theorem Ord.irr (h : Ord lt) (x : α) : lt x x = false := by
  cases e : lt x x with
  | false => rfl
  | true => rw [h.asym x x e] at e; cases e
theorem Ord.trans (h : Ord lt) {x y z : α} (h1 : lt x y = true) (h2 : lt y z = true) : lt x z = true := by
  rcases h.ntrans x z y h1 with h3 | h3
  · exact h3
  · rw [h.asym y z h2] at h3; cases h3
theorem Ord.le_trans (h : Ord lt) {x y z : α} (h1 : lt y x = false) (h2 : lt z y = false) : lt z x = false := by
  cases e : lt z x with
  | false => rfl
  | true =>
    rcases h.ntrans z y x e with h3 | h3
    · rw [h2] at h3; cases h3
    · rw [h1] at h3; cases h3
theorem Ord.lt_le (h : Ord lt) {x y z : α} (h1 : lt x y = true) (h2 : lt z y = false) : lt x z = true := by
  rcases h.ntrans x z y h1 with h3 | h3
  · exact h3
  · rw [h2] at h3; cases h3
theorem Ord.le_lt (h : Ord lt) {x y z : α} (h1 : lt y x = false) (h2 : lt y z = true) : lt x z = true := by
  rcases h.ntrans y x z h2 with h3 | h3
  · rw [h1] at h3; cases h3
  · exact h3
def Sorted (lt : α → α → Bool) (l : List α) : Prop := l.Pairwise fun x y => lt y x = false
def eqv (lt : α → α → Bool) (x y : α) : Bool := !lt x y && !lt y x
theorem eqv_iff {x y : α} : eqv lt x y = true ↔ lt x y = false ∧ lt y x = false := by simp [eqv]
def StEq (lt : α → α → Bool) (l m : List α) : Prop := ∀ x, l.filter (eqv lt x) = m.filter (eqv lt x)
theorem StEq.refl (l : List α) : StEq lt l l := fun _ => rfl
theorem StEq.symm {l m : List α} (h : StEq lt l m) : StEq lt m l := fun x => (h x).symm
theorem StEq.trans {l m n : List α} (h : StEq lt l m) (g : StEq lt m n) : StEq lt l n := fun x => (h x).trans (g x)
theorem StEq.app {l l' m m' : List α} (h : StEq lt l l') (g : StEq lt m m') : StEq lt (l ++ m) (l' ++ m') := fun x => by rw [List.filter_append, List.filter_append, h x, g x]
theorem eqv_self (ho : Ord lt) (x : α) : eqv lt x x = true := eqv_iff.2 ⟨ho.irr x, ho.irr x⟩
theorem StEq.mem (ho : Ord lt) {l m : List α} (h : StEq lt l m) {x : α} (hx : x ∈ l) : x ∈ m := by
  have : x ∈ l.filter (eqv lt x) := List.mem_filter.2 ⟨hx, eqv_self ho x⟩
  rw [h x] at this
  exact (List.mem_filter.1 this).1
theorem StEq.mem_iff (ho : Ord lt) {l m : List α} (h : StEq lt l m) {x : α} : x ∈ l ↔ x ∈ m := ⟨h.mem ho, h.symm.mem ho⟩
/-- Neighbours of which all of the one are ahead of all of the other change places. -/
theorem StEq.swap (ho : Ord lt) {u v : List α} (h : ∀ x ∈ u, ∀ y ∈ v, lt y x = true) : StEq lt (u ++ v) (v ++ u) := by
  intro c
  rw [List.filter_append, List.filter_append]
  by_cases hu : ∃ x ∈ u, eqv lt c x = true
  · obtain ⟨x, hx, hc⟩ := hu
    have : v.filter (eqv lt c) = [] := by
      rw [List.filter_eq_nil_iff]
      intro y hy hcy
      have h1 := eqv_iff.1 hc
      have h2 := eqv_iff.1 hcy
      have h3 := h x hx y hy
      rcases ho.ntrans y c x h3 with h4 | h4
      · rw [h2.2] at h4; cases h4
      · rw [h1.1] at h4; cases h4
    rw [this]; simp
  · have : u.filter (eqv lt c) = [] := by
      rw [List.filter_eq_nil_iff]
      intro x hx hc
      exact hu ⟨x, hx, hc⟩
    rw [this]; simp
theorem uniq (ho : Ord lt) : ∀ {l m : List α}, Sorted lt l → Sorted lt m → StEq lt l m → l = m
  | [], [], _, _, _ => rfl
  | [], b :: t, _, _, h => by have := h.symm.mem ho (List.mem_cons_self (a := b) (l := t)); simp at this
  | a :: t, [], _, _, h => by have := h.mem ho (List.mem_cons_self (a := a) (l := t)); simp at this
  | a :: t, b :: t', hl, hm, h => by
    have ha : a ∈ b :: t' := h.mem ho (List.mem_cons_self ..)
    have hb : b ∈ a :: t := h.symm.mem ho (List.mem_cons_self ..)
    have h1 : lt a b = false := by
      rcases List.mem_cons.1 ha with rfl | ha
      · exact ho.irr _
      · exact (List.pairwise_cons.1 hm).1 a ha
    have h2 : lt b a = false := by
      rcases List.mem_cons.1 hb with rfl | hb
      · exact ho.irr _
      · exact (List.pairwise_cons.1 hl).1 b hb
    have e1 : eqv lt a a = true := eqv_self ho a
    have e2 : eqv lt a b = true := eqv_iff.2 ⟨h1, h2⟩
    have h3 := h a
    rw [List.filter_cons_of_pos e1, List.filter_cons_of_pos e2] at h3
    obtain rfl : a = b := (List.cons.inj h3).1
    have : t = t' := uniq ho (List.pairwise_cons.1 hl).2 (List.pairwise_cons.1 hm).2 fun x => by
      have h4 := h x
      by_cases hx : eqv lt x a = true
      · rw [List.filter_cons_of_pos hx, List.filter_cons_of_pos hx] at h4
        exact (List.cons.inj h4).2
      · rw [List.filter_cons_of_neg hx, List.filter_cons_of_neg hx] at h4
        exact h4
    rw [this]
/-! ### The sorted list -/
def ins (lt : α → α → Bool) (x : α) : List α → List α
  | [] => [x]
  | y :: t => if lt y x then y :: ins lt x t else x :: y :: t
def sortS (lt : α → α → Bool) (l : List α) : List α := l.foldr (ins lt) []
theorem ins_mem {x z : α} : ∀ {l : List α}, z ∈ ins lt x l ↔ z = x ∨ z ∈ l
  | [] => by simp [ins]
  | y :: t => by
    unfold ins
    split
    · rw [List.mem_cons, ins_mem, List.mem_cons]
      constructor
      · rintro (h | h | h)
        · exact .inr (.inl h)
        · exact .inl h
        · exact .inr (.inr h)
      · rintro (h | h | h)
        · exact .inr (.inl h)
        · exact .inl h
        · exact .inr (.inr h)
    · simp
theorem ins_sorted (ho : Ord lt) (x : α) : ∀ {l : List α}, Sorted lt l → Sorted lt (ins lt x l)
  | [], _ => by simp [ins, Sorted]
  | y :: t, h => by
    have h' := List.pairwise_cons.1 h
    unfold ins
    split
    · rename_i hy
      refine List.pairwise_cons.2 ⟨fun z hz => ?_, ins_sorted ho x h'.2⟩
      rcases ins_mem.1 hz with rfl | hz
      · exact ho.asym _ _ hy
      · exact h'.1 z hz
    · rename_i hy
      have hy : lt y x = false := by simpa using hy
      refine List.pairwise_cons.2 ⟨fun z hz => ?_, h⟩
      rcases List.mem_cons.1 hz with rfl | hz
      · exact hy
      · exact ho.le_trans hy (h'.1 z hz)
theorem ins_steq (ho : Ord lt) (x : α) : ∀ l : List α, StEq lt (ins lt x l) (x :: l)
  | [] => .refl _
  | y :: t => by
    unfold ins
    split
    · rename_i hy
      have h1 : StEq lt ([y] ++ ins lt x t) ([y] ++ (x :: t)) := StEq.app (.refl _) (ins_steq ho x t)
      refine h1.trans ?_
      have h2 : StEq lt ([y] ++ [x]) ([x] ++ [y]) := (StEq.swap ho (u := [x]) (v := [y]) (by simpa using hy)).symm
      have := StEq.app h2 (.refl t)
      simpa using this
    · exact .refl _
theorem sortS_sorted (ho : Ord lt) : ∀ l : List α, Sorted lt (sortS lt l)
  | [] => List.Pairwise.nil
  | x :: l => ins_sorted ho x (sortS_sorted ho l)
theorem sortS_steq (ho : Ord lt) : ∀ l : List α, StEq lt (sortS lt l) l
  | [] => .refl _
  | x :: l => (ins_steq ho x _).trans (StEq.app (l := [x]) (.refl _) (sortS_steq ho l))
theorem ins_len (x : α) : ∀ l : List α, (ins lt x l).length = l.length + 1
  | [] => rfl
  | y :: t => by unfold ins; split <;> simp [ins_len x t]
theorem sortS_len : ∀ l : List α, (sortS lt l).length = l.length
  | [] => rfl
  | x :: l => by
    show (ins lt x (sortS lt l)).length = _
    rw [ins_len, sortS_len l]; rfl
theorem sortS_mem (ho : Ord lt) {l : List α} {x : α} : x ∈ sortS lt l ↔ x ∈ l := (sortS_steq ho l).mem_iff ho
theorem sortS_eq (ho : Ord lt) {l m : List α} (h1 : Sorted lt m) (h2 : StEq lt m l) : sortS lt l = m := uniq ho (sortS_sorted ho l) h1 ((sortS_steq ho l).trans h2.symm)
theorem sortS_self (ho : Ord lt) {l : List α} (h : Sorted lt l) : sortS lt l = l := sortS_eq ho h (.refl _)
theorem Sorted.app {l m : List α} (hl : Sorted lt l) (hm : Sorted lt m) (h : ∀ x ∈ l, ∀ y ∈ m, lt y x = false) : Sorted lt (l ++ m) := List.pairwise_append.2 ⟨hl, hm, h⟩
theorem Sorted.left {l m : List α} (h : Sorted lt (l ++ m)) : Sorted lt l := (List.pairwise_append.1 h).1
theorem Sorted.right {l m : List α} (h : Sorted lt (l ++ m)) : Sorted lt m := (List.pairwise_append.1 h).2.1
theorem Sorted.cross {l m : List α} (h : Sorted lt (l ++ m)) : ∀ x ∈ l, ∀ y ∈ m, lt y x = false := (List.pairwise_append.1 h).2.2
/-- Insertion: what stands behind is all greater, what stands ahead is not. -/
theorem insert_eq (ho : Ord lt) {A B l : List α} {x : α} (hS : A ++ B = sortS lt l) (hB : ∀ y ∈ B, lt x y = true) (hA : ∀ y ∈ A, lt x y = false) : A ++ x :: B = sortS lt (l ++ [x]) := by
  refine (sortS_eq ho ?_ ?_).symm
  · have hs := sortS_sorted ho l
    rw [← hS] at hs
    refine Sorted.app hs.left (List.pairwise_cons.2 ⟨fun y hy => ho.asym _ _ (hB y hy), hs.right⟩) ?_
    intro y hy z hz
    rcases List.mem_cons.1 hz with rfl | hz
    · exact hA y hy
    · exact hs.cross y hy z hz
  · have h1 : StEq lt (x :: B) (B ++ [x]) := (StEq.swap ho (u := B) (v := [x]) (by simpa using hB)).symm
    have h2 : StEq lt (A ++ x :: B) ((A ++ B) ++ [x]) := by rw [List.append_assoc]; exact StEq.app (.refl A) h1
    refine h2.trans (StEq.app ?_ (.refl _))
    rw [hS]
    exact sortS_steq ho l
/-! ### Merging -/
theorem sym_ok (ho : Ord lt) {A U V B : List α} (h1 : Sorted lt (A ++ U)) (h2 : Sorted lt (V ++ B)) (h3 : ∀ u ∈ U, ∀ v ∈ V, lt v u = true) (h4 : ∀ x ∈ A, ∀ y ∈ B, lt y x = false) :
    sortS lt (A ++ V) ++ sortS lt (U ++ B) = sortS lt ((A ++ U) ++ (V ++ B)) := by
  refine (sortS_eq ho ?_ ?_).symm
  · refine Sorted.app (sortS_sorted ho _) (sortS_sorted ho _) fun x hx y hy => ?_
    rw [sortS_mem ho, List.mem_append] at hx hy
    rcases hx with hx | hx <;> rcases hy with hy | hy
    · exact h1.cross x hx y hy
    · exact h4 x hx y hy
    · exact ho.asym _ _ (h3 y hy x hx)
    · exact h2.cross x hx y hy
  · refine (StEq.app (sortS_steq ho _) (sortS_steq ho _)).trans ?_
    have := StEq.app (StEq.app (.refl A) (StEq.swap ho h3).symm) (.refl B)
    simpa [List.append_assoc] using this
theorem Sorted.get (h : Sorted lt l) {i j : Nat} (hi : i < j) {x y : α} (hx : l[i]? = some x) (hy : l[j]? = some y) : lt y x = false := by
  obtain ⟨h1, rfl⟩ := List.getElem?_eq_some_iff.1 hx
  obtain ⟨h2, rfl⟩ := List.getElem?_eq_some_iff.1 hy
  exact List.pairwise_iff_getElem.1 h i j h1 h2 hi
theorem Sorted.get_le (ho : Ord lt) (h : Sorted lt l) {i j : Nat} (hi : i ≤ j) {x y : α} (hx : l[i]? = some x) (hy : l[j]? = some y) : lt y x = false := by
  rcases Nat.lt_or_ge i j with h1 | h1
  · exact h.get h1 hx hy
  · obtain rfl : i = j := by omega
    rw [hx] at hy; cases hy
    exact ho.irr _
/-- Two sorted lists, cut where the search ended. -/
theorem merge_cut (ho : Ord lt) {X Y : List α} (hX : Sorted lt X) (hY : Sorted lt Y) {s e : Nat} (hs : s ≤ X.length) (he : e ≤ Y.length)
    (hu : s = X.length ∨ e = 0 ∨ ∃ x y, X[s]? = some x ∧ Y[e - 1]? = some y ∧ lt y x = true) (hl : s = 0 ∨ e = Y.length ∨ ∃ x y, X[s - 1]? = some x ∧ Y[e]? = some y ∧ lt y x = false) :
    sortS lt (X.take s ++ Y.take e) ++ sortS lt (X.drop s ++ Y.drop e) = sortS lt (X ++ Y) := by
  have key := sym_ok ho (A := X.take s) (U := X.drop s) (V := Y.take e) (B := Y.drop e) (by rw [List.take_append_drop]; exact hX) (by rw [List.take_append_drop]; exact hY) ?_ ?_
  · rwa [List.take_append_drop, List.take_append_drop] at key
  · intro u hu' v hv'
    obtain ⟨i, hi⟩ := List.getElem?_of_mem hu'
    obtain ⟨j, hj⟩ := List.getElem?_of_mem hv'
    rw [List.getElem?_drop] at hi
    have hj' := (List.getElem?_eq_some_iff.1 hj).1
    simp only [List.length_take] at hj'
    rw [List.getElem?_take, if_pos (by omega)] at hj
    have hi' := (List.getElem?_eq_some_iff.1 hi).1
    rcases hu with h | h | ⟨x, y, hx, hy, h⟩
    · omega
    · omega
    · have h5 := hX.get_le ho (show s ≤ s + i by omega) hx hi
      have h6 := hY.get_le ho (show j ≤ e - 1 by omega) hj hy
      exact ho.lt_le (ho.le_lt h6 h) h5
  · intro x hx' y hy'
    obtain ⟨i, hi⟩ := List.getElem?_of_mem hx'
    obtain ⟨j, hj⟩ := List.getElem?_of_mem hy'
    rw [List.getElem?_drop] at hj
    have hi' := (List.getElem?_eq_some_iff.1 hi).1
    simp only [List.length_take] at hi'
    rw [List.getElem?_take, if_pos (by omega)] at hi
    have hj' := (List.getElem?_eq_some_iff.1 hj).1
    rcases hl with h | h | ⟨x0, y0, hx, hy, h⟩
    · omega
    · omega
    · have h5 := hX.get_le ho (show i ≤ s - 1 by omega) hi hx
      have h6 := hY.get_le ho (show e ≤ e + j by omega) hy hj
      exact ho.le_trans h5 (ho.le_trans h h6)
/-- One element into a sorted list, at the first place that is not ahead of it. -/
theorem merge_one (ho : Ord lt) {x : α} {Y : List α} (hY : Sorted lt Y) {e : Nat} (he : e ≤ Y.length) (hu : e = 0 ∨ ∃ y, Y[e - 1]? = some y ∧ lt y x = true) (hl : e = Y.length ∨ ∃ y, Y[e]? = some y ∧ lt y x = false) :
    Y.take e ++ x :: Y.drop e = sortS lt (x :: Y) := by
  have key := merge_cut ho (X := [x]) (s := 0) (by simp [Sorted]) hY (by simp) he (by rcases hu with h | ⟨y, h1, h2⟩; exact .inr (.inl h); exact .inr (.inr ⟨x, y, rfl, h1, h2⟩)) (.inl rfl)
  have h1 : Sorted lt (Y.take e) := by have := hY; rw [← List.take_append_drop e Y] at this; exact this.left
  have h2 : Sorted lt (x :: Y.drop e) := by
    have h3 : Sorted lt (Y.drop e) := by have := hY; rw [← List.take_append_drop e Y] at this; exact this.right
    refine List.pairwise_cons.2 ⟨fun y hy => ?_, h3⟩
    obtain ⟨j, hj⟩ := List.getElem?_of_mem hy
    rw [List.getElem?_drop] at hj
    rcases hl with h | ⟨y0, hy0, h⟩
    · have := (List.getElem?_eq_some_iff.1 hj).1; omega
    · exact ho.le_trans h (hY.get_le ho (Nat.le_add_right _ _) hy0 hj)
  simp only [List.take_zero, List.nil_append, List.drop_zero, List.singleton_append] at key
  rw [sortS_self ho h1, sortS_self ho h2] at key
  exact key
/-- The last element into a sorted list, at the first place that it is ahead of. -/
theorem merge_last (ho : Ord lt) {x : α} {X : List α} (hX : Sorted lt X) {s : Nat} (hs : s ≤ X.length) (hu : s = X.length ∨ ∃ y, X[s]? = some y ∧ lt x y = true) (hl : s = 0 ∨ ∃ y, X[s - 1]? = some y ∧ lt x y = false) :
    X.take s ++ x :: X.drop s = sortS lt (X ++ [x]) := by
  refine insert_eq ho (by rw [List.take_append_drop, sortS_self ho hX]) (fun y hy => ?_) fun y hy => ?_
  · obtain ⟨j, hj⟩ := List.getElem?_of_mem hy
    rw [List.getElem?_drop] at hj
    rcases hu with h | ⟨y0, h1, h2⟩
    · have := (List.getElem?_eq_some_iff.1 hj).1; omega
    · exact ho.lt_le h2 (hX.get_le ho (Nat.le_add_right _ _) h1 hj)
  · obtain ⟨j, hj⟩ := List.getElem?_of_mem hy
    have hj' := (List.getElem?_eq_some_iff.1 hj).1
    simp only [List.length_take] at hj'
    rw [List.getElem?_take, if_pos (by omega)] at hj
    rcases hl with h | ⟨y0, h1, h2⟩
    · omega
    · exact ho.le_trans (hX.get_le ho (show j ≤ s - 1 by omega) hj h1) h2
/-! ### All blocks sorted -/
def Blocks (lt : α → α → Bool) (s : Nat) (l : List α) : Prop := ∀ k, Sorted lt ((l.drop (k * s)).take s)
theorem Blocks.all {s : Nat} {l : List α} (h : Blocks lt s l) (hs : l.length ≤ s) : Sorted lt l := by
  have := h 0
  rwa [Nat.zero_mul, List.drop_zero, List.take_of_length_le hs] at this
end St
end Go.Proofs.Ytfmmemboakdeiaa

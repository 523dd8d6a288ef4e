/- Words, codes and places: in plain Lean. -/
import Derived.Test.YtkapgooedfompaaDict3
namespace Go.Proofs.Ytkapgooedfompaa
open Go.Proofs.YtkapgooedfompaaAw Go.RowKit
set_option linter.unusedVariables false
set_option linter.unusedSimpArgs false
theorem Tri.congr_l {α : Type} {c : α → α → Int} (h : Tri c) {x y z : α} (e : c x y = 0) : c x z < 0 ↔ c y z < 0 := by
  have e' := (h.zero x y).1 e
  constructor
  · intro g
    rcases h.ntrans x y z g with g1 | g1
    · omega
    · exact g1
  · intro g
    rcases h.ntrans y x z g with g1 | g1
    · omega
    · exact g1
theorem Tri.congr_r {α : Type} {c : α → α → Int} (h : Tri c) {x y z : α} (e : c y z = 0) : c x y < 0 ↔ c x z < 0 := by
  have e' := (h.zero y z).1 e
  constructor
  · intro g
    rcases h.ntrans x z y g with g1 | g1
    · exact g1
    · omega
  · intro g
    rcases h.ntrans x y z g with g1 | g1
    · exact g1
    · omega
def Rise (W : List Val) : Prop := W.Pairwise (fun x y => ltT cmpV x y = true)
theorem Rise.get {W : List Val} (h : Rise W) {i j : Nat} {x y : Val} (hx : W[i]? = some x) (hy : W[j]? = some y) : cmpV x y < 0 ↔ i < j := by
  have key : ∀ {i j : Nat} {x y : Val}, W[i]? = some x → W[j]? = some y → i < j → cmpV x y < 0 := by
    intro i j x y hx hy hij
    obtain ⟨h1, rfl⟩ := List.getElem?_eq_some_iff.1 hx
    obtain ⟨h2, rfl⟩ := List.getElem?_eq_some_iff.1 hy
    have := List.pairwise_iff_getElem.1 h i j h1 h2 hij
    simpa [ltT] using this
  constructor
  · intro g
    rcases Nat.lt_trichotomy i j with h1 | h1 | h1
    · exact h1
    · subst h1
      rw [hx] at hy; cases hy
      have := cmpV_tri.self x
      omega
    · have := key hy hx h1
      have := (cmpV_tri.anti x y).1 g
      omega
  · exact key hx hy
theorem Rise.below {v : Val} : ∀ {W : List Val}, Rise W → ∀ {i : Nat} {y : Val}, W[i]? = some y → (cmpV y v < 0 ↔ i < belowP W v)
  | [], _, i, y, hy => by simp at hy
  | x :: t, h, i, y, hy => by
    have h1 := List.pairwise_cons.1 h
    have hb : belowP (x :: t) v = belowP t v + if cmpV x v < 0 then 1 else 0 := by
      unfold belowP
      rw [List.countP_cons]
      by_cases h : cmpV x v < 0 <;> simp [h]
    by_cases hx : cmpV x v < 0
    · rw [hb, if_pos hx]
      cases i with
      | zero =>
        simp at hy; subst hy
        simp [hx]
      | succ i =>
        have := Rise.below (v := v) h1.2 (i := i) (y := y) (by simpa using hy)
        omega
    · rw [hb, if_neg hx, Nat.add_zero]
      have hz : belowP t v = 0 := by
        unfold belowP
        rw [List.countP_eq_zero]
        intro w hw
        have h2 := h1.1 w hw
        intro h3
        have h4 := cmpV_tri.ord.trans h2 (show ltT cmpV w v = true by simpa [ltT] using h3)
        exact hx (by simpa [ltT] using h4)
      rw [hz]
      refine ⟨fun g => ?_, fun g => by omega⟩
      exfalso
      cases i with
      | zero => simp at hy; subst hy; exact hx g
      | succ i =>
        have hyt : y ∈ t := List.mem_of_getElem? (i := i) (by simpa using hy)
        have : 0 < belowP t v := by
          unfold belowP
          rw [List.countP_pos_iff]
          exact ⟨y, hyt, by simpa using g⟩
        omega
theorem Rise.below_self {W : List Val} (h : Rise W) {i : Nat} {y : Val} (hy : W[i]? = some y) : belowP W y = i := by
  have h1 := h.below (v := y) hy
  have h0 := cmpV_tri.self y
  have hle : belowP W y ≤ i := by omega
  rcases Nat.lt_or_ge (belowP W y) i with h2 | h2
  · exfalso
    obtain ⟨z, hz⟩ : ∃ z, W[belowP W y]? = some z := ⟨_, List.getElem?_eq_getElem (Nat.lt_trans h2 (List.getElem?_eq_some_iff.1 hy).1)⟩
    have h3 := h.below (v := y) hz
    have h4 := (h.get hz hy).2 h2
    omega
  · omega
theorem words_Rise (l : List Val) : Rise (wordsP cmpV l) := words_rise cmpV_tri l
theorem place_spec {W : List Val} {a : Val} (h : ∃ y ∈ W, cmpV y a = 0) : ∃ (i : Nat) (y : Val), placeP W a = i ∧ W[i]? = some y ∧ cmpV y a = 0 := by
  obtain ⟨y, hy, hc⟩ := h
  have hany : W.any (fun w => decide (cmpV w a = 0)) = true := List.any_eq_true.2 ⟨y, hy, by simpa using hc⟩
  have hlt : W.findIdx (fun w => decide (cmpV w a = 0)) < W.length := List.findIdx_lt_length_of_exists ⟨y, hy, by simpa using hc⟩
  refine ⟨W.findIdx (fun w => decide (cmpV w a = 0)), W[W.findIdx (fun w => decide (cmpV w a = 0))], ?_, List.getElem?_eq_getElem hlt, ?_⟩
  · unfold placeP idxP
    rw [if_pos hany]
  · have := List.findIdx_getElem (w := hlt)
    simpa using this
theorem words_place {l : List Val} {a : Val} (h : a ∈ l) : ∃ (i : Nat) (y : Val), placeP (wordsP cmpV l) a = i ∧ (wordsP cmpV l)[i]? = some y ∧ cmpV y a = 0 := by
  obtain ⟨y, hy, hc⟩ := words_has cmpV_tri h
  exact place_spec ⟨y, hy, (cmpV_tri.zero a y).1 hc⟩
def codeW (l : List Val) (a : Val) : Nat := (placeP (wordsP cmpV l) a).toNat
theorem code_lt {l : List Val} {a b : Val} (ha : a ∈ l) (hb : b ∈ l) : codeW l a < codeW l b ↔ cmpV a b < 0 := by
  obtain ⟨i, y, hi, hy, hya⟩ := words_place ha
  obtain ⟨j, z, hj, hz, hzb⟩ := words_place hb
  unfold codeW
  rw [hi, hj]
  simp only [Int.toNat_natCast]
  rw [← (words_Rise l).get hy hz, cmpV_tri.congr_l hya, cmpV_tri.congr_r hzb]
theorem code_below {l : List Val} {a : Val} (ha : a ∈ l) (v : Val) : codeW l a < belowP (wordsP cmpV l) v ↔ cmpV a v < 0 := by
  obtain ⟨i, y, hi, hy, hya⟩ := words_place ha
  unfold codeW
  rw [hi]
  simp only [Int.toNat_natCast]
  rw [← (words_Rise l).below hy, cmpV_tri.congr_l hya]
theorem codesOk_words (l : List Val) : codesOk (wordsP cmpV l) l = true := by
  unfold codesOk
  rw [List.all_eq_true]
  intro a ha
  obtain ⟨i, y, hi, _⟩ := words_place ha
  rw [hi]; simp
theorem codesR_words (l : List Val) : codesR (wordsP cmpV l) l = .tup [.d (.list false (us (l.map (codeW l)))), iA 0] := by
  unfold codesR codesP codesE
  rw [codesOk_words]
  rfl
end Go.Proofs.Ytkapgooedfompaa

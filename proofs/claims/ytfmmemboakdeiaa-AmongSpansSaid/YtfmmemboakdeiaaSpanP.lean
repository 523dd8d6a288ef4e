/- Spans of keys that rise: plain facts. -/
import Derived.Test.YtfmmemboakdeiaaSpans
namespace Go.Proofs.Ytfmmemboakdeiaa
open Go.Proofs.YtfmmemboakdeiaaAw Go.RowKit
set_option linter.unusedVariables false
set_option linter.unusedSimpArgs false
theorem longer_last (L : List Span) (a e n : Int) : longer (L ++ [(a, e)]) n = L ++ [(a, n)] := by
  unfold longer
  simp
structure SpanI (keys : List Val) (k : Nat) (L : List Span) (a e : Int) : Prop where
  eq : spansK keys k = L ++ [(a, e)]
  le : a ≤ e
  all : ∀ s ∈ L, s.1 ≤ s.2 ∧ s.2 + 1 < a
  gap : L.Pairwise fun s t => s.2 + 1 < t.1
  has : ∀ n : Int, (∃ s ∈ L ++ [(a, e)], s.1 ≤ n ∧ n ≤ s.2) ↔ ∃ i v, i < k ∧ keys[i]? = some v ∧ v.i = n
theorem spanI (keys : List Val) (hr : ∀ i v w, keys[i]? = some v → keys[i + 1]? = some w → v.i < w.i) : ∀ k v, keys[k]? = some v → ∃ L a, SpanI keys (k + 1) L a v.i := by
  intro k
  induction k with
  | zero =>
    intro v hv
    refine ⟨[], v.i, by rw [spansK_succ hv]; rfl, Int.le_refl _, fun s hs => by simp at hs, .nil, fun n => ?_⟩
    constructor
    · rintro ⟨s, hs, h1, h2⟩
      simp at hs
      subst hs
      exact ⟨0, v, by omega, hv, by simp only at h1 h2; omega⟩
    · rintro ⟨i, w, hi, hw, rfl⟩
      have : i = 0 := by omega
      subst this
      rw [hv] at hw; cases hw
      exact ⟨(v.i, v.i), by simp, Int.le_refl _, Int.le_refl _⟩
  | succ k ih =>
    intro v hv
    have hlt := (List.getElem?_eq_some_iff.1 hv).1
    obtain ⟨u, hu⟩ : ∃ u, keys[k]? = some u := ⟨_, List.getElem?_eq_getElem (by omega)⟩
    obtain ⟨L, a, hI⟩ := ih u hu
    have huv := hr k u v hu hv
    have hs := spansK_succ hv
    rw [if_neg (by omega), show k + 1 - 1 = k from rfl, hu, hI.eq] at hs
    have hspl : ∀ n : Int, (∃ i w, i < k + 1 + 1 ∧ keys[i]? = some w ∧ w.i = n) ↔ ((∃ i w, i < k + 1 ∧ keys[i]? = some w ∧ w.i = n) ∨ v.i = n) := by
      intro n
      constructor
      · rintro ⟨i, w, hi, hw, h⟩
        by_cases h1 : i < k + 1
        · exact .inl ⟨i, w, h1, hw, h⟩
        · have : i = k + 1 := by omega
          subst this
          rw [hv] at hw; cases hw
          exact .inr h
      · rintro (⟨i, w, hi, hw, h⟩ | h)
        · exact ⟨i, w, by omega, hw, h⟩
        · exact ⟨k + 1, v, by omega, hv, h⟩
    by_cases hj : v.i - 1 = u.i
    · have e : stepS (L ++ [(a, u.i)]) (some u) v.i = L ++ [(a, v.i)] := by
        simp only [stepS, joins, huv, hj, decide_true, Bool.and_self, if_true]
        exact longer_last L a u.i v.i
      rw [e] at hs
      refine ⟨L, a, hs, by have := hI.le; omega, hI.all, hI.gap, fun n => ?_⟩
      rw [hspl, ← hI.has n]
      simp only [List.mem_append, List.mem_singleton]
      constructor
      · rintro ⟨s, hs | rfl, h1, h2⟩
        · exact .inl ⟨s, .inl hs, h1, h2⟩
        · simp only at h1 h2
          by_cases hn : n ≤ u.i
          · exact .inl ⟨_, .inr rfl, h1, hn⟩
          · exact .inr (by omega)
      · rintro (⟨s, hs | rfl, h1, h2⟩ | h)
        · exact ⟨s, .inl hs, h1, h2⟩
        · exact ⟨_, .inr rfl, h1, by simp only at h2 ⊢; omega⟩
        · exact ⟨_, .inr rfl, by have := hI.le; simp only; omega, by simp only; omega⟩
    · have e : stepS (L ++ [(a, u.i)]) (some u) v.i = (L ++ [(a, u.i)]) ++ [(v.i, v.i)] := by
        simp [stepS, joins, hj]
      rw [e] at hs
      refine ⟨L ++ [(a, u.i)], v.i, hs, Int.le_refl _, ?_, ?_, fun n => ?_⟩
      · intro s hs
        rcases List.mem_append.1 hs with h | h
        · have := hI.all s h; have := hI.le; omega
        · simp at h; subst h; exact ⟨hI.le, by simp only; omega⟩
      · rw [List.pairwise_append]
        exact ⟨hI.gap, List.pairwise_singleton _ _, fun s h t ht => by simp at ht; subst ht; exact (hI.all s h).2⟩
      · rw [hspl, ← hI.has n]
        simp only [List.mem_append, List.mem_singleton]
        constructor
        · rintro ⟨s, h | rfl, h1, h2⟩
          · exact .inl ⟨s, h, h1, h2⟩
          · exact .inr (by simp only at h1 h2; omega)
        · rintro (⟨s, h, h1, h2⟩ | h)
          · exact ⟨s, .inl h, h1, h2⟩
          · exact ⟨_, .inr rfl, by simp only; omega, by simp only; omega⟩
end Go.Proofs.Ytfmmemboakdeiaa

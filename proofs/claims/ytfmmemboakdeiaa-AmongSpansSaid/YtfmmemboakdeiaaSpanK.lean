/- Keys of rows of one number: plain facts. -/
import Derived.Test.YtfmmemboakdeiaaSpanP
import Derived.Test.YtfmmemboakdeiaaKeys
namespace Go.Proofs.Ytfmmemboakdeiaa
open Go.Proofs.YtfmmemboakdeiaaAw Go.RowKit
set_option linter.unusedVariables false
set_option linter.unusedSimpArgs false
def n19 (n : Int) : Val := ⟨1, n, noS⟩
def oneR (l : List Int) : List (List Val) := l.map fun n => [n19 n]
theorem keyF_one (l : List Int) : keyF (oneR l) 0 [] = l.map n19 := by
  unfold keyF oneR
  induction l with
  | nil => rfl
  | cons x l ih =>
    have h0 : ¬ (n19 x).kind = 0 := by simp [n19]
    simp [atP, allP, h0] at ih ⊢
    exact ih
theorem cmp_n19 (a b : Int) : cmpV (n19 a) (n19 b) < 0 ↔ a < b := by
  simp only [cmpV, n19]
  simp [cmpI, ordI]
  omega
theorem one_num {l : List Int} {v : Val} (h : v ∈ wordsP cmpV (l.map n19)) : v = n19 v.i ∧ v.i ∈ l := by
  obtain ⟨n, hn, rfl⟩ := List.mem_map.1 (words_mem cmpV_tri h)
  exact ⟨rfl, hn⟩
theorem one_has {l : List Int} {n : Int} (h : n ∈ l) : n19 n ∈ wordsP cmpV (l.map n19) := by
  obtain ⟨y, hy, hc⟩ := words_has cmpV_tri (l := l.map n19) (List.mem_map.2 ⟨n, h, rfl⟩)
  obtain ⟨e, _⟩ := one_num hy
  rw [e] at hc
  have : n = y.i := by
    have h1 := cmp_n19 n y.i
    have h2 : 0 < cmpV (n19 n) (n19 y.i) ↔ y.i < n := by
      simp only [cmpV, n19]
      simp [cmpI, ordI]
      omega
    omega
  rw [this, ← e]
  exact hy
theorem one_rise (l : List Int) : ∀ i v w, (wordsP cmpV (l.map n19))[i]? = some v → (wordsP cmpV (l.map n19))[i + 1]? = some w → v.i < w.i := by
  intro i v w hv hw
  have hr := words_rise cmpV_tri (l.map n19)
  obtain ⟨h1, e1⟩ := List.getElem?_eq_some_iff.1 hv
  obtain ⟨h2, e2⟩ := List.getElem?_eq_some_iff.1 hw
  have := List.pairwise_iff_getElem.1 hr i (i + 1) h1 h2 (by omega)
  rw [e1, e2] at this
  have f1 := (one_num (List.mem_of_getElem? hv)).1
  have f2 := (one_num (List.mem_of_getElem? hw)).1
  rw [f1, f2] at this
  have h3 : cmpV (n19 v.i) (n19 w.i) < 0 := by simpa [ltT] using this
  exact (cmp_n19 _ _).1 h3
theorem one_keys (l : List Int) : keysP (oneR l) 0 [] = wordsP cmpV (l.map n19) := by unfold keysP; rw [keyF_one]
structure SpanL (l : List Int) (S : List Span) : Prop where
  num : allNum (keysP (oneR l) 0 []) = true
  eq : spansK (keysP (oneR l) 0 []) (keysP (oneR l) 0 []).length = S
  gap : ∀ k a b, S[k]? = some a → S[k + 1]? = some b → a.2 + 1 < b.1 ∧ I64 a.2 ∧ I64 b.1
  has : ∀ n : Int, withinP S (n19 n) = l.any (fun x => decide (x = n))
  len : S.length ≤ l.length
theorem spanL (l : List Int) (hi : ∀ x ∈ l, I64 x) : ∃ S, SpanL l S := by
  have hone : ∀ v, v ∈ keysP (oneR l) 0 [] → v = n19 v.i ∧ v.i ∈ l := fun v hv => by rw [one_keys] at hv; exact one_num hv
  have hhas : ∀ n, n ∈ l → n19 n ∈ keysP (oneR l) 0 [] := fun n hn => by rw [one_keys]; exact one_has hn
  have hrise : ∀ i v w, (keysP (oneR l) 0 [])[i]? = some v → (keysP (oneR l) 0 [])[i + 1]? = some w → v.i < w.i := by rw [one_keys]; exact one_rise l
  have hlen : (keysP (oneR l) 0 []).length ≤ l.length := by rw [one_keys]; exact Nat.le_trans (wordsP_len _ _) (by simp)
  generalize hK : keysP (oneR l) 0 [] = K at *
  have hnum : allNum K = true := allNum_true fun i h => by
    have := (hone _ (List.getElem_mem h)).1
    rw [this]; rfl
  have hanyP : ∀ S : List Span, (∀ n : Int, (∃ s ∈ S, s.1 ≤ n ∧ n ≤ s.2) ↔ n ∈ l) → ∀ n : Int, withinP S (n19 n) = l.any (fun x => decide (x = n)) := fun S h n => by
    have e : withinP S (n19 n) = S.any fun s => decide (s.1 ≤ n) && decide (n ≤ s.2) := rfl
    rw [e, Bool.eq_iff_iff, List.any_eq_true, List.any_eq_true]
    constructor
    · rintro ⟨s, hs, h2⟩
      rw [Bool.and_eq_true, decide_eq_true_eq, decide_eq_true_eq] at h2
      exact ⟨n, (h n).1 ⟨s, hs, h2⟩, decide_eq_true rfl⟩
    · rintro ⟨x, hx, h2⟩
      have h2 := of_decide_eq_true h2
      subst h2
      obtain ⟨s, hs, h3, h4⟩ := (h x).2 hx
      exact ⟨s, hs, by rw [decide_eq_true h3, decide_eq_true h4]; rfl⟩
  rcases Nat.eq_zero_or_pos K.length with h0 | h0
  · have hK0 : K = [] := List.length_eq_zero_iff.1 h0
    subst hK0
    refine ⟨[], by rw [hK]; exact hnum, by rw [hK]; rfl, fun k a b h => by simp at h, hanyP _ fun n => ?_, by simp⟩
    constructor
    · rintro ⟨s, hs, _⟩; simp at hs
    · intro hn; have := hhas n hn; simp at this
  · obtain ⟨v, hv⟩ : ∃ v, K[K.length - 1]? = some v := ⟨_, List.getElem?_eq_getElem (by omega)⟩
    obtain ⟨L, a, hI⟩ := spanI K hrise (K.length - 1) v hv
    have e1 : K.length - 1 + 1 = K.length := by omega
    rw [e1] at hI
    have hiff : ∀ n : Int, (∃ s ∈ L ++ [(a, v.i)], s.1 ≤ n ∧ n ≤ s.2) ↔ n ∈ l := fun n => by
      rw [hI.has n]
      constructor
      · rintro ⟨i, w, _, hw, rfl⟩
        exact (hone w (List.mem_of_getElem? hw)).2
      · intro hn
        obtain ⟨i, hi2, e⟩ := List.mem_iff_getElem.1 (hhas n hn)
        exact ⟨i, n19 n, hi2, by rw [List.getElem?_eq_getElem hi2, e], rfl⟩
    have hle : ∀ s ∈ L ++ [(a, v.i)], s.1 ≤ s.2 := fun s hs => by
      rcases List.mem_append.1 hs with h | h
      · exact (hI.all s h).1
      · simp at h; subst h; exact hI.le
    have hin : ∀ s ∈ L ++ [(a, v.i)], I64 s.1 ∧ I64 s.2 := fun s hs =>
      ⟨hi _ ((hiff s.1).1 ⟨s, hs, Int.le_refl _, hle s hs⟩), hi _ ((hiff s.2).1 ⟨s, hs, hle s hs, Int.le_refl _⟩)⟩
    have hpw : (L ++ [(a, v.i)]).Pairwise fun s t => s.2 + 1 < t.1 := by
      rw [List.pairwise_append]
      exact ⟨hI.gap, List.pairwise_singleton _ _, fun s h t ht => by simp at ht; subst ht; exact (hI.all s h).2⟩
    refine ⟨L ++ [(a, v.i)], by rw [hK]; exact hnum, by rw [hK]; exact hI.eq, fun k x y hx hy => ?_, hanyP _ hiff, ?_⟩
    · obtain ⟨h1, e1⟩ := List.getElem?_eq_some_iff.1 hx
      obtain ⟨h2, e2⟩ := List.getElem?_eq_some_iff.1 hy
      have := List.pairwise_iff_getElem.1 hpw k (k + 1) h1 h2 (by omega)
      rw [e1, e2] at this
      exact ⟨this, (hin x (List.mem_of_getElem? hx)).2, (hin y (List.mem_of_getElem? hy)).1⟩
    · have := spansK_le K K.length
      rw [hI.eq] at this
      omega
/-! ### Rows that are written out -/
def rowsT (R : List (List Val)) : List (List D) := R.map fun r => [.list true (r.map Val.enc)]
theorem rowsT_len (R : List (List Val)) : (rowsT R).length = R.length := by simp [rowsT]
theorem rowsT_snoc (R : List (List Val)) (r : List Val) : rowsT R ++ [[.list true (r.map Val.enc)]] = rowsT (R ++ [r]) := by simp [rowsT]
theorem RD.loose {N : Addr → Prop} {w : World} {es : List (List D)} {v : Value} (h : RD N w (.list true es) v) : RD N w (.list false es) v := by
  cases h with
  | list nn es ad cap k c hc hk h hd => exact .list false es ad cap k c hc hk h hd
theorem rowsT_sub (nn : Bool) (R : List (List Val)) : Sub (.d (.list nn (rowsT R))) (.d (.list nn (rowsD R))) := by
  refine .sem fun N w v h => ?_
  generalize hE : rowsT R = E at h
  cases h with
  | nil A c hA =>
    have : R = [] := by simpa [rowsT] using hE
    subst this
    exact .nil A c hA
  | list nn es ad cap k c hc hk h hd =>
    subst hE
    have hlen : (rowsD R).length = (rowsT R).length := by rw [rowsD_len, rowsT_len]
    rw [← hlen]
    refine .list nn (rowsD R) ad cap k c (by rw [hlen]; exact hc) ?_ (fun i j hi hj => h i j (by rw [← hlen]; exact hi) hj) ?_
    · intro e he
      obtain ⟨r, hr, rfl⟩ := List.mem_map.1 he
      exact hk [.list true (r.map Val.enc)] (List.mem_map.2 ⟨r, hr, rfl⟩)
    · intro i hi j hj
      have hi2 : i < (rowsT R).length := by rw [← hlen]; exact hi
      have hiR : i < R.length := by rw [rowsD_len] at hi; exact hi
      have e1 : (rowsD R)[i] = [.list false (R[i].map Val.enc)] := by simp [rowsD, rowD]
      have e2 : (rowsT R)[i] = [.list true (R[i].map Val.enc)] := by simp [rowsT]
      have hj0 : j = 0 := by simp [e1] at hj; exact hj
      subst hj0
      have := hd i hi2 0 (by simp [e2])
      simp only [e2, List.getElem_cons_zero] at this
      simp only [e1, List.getElem_cons_zero]
      exact RD.loose this
end Go.Proofs.Ytfmmemboakdeiaa

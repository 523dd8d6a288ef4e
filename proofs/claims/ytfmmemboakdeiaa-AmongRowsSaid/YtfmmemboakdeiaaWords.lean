/- What is sorted, each once: in plain Lean. -/
import Derived.Test.YtfmmemboakdeiaaTri
import Derived.Test.YtfmmemboakdeiaaCompP
namespace Go.Proofs.Ytfmmemboakdeiaa
open Go.Proofs.YtfmmemboakdeiaaAw Go.RowKit
set_option linter.unusedVariables false
set_option linter.unusedSimpArgs false
theorem cgo_mem {α : Type} {eq : α → α → Bool} : ∀ {t : List α} {p x : α}, x ∈ St.cgo eq p t → x ∈ t
  | [], _, _, h => by simp [St.cgo] at h
  | y :: t, p, x, h => by
    unfold St.cgo at h
    split at h
    · exact List.mem_cons_of_mem _ (cgo_mem h)
    · rcases List.mem_cons.1 h with rfl | h
      · exact List.mem_cons_self ..
      · exact List.mem_cons_of_mem _ (cgo_mem h)
theorem compactP_mem {α : Type} {eq : α → α → Bool} {l : List α} {x : α} (h : x ∈ St.compactP eq l) : x ∈ l := by
  cases l with
  | nil => simp [St.compactP] at h
  | cons y t =>
    rcases List.mem_cons.1 h with rfl | h
    · exact List.mem_cons_self ..
    · exact List.mem_cons_of_mem _ (cgo_mem h)
theorem cgo_sorted {α : Type} {c : α → α → Int} (ht : Tri c) : ∀ {t : List α} {p : α}, St.Sorted (ltT c) (p :: t) → (p :: St.cgo (fun a b => decide (c a b = 0)) p t).Pairwise (fun x y => ltT c x y = true) ∧ ∀ x ∈ t, ∃ y ∈ p :: St.cgo (fun a b => decide (c a b = 0)) p t, c x y = 0
  | [], p, _ => by simp [St.cgo]
  | y :: t, p, h => by
    have h1 := List.pairwise_cons.1 h
    have h2 := List.pairwise_cons.1 h1.2
    have hp : ltT c y p = false := h1.1 y (by simp)
    unfold St.cgo
    by_cases he : c y p = 0
    · rw [if_pos (by simpa using he)]
      have hs : St.Sorted (ltT c) (p :: t) := List.pairwise_cons.2 ⟨fun z hz => h1.1 z (by simp [hz]), h2.2⟩
      -- the neighbour's own walk goes on from y: alike to p
      have key : ∀ (t : List α) (y p : α), c y p = 0 → St.cgo (fun a b => decide (c a b = 0)) y t = St.cgo (fun a b => decide (c a b = 0)) p t := by
        intro t
        cases t with
        | nil => intros; rfl
        | cons z t =>
          intro y p h
          unfold St.cgo
          have : decide (c z y = 0) = decide (c z p = 0) := by
            rw [Bool.eq_iff_iff, decide_eq_true_eq, decide_eq_true_eq]
            exact ⟨fun g => ht.zero_trans g h, fun g => ht.zero_trans g ((ht.zero y p).1 h)⟩
          rw [this]
      rw [key t y p he]
      obtain ⟨i1, i2⟩ := cgo_sorted ht hs
      refine ⟨i1, fun x hx => ?_⟩
      rcases List.mem_cons.1 hx with rfl | hx
      · exact ⟨p, by simp, he⟩
      · exact i2 x hx
    · rw [if_neg (by simpa using he)]
      obtain ⟨i1, i2⟩ := cgo_sorted ht h1.2
      have hlt : ltT c p y = true := by
        simp only [ltT, decide_eq_true_eq, decide_eq_false_iff_not] at hp ⊢
        have := ht.anti p y
        omega
      refine ⟨List.pairwise_cons.2 ⟨fun z hz => ?_, i1⟩, fun x hx => ?_⟩
      · rcases List.mem_cons.1 hz with rfl | hz
        · exact hlt
        · exact ht.ord.trans hlt ((List.pairwise_cons.1 i1).1 z hz)
      · rcases List.mem_cons.1 hx with rfl | hx
        · exact ⟨x, by simp, ht.self x⟩
        · obtain ⟨z, hz, hc⟩ := i2 x hx
          exact ⟨z, List.mem_cons_of_mem _ hz, hc⟩
theorem compact_sorted {α : Type} {c : α → α → Int} (ht : Tri c) {l : List α} (h : St.Sorted (ltT c) l) : (St.compactP (fun a b => decide (c a b = 0)) l).Pairwise (fun x y => ltT c x y = true) ∧ ∀ x ∈ l, ∃ y ∈ St.compactP (fun a b => decide (c a b = 0)) l, c x y = 0 := by
  cases l with
  | nil => simp [St.compactP]
  | cons p t =>
    obtain ⟨h1, h2⟩ := cgo_sorted ht h
    refine ⟨h1, fun x hx => ?_⟩
    rcases List.mem_cons.1 hx with rfl | hx
    · exact ⟨x, by simp [St.compactP], ht.self x⟩
    · exact h2 x hx
theorem compact_rise {α : Type} {c : α → α → Int} (ht : Tri c) : ∀ {l : List α}, l.Pairwise (fun x y => ltT c x y = true) → St.compactP (fun a b => decide (c a b = 0)) l = l := by
  intro l h
  cases l with
  | nil => rfl
  | cons p t =>
    simp only [St.compactP]
    congr 1
    induction t generalizing p with
    | nil => rfl
    | cons y t ih =>
      have h1 := List.pairwise_cons.1 h
      unfold St.cgo
      have : ¬ c y p = 0 := fun e => by
        have h3 := h1.1 y (by simp)
        simp only [ltT, decide_eq_true_eq] at h3
        have := (ht.zero y p).1 e
        omega
      rw [if_neg (by simpa using this)]
      congr 1
      exact ih y h1.2
theorem rise_sorted {α : Type} {c : α → α → Int} (ht : Tri c) {l : List α} (h : l.Pairwise (fun x y => ltT c x y = true)) : St.Sorted (ltT c) l := h.imp fun {x y} hx => ht.ord.asym x y hx
/-- Words: what is sorted, each once. -/
def wordsP {α : Type} (c : α → α → Int) (l : List α) : List α := St.compactP (fun a b => decide (c a b = 0)) (St.sortS (ltT c) l)
theorem words_rise {α : Type} {c : α → α → Int} (ht : Tri c) (l : List α) : (wordsP c l).Pairwise (fun x y => ltT c x y = true) := (compact_sorted ht (St.sortS_sorted ht.ord l)).1
theorem words_mem {α : Type} {c : α → α → Int} (ht : Tri c) {l : List α} {x : α} (h : x ∈ wordsP c l) : x ∈ l := (St.sortS_mem ht.ord).1 (compactP_mem h)
theorem words_has {α : Type} {c : α → α → Int} (ht : Tri c) {l : List α} {x : α} (h : x ∈ l) : ∃ y ∈ wordsP c l, c x y = 0 := (compact_sorted ht (St.sortS_sorted ht.ord l)).2 x ((St.sortS_mem ht.ord).2 h)
theorem words_idem {α : Type} {c : α → α → Int} (ht : Tri c) (l : List α) : wordsP c (wordsP c l) = wordsP c l := by
  have h := words_rise ht l
  generalize wordsP c l = m at h
  unfold wordsP
  rw [St.sortS_self ht.ord (rise_sorted ht h), compact_rise ht h]
end Go.Proofs.Ytfmmemboakdeiaa

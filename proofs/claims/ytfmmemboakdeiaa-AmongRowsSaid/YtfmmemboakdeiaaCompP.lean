/- Neighbours that are alike, each once: in plain Lean. -/
import Derived.Test.YtfmmemboakdeiaaBase
namespace Go.Proofs.Ytfmmemboakdeiaa
set_option linter.unusedVariables false
namespace St
variable {α : Type} {eq : α → α → Bool}
def cgo (eq : α → α → Bool) : α → List α → List α
  | _, [] => []
  | p, y :: t => if eq y p = true then cgo eq y t else y :: cgo eq y t
def compactP (eq : α → α → Bool) : List α → List α
  | [] => []
  | x :: t => x :: cgo eq x t
theorem cgo_snoc : ∀ (p : α) (t : List α) (x : α), cgo eq p (t ++ [x]) = cgo eq p t ++ (if eq x ((p :: t).getLast (by simp)) = true then [] else [x])
  | p, [], x => by cases h : eq x p <;> simp [cgo, h]
  | p, y :: t, x => by
    simp only [List.cons_append, cgo, cgo_snoc y t x]
    have e : (p :: y :: t).getLast (by simp) = (y :: t).getLast (by simp) := List.getLast_cons (by simp)
    rw [e]
    by_cases h : eq y p = true
    · simp [h]
    · simp [h]
theorem compactP_snoc {M : List α} {x y : α} {k : Nat} (hk : M.length = k + 1) (hy : M[k]? = some y) : compactP eq (M ++ [x]) = compactP eq M ++ (if eq x y = true then [] else [x]) := by
  cases M with
  | nil => simp at hk
  | cons p t =>
    simp only [List.cons_append, compactP, cgo_snoc]
    have : (p :: t).getLast (by simp) = y := by
      rw [List.getLast_eq_getElem]
      have h := List.getElem?_eq_some_iff.1 hy
      obtain ⟨h1, h2⟩ := h
      simp only [List.length_cons] at hk
      simp only [List.length_cons, show t.length + 1 - 1 = k by omega]
      exact h2
    rw [this]
theorem cgo_len (p : α) (t : List α) : (cgo eq p t).length ≤ t.length := by
  induction t generalizing p with
  | nil => simp [cgo]
  | cons y t ih => unfold cgo; split <;> simp; exact Nat.le_succ_of_le (ih y); exact ih y
theorem compactP_len (l : List α) : (compactP eq l).length ≤ l.length := by
  cases l with
  | nil => simp [compactP]
  | cons x t => simpa [compactP] using cgo_len x t
end St
end Go.Proofs.Ytfmmemboakdeiaa

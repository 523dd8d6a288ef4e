/- Blocks that are sorted one by one. -/
import Derived.Test.YtfmmemboakdeiaaSortP
namespace Go.Proofs.Ytfmmemboakdeiaa
set_option linter.unusedVariables false
namespace St
variable {α : Type} {lt : α → α → Bool}
def blk (s j : Nat) (l : List α) : List α := (l.drop (j * s)).take s
theorem blk_front {s j k : Nat} {P R : List α} (hP : P.length = k * s) (hj : j < k) : blk s j (P ++ R) = (P.drop (j * s)).take s := by
  have h1 : (j + 1) * s ≤ k * s := Nat.mul_le_mul_right s hj
  rw [Nat.add_mul, Nat.one_mul] at h1
  unfold blk
  rw [List.drop_append_of_le_length (by omega), List.take_append_of_le_length (by rw [List.length_drop]; omega)]
theorem blk_at {s k : Nat} {P X Q : List α} (hP : P.length = k * s) (hX : X.length = s ∨ X.length ≤ s ∧ Q = []) : blk s k (P ++ X ++ Q) = X := by
  unfold blk
  rw [List.append_assoc, ← hP, List.drop_left]
  rcases hX with h | ⟨h, rfl⟩
  · rw [← h, List.take_left]
  · rw [List.append_nil, List.take_of_length_le h]
theorem drop_behind {P X Q : List α} {i : Nat} (h : P.length + X.length ≤ i) : (P ++ X ++ Q).drop i = Q.drop (i - (P.length + X.length)) := by
  rw [List.drop_append, List.drop_of_length_le (by rw [List.length_append]; exact h), List.nil_append, List.length_append]
theorem blk_behind {s j : Nat} {P X X' Q : List α} (hX : X.length = X'.length) (h : P.length + X.length ≤ j * s) : blk s j (P ++ X ++ Q) = blk s j (P ++ X' ++ Q) := by
  unfold blk
  rw [drop_behind h, drop_behind (by omega), hX]
theorem blk_out {s j : Nat} {l : List α} (h : l.length ≤ j * s) : blk s j l = [] := by
  unfold blk
  rw [List.drop_of_length_le h, List.take_nil]
/-- One block more. -/
theorem blk_more (ho : Ord lt) {s k : Nat} {P X Q : List α} (hP : P.length = k * s) (h : ∀ j, j < k → Sorted lt (blk s j (P ++ X ++ Q))) (hX : X.length = s ∨ X.length ≤ s ∧ Q = []) : ∀ j, j < k + 1 → Sorted lt (blk s j (P ++ sortS lt X ++ Q)) := by
  intro j hj
  rcases Nat.lt_or_ge j k with h1 | h1
  · have := h j h1
    rw [List.append_assoc, blk_front hP h1] at this ⊢
    exact this
  · obtain rfl : j = k := by omega
    rw [blk_at hP (by rw [sortS_len]; exact hX)]
    exact sortS_sorted ho X
theorem steq_part (ho : Ord lt) (P X Q : List α) : StEq lt (P ++ sortS lt X ++ Q) (P ++ X ++ Q) := StEq.app (StEq.app (.refl _) (sortS_steq ho X)) (.refl _)
/-- A list, cut at two places. -/
theorem cut3 (l : List α) (a s : Nat) : l.take a ++ (l.drop a).take s ++ l.drop (a + s) = l := by
  rw [List.append_assoc, ← List.drop_drop, List.take_append_drop, List.take_append_drop]
theorem cut4 (l : List α) (a s t : Nat) : l.take a ++ (l.drop a).take s ++ (l.drop (a + s)).take t ++ l.drop (a + s + t) = l := by
  have e : (l.drop (a + s)).take t ++ l.drop (a + s + t) = l.drop (a + s) := by
    have := List.take_append_drop t (l.drop (a + s))
    rwa [List.drop_drop] at this
  rw [List.append_assoc, e, cut3]
end St
end Go.Proofs.Ytfmmemboakdeiaa

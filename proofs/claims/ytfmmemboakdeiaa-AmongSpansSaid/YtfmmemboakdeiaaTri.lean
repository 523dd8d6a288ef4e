/- Three-way comparing functions: what they have in common; val.Compare is one. -/
import Derived.Test.YtfmmemboakdeiaaCmp
import Derived.Test.YtfmmemboakdeiaaSortP
namespace Go.Proofs.Ytfmmemboakdeiaa
open Go.Proofs.YtfmmemboakdeiaaAw Go.RowKit
set_option linter.unusedVariables false
set_option linter.unusedSimpArgs false
structure Tri {α : Type} (c : α → α → Int) : Prop where
  anti : ∀ x y, c x y < 0 ↔ 0 < c y x
  ntrans : ∀ x y z, c x z < 0 → c x y < 0 ∨ c y z < 0
def ltT {α : Type} (c : α → α → Int) (x y : α) : Bool := decide (c x y < 0)
theorem Tri.ord {α : Type} {c : α → α → Int} (h : Tri c) : St.Ord (ltT c) where
  asym x y hx := by
    simp only [ltT, decide_eq_true_eq, decide_eq_false_iff_not] at hx ⊢
    have := (h.anti x y).1 hx
    omega
  ntrans x y z hx := by
    simp only [ltT, decide_eq_true_eq] at hx ⊢
    exact h.ntrans x y z hx
theorem Tri.zero {α : Type} {c : α → α → Int} (h : Tri c) (x y : α) : c x y = 0 ↔ c y x = 0 := by
  have h1 := h.anti x y
  have h2 := h.anti y x
  omega
theorem Tri.self {α : Type} {c : α → α → Int} (h : Tri c) (x : α) : c x x = 0 := by
  have h1 := h.anti x x
  omega
theorem Tri.le_trans {α : Type} {c : α → α → Int} (h : Tri c) {x y z : α} (h1 : c x y ≤ 0) (h2 : c y z ≤ 0) : c x z ≤ 0 := by
  have a1 := h.anti y x
  have a2 := h.anti z y
  have a3 := h.anti z x
  have := h.ntrans z y x
  omega
theorem Tri.zero_trans {α : Type} {c : α → α → Int} (h : Tri c) {x y z : α} (h1 : c x y = 0) (h2 : c y z = 0) : c x z = 0 := by
  have a1 := h.le_trans (x := x) (y := y) (z := z) (by omega) (by omega)
  have a2 := h.le_trans (x := z) (y := y) (z := x) (by have := (h.zero y z).1 h2; omega) (by have := (h.zero x y).1 h1; omega)
  have a3 := h.anti x z
  have a4 := h.anti z x
  omega
/-- First by the one, then, where it tells nothing, by the other. -/
theorem Tri.lex {α : Type} {c d e : α → α → Int} (h : Tri c) (h1 : ∀ x y, c x y ≠ 0 → e x y = c x y) (h2 : ∀ x y, c x y = 0 → e x y = d x y) (da : ∀ x y, c x y = 0 → (d x y < 0 ↔ 0 < d y x)) (dn : ∀ x y z, c x y = 0 → c y z = 0 → d x z < 0 → d x y < 0 ∨ d y z < 0) : Tri e where
  anti x y := by
    by_cases hc : c x y = 0
    · rw [h2 x y hc, h2 y x ((h.zero x y).1 hc)]
      exact da x y hc
    · rw [h1 x y hc, h1 y x fun h0 => hc ((h.zero x y).2 h0)]
      exact h.anti x y
  ntrans x y z hx := by
    by_cases hxy : c x y = 0
    · by_cases hyz : c y z = 0
      · have hxz := h.zero_trans hxy hyz
        rw [h2 x z hxz] at hx
        rw [h2 x y hxy, h2 y z hyz]
        exact dn x y z hxy hyz hx
      · have hxz : c x z ≠ 0 := fun h0 => hyz (h.zero_trans ((h.zero x y).1 hxy) h0)
        rw [h1 x z hxz] at hx
        rw [h1 y z hyz]
        rcases h.ntrans x y z hx with h3 | h3
        · omega
        · exact .inr h3
    · by_cases hyz : c y z = 0
      · have hxz : c x z ≠ 0 := fun h0 => hxy (h.zero_trans h0 ((h.zero y z).1 hyz))
        rw [h1 x z hxz] at hx
        rw [h1 x y hxy]
        rcases h.ntrans x y z hx with h3 | h3
        · exact .inl h3
        · omega
      · rw [h1 x y hxy, h1 y z hyz]
        by_cases hxz : c x z = 0
        · have a1 := h.anti x y
          have a2 := h.anti y x
          have a3 := h.anti y z
          have a4 := h.anti z y
          have n1 := h.ntrans y x z
          have n2 := h.ntrans y z x
          have n3 := h.ntrans z x y
          have z1 := (h.zero x z).1 hxz
          omega
        · rw [h1 x z hxz] at hx
          exact h.ntrans x y z hx
theorem ordI_tri {α : Type} {lt : α → α → Bool} {c : α → α → Int} (ho : St.Ord lt) (h1 : ∀ x y, lt x y = true → c x y < 0) (h2 : ∀ x y, lt x y = false → lt y x = true → 0 < c x y) (h3 : ∀ x y, lt x y = false → lt y x = false → c x y = 0) : Tri c where
  anti x y := by
    cases hx : lt x y with
    | true => have := h1 x y hx; have := h2 y x (ho.asym x y hx) hx; omega
    | false =>
      cases hy : lt y x with
      | true => have := h1 y x hy; have := h2 x y hx hy; omega
      | false => have := h3 x y hx hy; have := h3 y x hy hx; omega
  ntrans x y z hx := by
    have hl : lt x z = true := by
      cases e : lt x z with
      | true => rfl
      | false =>
        cases e2 : lt z x with
        | true => have := h2 x z e e2; omega
        | false => have := h3 x z e e2; omega
    rcases ho.ntrans x y z hl with h | h
    · exact .inl (h1 x y h)
    · exact .inr (h1 y z h)
theorem cmpI_tri : Tri cmpI where
  anti x y := by
    unfold cmpI ordI
    by_cases h1 : x < y <;> by_cases h2 : y < x <;> simp [h1, h2] <;> omega
  ntrans x y z := by
    unfold cmpI ordI
    by_cases h1 : x < y <;> by_cases h2 : y < x <;> by_cases h3 : y < z <;> by_cases h4 : z < y <;> by_cases h5 : x < z <;> by_cases h6 : z < x <;> simp [h1, h2, h3, h4, h5, h6] <;> omega
theorem cmpI_zero {a b : Int} : cmpI a b = 0 ↔ a = b := by
  unfold cmpI ordI
  by_cases h1 : a < b <;> by_cases h2 : b < a <;> simp [h1, h2] <;> omega
theorem cmpI_neg {a b : Int} : cmpI a b < 0 ↔ a < b := by
  unfold cmpI ordI
  by_cases h1 : a < b <;> by_cases h2 : b < a <;> simp [h1, h2] <;> omega
theorem cmpF_eq (a b : Nat) : cmpF a b = cmpI (keyN a) (keyN b) := by
  unfold cmpF cmpI ordI
  simp [Int.ofNat_lt]
theorem bytesLess_irr : ∀ l : List UInt8, Op.bytesLess l l = false
  | [] => rfl
  | a :: l => by simp [Op.bytesLess, bytesLess_irr l]
theorem bytesLess_asym : ∀ l m : List UInt8, Op.bytesLess l m = true → Op.bytesLess m l = false
  | _, [], h => by simp [Op.bytesLess] at h
  | [], _ :: _, _ => rfl
  | a :: l, b :: m, h => by
    simp only [Op.bytesLess, Bool.or_eq_true, decide_eq_true_eq, Bool.and_eq_true, beq_iff_eq] at h
    simp only [Op.bytesLess, Bool.or_eq_false_iff, decide_eq_false_iff_not, Bool.and_eq_false_iff, beq_eq_false_iff_ne]
    rcases h with h | ⟨rfl, h⟩
    · exact ⟨fun h2 => UInt8.lt_asymm h h2, .inl fun e => by subst e; exact UInt8.lt_irrefl _ h⟩
    · exact ⟨UInt8.lt_irrefl _, .inr (bytesLess_asym l m h)⟩
theorem bytesLess_tri : ∀ l m : List UInt8, Op.bytesLess l m = false → Op.bytesLess m l = false → l = m
  | [], [], _, _ => rfl
  | [], _ :: _, h, _ => by simp [Op.bytesLess] at h
  | _ :: _, [], _, h => by simp [Op.bytesLess] at h
  | a :: l, b :: m, h1, h2 => by
    simp only [Op.bytesLess, Bool.or_eq_false_iff, decide_eq_false_iff_not, Bool.and_eq_false_iff, beq_eq_false_iff_ne] at h1 h2
    have e : a = b := UInt8.le_antisymm (UInt8.not_lt.1 h2.1) (UInt8.not_lt.1 h1.1)
    subst e
    rcases h1.2 with h | h
    · exact absurd rfl h
    · rcases h2.2 with g | g
      · exact absurd rfl g
      · rw [bytesLess_tri l m h g]
theorem bytesLess_trans : ∀ l m n : List UInt8, Op.bytesLess l m = true → Op.bytesLess m n = true → Op.bytesLess l n = true
  | _, _, [], _, h => by simp [Op.bytesLess] at h
  | [], _, _ :: _, _, _ => rfl
  | _ :: _, [], _ :: _, h, _ => by simp [Op.bytesLess] at h
  | a :: l, b :: m, c :: n, h1, h2 => by
    simp only [Op.bytesLess, Bool.or_eq_true, decide_eq_true_eq, Bool.and_eq_true, beq_iff_eq] at h1 h2 ⊢
    rcases h1 with h1 | ⟨rfl, h1⟩
    · rcases h2 with h2 | ⟨rfl, h2⟩
      · exact .inl (UInt8.lt_trans h1 h2)
      · exact .inl h1
    · rcases h2 with h2 | ⟨rfl, h2⟩
      · exact .inl h2
      · exact .inr ⟨rfl, bytesLess_trans l m n h1 h2⟩
theorem lessS_ord : St.Ord lessS where
  asym x y h := bytesLess_asym _ _ h
  ntrans x y z h := by
    unfold lessS at *
    cases h1 : Op.bytesLess x.toList y.toList with
    | true => exact .inl rfl
    | false =>
      right
      cases h2 : Op.bytesLess y.toList x.toList with
      | true => exact bytesLess_trans _ _ _ h2 h
      | false => rw [← bytesLess_tri _ _ h1 h2]; exact h
theorem cmpS_tri : Tri cmpS := by
  refine ordI_tri lessS_ord (fun x y h => ?_) (fun x y h g => ?_) fun x y h g => ?_
  · unfold cmpS ordI; simp [h]
  · unfold cmpS ordI
    have : (x.toList == y.toList) = false := by
      rw [beq_eq_false_iff_ne]
      intro e
      unfold lessS at g
      rw [e, bytesLess_irr] at g; cases g
    simp [h, this]
  · unfold cmpS ordI
    have e := bytesLess_tri _ _ h g
    simp [h, e]
theorem cmpS_zero {a b : ByteArray} : cmpS a b = 0 ↔ a = b := by
  unfold cmpS ordI
  constructor
  · intro h
    cases h1 : lessS a b with
    | true => simp [h1] at h
    | false =>
      simp only [h1, Bool.false_eq_true, if_false, Bool.false_or] at h
      cases h2 : a.toList == b.toList with
      | false => simp [h2] at h
      | true => exact toList_inj (by simpa using h2)
  · rintro rfl
    have : lessS a a = false := bytesLess_irr _
    simp [this]
def keyV (v : Val) : Int := keyN (toU v.i)
theorem Tri.comap {α β : Type} {c : α → α → Int} (h : Tri c) (f : β → α) : Tri (fun x y => c (f x) (f y)) := ⟨fun x y => h.anti _ _, fun x y z => h.ntrans _ _ _⟩
/-- What is asked of two values of one kind. -/
def cmpK (k : Int) (a b : Val) : Int := if k = 1 then cmpI a.i b.i else if k = 2 then cmpI (keyV a) (keyV b) else if k = 3 then cmpS a.s b.s else 0
theorem cmpV_eq (a b : Val) : cmpV a b = if cmpI a.kind b.kind ≠ 0 then cmpI a.kind b.kind else cmpK a.kind a b := by
  unfold cmpV cmpK
  simp only [cmpF_eq, ← show ∀ v : Val, keyV v = keyN (toU v.i) from fun _ => rfl]
  by_cases h : a.kind = b.kind
  · simp [h, cmpI_zero]
  · simp [h, cmpI_zero]
theorem zero_tri {α : Type} : Tri (fun _ _ : α => (0 : Int)) := ⟨fun _ _ => by simp, fun _ _ _ h => by simp at h⟩
theorem cmpK_tri (k : Int) : Tri (cmpK k) := by
  by_cases k1 : k = 1
  · have : cmpK k = fun a b => cmpI a.i b.i := by funext a b; unfold cmpK; rw [if_pos k1]
    rw [this]; exact cmpI_tri.comap Val.i
  · by_cases k2 : k = 2
    · have : cmpK k = fun a b => cmpI (keyV a) (keyV b) := by funext a b; unfold cmpK; rw [if_neg k1, if_pos k2]
      rw [this]; exact cmpI_tri.comap keyV
    · by_cases k3 : k = 3
      · have : cmpK k = fun a b => cmpS a.s b.s := by funext a b; unfold cmpK; rw [if_neg k1, if_neg k2, if_pos k3]
        rw [this]; exact cmpS_tri.comap Val.s
      · have : cmpK k = fun a b => 0 := by funext a b; unfold cmpK; rw [if_neg k1, if_neg k2, if_neg k3]
        rw [this]; exact zero_tri
theorem cmpV_tri : Tri cmpV := by
  refine Tri.lex (c := fun a b => cmpI a.kind b.kind) (d := fun a b => cmpK a.kind a b) (cmpI_tri.comap Val.kind) (fun x y h => by rw [cmpV_eq, if_pos h]) (fun x y h => by rw [cmpV_eq, if_neg (by simpa using h)]) (fun x y h => ?_) fun x y z h1 h2 => ?_
  · have h := cmpI_zero.1 h
    rw [h]
    exact (cmpK_tri _).anti x y
  · have h1 := cmpI_zero.1 h1
    rw [h1]
    exact (cmpK_tri _).ntrans x y z
end Go.Proofs.Ytfmmemboakdeiaa

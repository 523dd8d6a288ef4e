/- Arguments of the laws, as Lean's data. -/
import Derived.Test.YtfmmemboakdeiaaData
import Derived.Test.YtfmmemboakdeiaaAwI
namespace Go.Proofs.Ytfmmemboakdeiaa
open Go.Proofs.YtfmmemboakdeiaaAw Go.RowKit
set_option linter.unusedVariables false
def I64 (n : Int) : Prop := -9223372036854775808 ≤ n ∧ n ≤ 9223372036854775807
theorem I64.of {n : Int} (h : (Lit.int .i64 n).wf = true) : I64 n := by
  have h : IntKind.i64.min ≤ n ∧ n ≤ IntKind.i64.max := by simpa [Lit.wf] using h
  have h0 : IntKind.i64.min = -9223372036854775808 := by decide
  have h1 : IntKind.i64.max = 9223372036854775807 := by decide
  exact ⟨by omega, by omega⟩
theorem FitsL.nil_inv {xs : List D} (h : FitsL [] xs) : xs = [] := by cases h; rfl
theorem FitsL.cons_inv {s : Sh} {ss : List Sh} {xs : List D} (h : FitsL (s :: ss) xs) : ∃ x xs', xs = x :: xs' ∧ Fits s x ∧ FitsL ss xs' := by cases h with | cons h t => exact ⟨_, _, rfl, h, t⟩
theorem Fits.int_inv {k : IntKind} {d : D} (h : Fits (.int k) d) : ∃ n, d = .v (.int k n) ∧ (Lit.int k n).wf = true := by cases h with | int k n h => exact ⟨n, rfl, h⟩
theorem Fits.i64_inv {d : D} (h : Fits (.int .i64) d) : ∃ n, d = .v (.int .i64 n) ∧ I64 n := by obtain ⟨n, rfl, g⟩ := Fits.int_inv h; exact ⟨n, rfl, .of g⟩
theorem Fits.bool_inv {d : D} (h : Fits .bool d) : ∃ b, d = .v (.bool b) := by cases h with | bool b => exact ⟨b, rfl⟩
theorem Fits.str_inv {d : D} (h : Fits .str d) : ∃ s, d = .v (.string s) ∧ s.size ≤ 140737488351232 := by cases h with | str s h => exact ⟨s, rfl, h⟩
theorem Fits.slice_inv {b : Nat} {es : List Sh} {d : D} (h : Fits (.slice b es) d) : ∃ l, d = .list false l ∧ l.length * b ≤ 140737488351232 ∧ ∀ e ∈ l, FitsL es e := by cases h with | slice b es l h1 h2 h => exact ⟨l, rfl, h1, h⟩
theorem map_inv {α : Type} {enc : α → List D} {p : α → Prop} : ∀ {l : List (List D)}, (∀ e ∈ l, ∃ a, e = enc a ∧ p a) → ∃ la : List α, l = la.map enc ∧ ∀ a ∈ la, p a
  | [], _ => ⟨[], rfl, fun a h => by simp at h⟩
  | e :: l, h => by
    obtain ⟨a, rfl, ha⟩ := h e (List.mem_cons_self ..)
    obtain ⟨la, rfl, hl⟩ := map_inv (l := l) fun e he => h e (by simp [he])
    exact ⟨a :: la, rfl, fun b hb => by rcases List.mem_cons.1 hb with rfl | hb; exact ha; exact hl b hb⟩
structure Val.Ok (v : Val) : Prop where
  kind : I64 v.kind
  i : I64 v.i
  s : v.s.size ≤ 140737488351232
structure Atom.Ok (a : Atom) : Prop where
  col : I64 a.col
  op : I64 a.op
  val : a.val.Ok
def shVal : List Sh := [.int .i64, .int .i64, .str]
def shAtom : List Sh := [.int .i64, .int .i64, .int .i64, .int .i64, .str]
theorem val_inv {ds : List D} (h : FitsL shVal ds) : ∃ v : Val, ds = v.enc ∧ v.Ok := by
  obtain ⟨x, xs, rfl, hx, h⟩ := FitsL.cons_inv h
  obtain ⟨y, xs, rfl, hy, h⟩ := FitsL.cons_inv h
  obtain ⟨z, xs, rfl, hz, h⟩ := FitsL.cons_inv h
  cases FitsL.nil_inv h
  obtain ⟨k, rfl, hk⟩ := Fits.i64_inv hx
  obtain ⟨i, rfl, hi⟩ := Fits.i64_inv hy
  obtain ⟨s, rfl, hs⟩ := Fits.str_inv hz
  exact ⟨⟨k, i, s⟩, rfl, hk, hi, hs⟩
theorem atom_inv {ds : List D} (h : FitsL shAtom ds) : ∃ a : Atom, ds = a.enc ∧ a.Ok := by
  obtain ⟨c, xs, rfl, hc, h⟩ := FitsL.cons_inv h
  obtain ⟨o, xs, rfl, ho, h⟩ := FitsL.cons_inv h
  obtain ⟨v, rfl, hv⟩ := val_inv h
  obtain ⟨k, rfl, hk⟩ := Fits.i64_inv hc
  obtain ⟨i, rfl, hi⟩ := Fits.i64_inv ho
  exact ⟨⟨k, i, v⟩, rfl, hk, hi, hv⟩
theorem ints_inv {b : Nat} {d : D} (h : Fits (.slice b [.int .i64]) d) : ∃ l : List Int, d = .list false (ints l) ∧ l.length * b ≤ 140737488351232 ∧ ∀ n ∈ l, I64 n := by
  obtain ⟨l, rfl, h1, h2⟩ := Fits.slice_inv h
  obtain ⟨la, rfl, h3⟩ := map_inv (enc := fun n : Int => [.v (.int .i64 n)]) (p := I64) fun e he => by
    obtain ⟨x, xs, rfl, hx, h⟩ := FitsL.cons_inv (h2 e he)
    cases FitsL.nil_inv h
    obtain ⟨n, rfl, hn⟩ := Fits.i64_inv hx
    exact ⟨n, rfl, hn⟩
  exact ⟨la, rfl, by simpa using h1, h3⟩
theorem vals_inv {b : Nat} {d : D} (h : Fits (.slice b shVal) d) : ∃ l : List Val, d = .list false (l.map Val.enc) ∧ l.length * b ≤ 140737488351232 ∧ ∀ v ∈ l, v.Ok := by
  obtain ⟨l, rfl, h1, h2⟩ := Fits.slice_inv h
  obtain ⟨la, rfl, h3⟩ := map_inv (enc := Val.enc) (p := Val.Ok) fun e he => val_inv (h2 e he)
  exact ⟨la, rfl, by simpa using h1, h3⟩
theorem atoms_inv {b : Nat} {d : D} (h : Fits (.slice b shAtom) d) : ∃ l : List Atom, d = .list false (l.map Atom.enc) ∧ l.length * b ≤ 140737488351232 ∧ ∀ v ∈ l, v.Ok := by
  obtain ⟨l, rfl, h1, h2⟩ := Fits.slice_inv h
  obtain ⟨la, rfl, h3⟩ := map_inv (enc := Atom.enc) (p := Atom.Ok) fun e he => atom_inv (h2 e he)
  exact ⟨la, rfl, by simpa using h1, h3⟩
theorem arg_one {P : Program} {t : TypeId} {x : AV} {sh : Sh} (h : ArgOk P t x) (hg : agB P t = some false) (hs : shOf P 9 t = some [sh]) : ∃ d, x = .d d ∧ Fits sh d := by
  rcases h with ⟨_, sh', d, hs', hf, rfl⟩ | ⟨hg', _⟩
  · rw [hs] at hs'; cases hs'; exact ⟨d, rfl, hf⟩
  · rw [hg] at hg'; cases hg'
theorem arg_agg {P : Program} {t : TypeId} {x : AV} {shs : List Sh} (h : ArgOk P t x) (hg : agB P t = some true) (hs : shOf P 9 t = some shs) : ∃ ds : List D, x = .agg (ds.map .d) ∧ FitsL shs ds := by
  rcases h with ⟨hg', _⟩ | ⟨_, shs', ds, hs', hf, rfl⟩
  · rw [hg] at hg'; cases hg'
  · rw [hs] at hs'; cases hs'; exact ⟨ds, rfl, hf⟩
end Go.Proofs.Ytfmmemboakdeiaa

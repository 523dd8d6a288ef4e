/- Values, atoms: the program's data as Lean's. -/
import Derived.Test.YtfmmemboakdeiaaEq
namespace Go.Proofs.Ytfmmemboakdeiaa
open Go.Proofs.YtfmmemboakdeiaaAw Go.RowKit
set_option linter.unusedVariables false
structure Val where
  kind : Int
  i : Int
  s : ByteArray
deriving DecidableEq
structure Atom where
  col : Int
  op : Int
  val : Val
deriving DecidableEq
def Val.enc (v : Val) : List D := [.v (.int .i64 v.kind), .v (.int .i64 v.i), .v (.string v.s)]
def Atom.enc (a : Atom) : List D := [.v (.int .i64 a.col), .v (.int .i64 a.op), .v (.int .i64 a.val.kind), .v (.int .i64 a.val.i), .v (.string a.val.s)]
theorem Val.enc_len (v : Val) : v.enc.length = 3 := rfl
theorem Atom.enc_len (a : Atom) : a.enc.length = 5 := rfl
theorem toList_inj {a b : ByteArray} (h : a.toList = b.toList) : a = b := by
  rw [ByteArray.toList_eq, ByteArray.toList_eq] at h
  obtain ⟨⟨x⟩⟩ := a
  obtain ⟨⟨y⟩⟩ := b
  simp_all
theorem sameV_eq (v w : Val) : sameV v.kind v.i v.s w.kind w.i w.s = decide (v = w) := by
  cases v with | mk k i s =>
  cases w with | mk k' i' s' =>
  rw [Bool.eq_iff_iff]
  simp only [sameV, Bool.and_true, Bool.and_eq_true, beq_iff_eq, decide_eq_true_eq, Val.mk.injEq]
  exact ⟨fun ⟨a, b, c⟩ => ⟨a, b, toList_inj c⟩, fun ⟨a, b, c⟩ => ⟨a, b, by rw [c]⟩⟩
theorem sameA_eq (a b : Atom) : sameA a.col a.op a.val.kind a.val.i a.val.s b.col b.op b.val.kind b.val.i b.val.s = decide (a = b) := by
  cases a with | mk c o v =>
  cases b with | mk c' o' v' =>
  simp only [sameA, sameV_eq]
  rw [Bool.eq_iff_iff]
  simp only [Bool.and_true, Bool.and_eq_true, beq_iff_eq, decide_eq_true_eq, Atom.mk.injEq]
end Go.Proofs.Ytfmmemboakdeiaa

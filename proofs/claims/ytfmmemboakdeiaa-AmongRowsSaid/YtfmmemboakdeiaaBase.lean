/- Words for the program's data. -/
import Derived.Test.YtfmmemboakdeiaaFactsB
import Derived.Test.YtfmmemboakdeiaaAwD
namespace Go.Proofs.Ytfmmemboakdeiaa
open Go.Proofs.YtfmmemboakdeiaaAw Go.RowKit
set_option linter.unusedVariables false
abbrev iD (n : Int) : D := .v (.int .i64 n)
abbrev iA (n : Int) : AV := .d (.v (.int .i64 n))
abbrev bA (b : Bool) : AV := .d (.v (.bool b))
abbrev uA (n : Int) : AV := .d (.v (.int .u64 n))
abbrev sA (b : ByteArray) : AV := .d (.v (.string b))
def ints (l : List Int) : List (List D) := l.map fun x => [.v (.int .i64 x)]
theorem ints_len (l : List Int) : (ints l).length = l.length := by simp [ints]
theorem ints_snoc (l : List Int) (n : Int) : ints l ++ [[.v (.int .i64 n)]] = ints (l ++ [n]) := by simp [ints]
theorem ints_get (l : List Int) (k : Nat) (h : k < l.length) : (ints l)[k]? = some [.v (.int .i64 l[k])] := by simp [ints, h]
theorem ints_nil : ints [] = [] := rfl
end Go.Proofs.Ytfmmemboakdeiaa

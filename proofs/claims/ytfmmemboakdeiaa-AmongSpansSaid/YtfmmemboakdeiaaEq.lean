/- The program's structs held against each other. -/
import Derived.Test.YtfmmemboakdeiaaBase
import Derived.Test.YtfmmemboakdeiaaAwE
namespace Go.Proofs.Ytfmmemboakdeiaa
open Go.Proofs.YtfmmemboakdeiaaAw Go.RowKit
set_option linter.unusedVariables false
def valC (k i : Int) (s : ByteArray) : Array Value := #[.int .i64 k, .int .i64 i, .string s]
def atomC (c o k i : Int) (s : ByteArray) : Array Value := #[.int .i64 c, .int .i64 o, .int .i64 k, .int .i64 i, .string s]
def sameV (k i : Int) (s : ByteArray) (k' i' : Int) (s' : ByteArray) : Bool := (k == k') && ((i == i') && ((s.toList == s'.toList) && true))
def sameA (c o k i : Int) (s : ByteArray) (c' o' k' i' : Int) (s' : ByteArray) : Bool := (c == c') && ((o == o') && (sameV k i s k' i' s' && true))
theorem eqP_val (w : World) (d : Nat) (k i : Int) (s : ByteArray) (k' i' : Int) (s' : ByteArray) : (eqP (d + 1) #[.int .i64 k, .int .i64 i, .string s] #[.int .i64 k', .int .i64 i', .string s'] [(true, 3, 0), (true, 2, 1), (true, 9, 2)]).run Try.prog w = .ok (sameV k i s k' i' s') w :=
  eqP_int K.UK3 K.agB3 rfl rfl (eqP_int K.UK2 K.agB2 rfl rfl (eqP_str K.US9 K.agB9 rfl rfl eqP_nil))
theorem pb_val (k i : Int) (s : ByteArray) (k' i' : Int) (s' : ByteArray) : PureBin Try.prog .eql 26 (.agg #[.int .i64 k, .int .i64 i, .string s]) (.agg #[.int .i64 k', .int .i64 i', .string s']) (.bool (sameV k i s k' i' s')) ∧
    PureBin Try.prog .neq 26 (.agg #[.int .i64 k, .int .i64 i, .string s]) (.agg #[.int .i64 k', .int .i64 i', .string s']) (.bool !(sameV k i s k' i' s')) :=
  PureBin.eqS (by kernel_rfl) (by kernel_rfl) (by kernel_rfl) (by kernel_rfl) fun w => eqP_val w 9998 k i s k' i' s'
theorem pb_atom (c o k i : Int) (s : ByteArray) (c' o' k' i' : Int) (s' : ByteArray) : PureBin Try.prog .eql 64 (.agg #[.int .i64 c, .int .i64 o, .int .i64 k, .int .i64 i, .string s]) (.agg #[.int .i64 c', .int .i64 o', .int .i64 k', .int .i64 i', .string s']) (.bool (sameA c o k i s c' o' k' i' s')) ∧ PureBin Try.prog .neq 64 (.agg #[.int .i64 c, .int .i64 o, .int .i64 k, .int .i64 i, .string s]) (.agg #[.int .i64 c', .int .i64 o', .int .i64 k', .int .i64 i', .string s']) (.bool !(sameA c o k i s c' o' k' i' s')) := PureBin.eqS (by kernel_rfl) (by kernel_rfl) (by kernel_rfl) (fs := [(true, 3, 0), (true, 3, 1), (true, 26, 2)]) (by kernel_rfl) fun w => eqP_int K.UK3 K.agB3 rfl rfl (eqP_int K.UK3 K.agB3 rfl rfl (eqP_struct K.agB26 K.TI26 (by kernel_rfl) (by kernel_rfl) (by kernel_rfl) (eqP_val w 9997 k i s k' i' s') eqP_nil))
theorem bk_eql_val (k i : Int) (s : ByteArray) (k' i' : Int) (s' : ByteArray) (K : Value → Prop) : binK Try.prog .eql 26 (.agg #[.int .i64 k, .int .i64 i, .string s]) (.agg #[.int .i64 k', .int .i64 i', .string s']) K = K (.bool (sameV k i s k' i' s')) := binK_agg (pb_val ..).1 K
theorem bk_neq_val (k i : Int) (s : ByteArray) (k' i' : Int) (s' : ByteArray) (K : Value → Prop) : binK Try.prog .neq 26 (.agg #[.int .i64 k, .int .i64 i, .string s]) (.agg #[.int .i64 k', .int .i64 i', .string s']) K = K (.bool !(sameV k i s k' i' s')) := binK_agg (pb_val ..).2 K
theorem bk_eql_atom (c o k i : Int) (s : ByteArray) (c' o' k' i' : Int) (s' : ByteArray) (K : Value → Prop) : binK Try.prog .eql 64 (.agg #[.int .i64 c, .int .i64 o, .int .i64 k, .int .i64 i, .string s]) (.agg #[.int .i64 c', .int .i64 o', .int .i64 k', .int .i64 i', .string s']) K = K (.bool (sameA c o k i s c' o' k' i' s')) := binK_agg (pb_atom ..).1 K
theorem bk_neq_atom (c o k i : Int) (s : ByteArray) (c' o' k' i' : Int) (s' : ByteArray) (K : Value → Prop) : binK Try.prog .neq 64 (.agg #[.int .i64 c, .int .i64 o, .int .i64 k, .int .i64 i, .string s]) (.agg #[.int .i64 c', .int .i64 o', .int .i64 k', .int .i64 i', .string s']) K = K (.bool !(sameA c o k i s c' o' k' i' s')) := binK_agg (pb_atom ..).2 K
attribute [go_sem] bk_eql_val bk_neq_val
attribute [go_sem] bk_eql_atom bk_neq_atom
end Go.Proofs.Ytfmmemboakdeiaa

/-
  No cell of these rows narrows 'for every input' (looked for: loops, veiled, ifaces, maps, wideKeys, modest, calm, conditions, laid).
  DERIVED. THE GIVEN ROWS OF THIS SEAT. 5 by the template 'for every input the law returns true; each argument reads behind the call as it read before'; 0 by the template 'total and deterministic' (their statements: YtfmmemboakdeiaaTotals.lean).
  GIVEN WITH THE SEED: the statements are not yours to turn. If you find one false, say at which input.
  Laid BY PROGRAM, IN A SANDBOX (cutbox-rows.mjs): the forced cells as the released guide's own fill.sh prints them over the translation 2745a0cf410b913f… (all of the seat's roots in one cut). By AI agents, Wed Nov 11 2026. No macro, syntax, notation, axiom, sorry.
-/
import Derived.Test.YtfmmemboakdeiaaChecked
import GoSem.Claim
import GoSem.ClaimJoined
import GoSem.ClaimMapViews
import Derived.JoinedTies
import Derived.KernelRfl
namespace Go.Proofs.Ytfmmemboakdeiaa
/- THE CELL 'sum', in the pinned program and in every row, IS THE sha256 OF THE DUMP (.gsa) THAT YtfmmemboakdeiaaProg.lean LOADS. Nothing in Lean hashes anything: it is a label: what it is worth is what the hold of that sum in a sandbox is worth. -/
noncomputable def Try.pinned : Pinned := { name := "ytfmmemboakdeiaa", sum := "2745a0cf410b913fa6bb589449afb6f01219c715ef510465cd85f23868457bfa", checked := Try.checked }
namespace Rows
def none {H : Type} : Left H := { results := [], args := [] }

/-- 'astragallaw19.AmongSpans': WHATEVER THE INPUT: true; the input reads as it did. -/
def amongSpansSpec : ChangeSpec := { name := "amongSpans", fn := fun _ => fun
  | [d1, d2] => { results := [.lit (.bool true)], args := [d1, d2] }
  | _ => none }
def amongSpansRow : OpenClaim := { program := "ytfmmemboakdeiaa", sum := "2745a0cf410b913fa6bb589449afb6f01219c715ef510465cd85f23868457bfa", func := "astragal/astragallaw19.AmongSpans", spec := "amongSpans", inPlace := ["math.Float64frombits"], unfollowed := true, recurses := true, apart := false }
def AmongSpansSaid : Prop := amongSpansRow.holds Try.pinned (OpenSpec.ofChange amongSpansSpec)

/-- ITS FALSE NEIGHBOUR: 'it returns false'. Refute it at one input. -/
def amongSpansWrong : ChangeSpec := { name := "amongSpans", fn := fun _ => fun
  | [d1, d2] => { results := [.lit (.bool false)], args := [d1, d2] }
  | _ => none }
def AmongSpansWrongFalsely : Prop := amongSpansRow.holds Try.pinned (OpenSpec.ofChange amongSpansWrong)

/-- 'astragallaw19.AmongRows': WHATEVER THE INPUT: true; the input reads as it did. -/
def amongRowsSpec : ChangeSpec := { name := "amongRows", fn := fun _ => fun
  | [d1, d2, d3, d4] => { results := [.lit (.bool true)], args := [d1, d2, d3, d4] }
  | _ => none }
def amongRowsRow : OpenClaim := { program := "ytfmmemboakdeiaa", sum := "2745a0cf410b913fa6bb589449afb6f01219c715ef510465cd85f23868457bfa", func := "astragal/astragallaw19.AmongRows", spec := "amongRows", inPlace := ["math.Float64frombits"], unfollowed := true, recurses := true, apart := false }
def AmongRowsSaid : Prop := amongRowsRow.holds Try.pinned (OpenSpec.ofChange amongRowsSpec)

/-- ITS FALSE NEIGHBOUR: 'it returns false'. Refute it at one input. -/
def amongRowsWrong : ChangeSpec := { name := "amongRows", fn := fun _ => fun
  | [d1, d2, d3, d4] => { results := [.lit (.bool false)], args := [d1, d2, d3, d4] }
  | _ => none }
def AmongRowsWrongFalsely : Prop := amongRowsRow.holds Try.pinned (OpenSpec.ofChange amongRowsWrong)

/-- 'astragallaw19.AmongKeys': WHATEVER THE INPUT: true; the input reads as it did. -/
def amongKeysSpec : ChangeSpec := { name := "amongKeys", fn := fun _ => fun
  | [d1, d2, d3, d4, d5] => { results := [.lit (.bool true)], args := [d1, d2, d3, d4, d5] }
  | _ => none }
def amongKeysRow : OpenClaim := { program := "ytfmmemboakdeiaa", sum := "2745a0cf410b913fa6bb589449afb6f01219c715ef510465cd85f23868457bfa", func := "astragal/astragallaw19.AmongKeys", spec := "amongKeys", inPlace := ["math.Float64frombits"], unfollowed := true, recurses := true, apart := false }
def AmongKeysSaid : Prop := amongKeysRow.holds Try.pinned (OpenSpec.ofChange amongKeysSpec)

/-- ITS FALSE NEIGHBOUR: 'it returns false'. Refute it at one input. -/
def amongKeysWrong : ChangeSpec := { name := "amongKeys", fn := fun _ => fun
  | [d1, d2, d3, d4, d5] => { results := [.lit (.bool false)], args := [d1, d2, d3, d4, d5] }
  | _ => none }
def AmongKeysWrongFalsely : Prop := amongKeysRow.holds Try.pinned (OpenSpec.ofChange amongKeysWrong)

/-- 'astragallaw19.AmongAlike': WHATEVER THE INPUT: true; the input reads as it did. -/
def amongAlikeSpec : ChangeSpec := { name := "amongAlike", fn := fun _ => fun
  | [d1, d2, d3, d4, d5] => { results := [.lit (.bool true)], args := [d1, d2, d3, d4, d5] }
  | _ => none }
def amongAlikeRow : OpenClaim := { program := "ytfmmemboakdeiaa", sum := "2745a0cf410b913fa6bb589449afb6f01219c715ef510465cd85f23868457bfa", func := "astragal/astragallaw19.AmongAlike", spec := "amongAlike", inPlace := ["math.Float64frombits"], unfollowed := true, recurses := true, apart := false }
def AmongAlikeSaid : Prop := amongAlikeRow.holds Try.pinned (OpenSpec.ofChange amongAlikeSpec)

/-- ITS FALSE NEIGHBOUR: 'it returns false'. Refute it at one input. -/
def amongAlikeWrong : ChangeSpec := { name := "amongAlike", fn := fun _ => fun
  | [d1, d2, d3, d4, d5] => { results := [.lit (.bool false)], args := [d1, d2, d3, d4, d5] }
  | _ => none }
def AmongAlikeWrongFalsely : Prop := amongAlikeRow.holds Try.pinned (OpenSpec.ofChange amongAlikeWrong)

/-- 'astragallaw19.AmongTwice': WHATEVER THE INPUT: true; the input reads as it did. -/
def amongTwiceSpec : ChangeSpec := { name := "amongTwice", fn := fun _ => fun
  | [d1, d2, d3, d4] => { results := [.lit (.bool true)], args := [d1, d2, d3, d4] }
  | _ => none }
def amongTwiceRow : OpenClaim := { program := "ytfmmemboakdeiaa", sum := "2745a0cf410b913fa6bb589449afb6f01219c715ef510465cd85f23868457bfa", func := "astragal/astragallaw19.AmongTwice", spec := "amongTwice", inPlace := ["math.Float64frombits"], unfollowed := true, recurses := true, apart := false }
def AmongTwiceSaid : Prop := amongTwiceRow.holds Try.pinned (OpenSpec.ofChange amongTwiceSpec)

/-- ITS FALSE NEIGHBOUR: 'it returns false'. Refute it at one input. -/
def amongTwiceWrong : ChangeSpec := { name := "amongTwice", fn := fun _ => fun
  | [d1, d2, d3, d4] => { results := [.lit (.bool false)], args := [d1, d2, d3, d4] }
  | _ => none }
def AmongTwiceWrongFalsely : Prop := amongTwiceRow.holds Try.pinned (OpenSpec.ofChange amongTwiceWrong)

/- THE SECOND FORM. 'bulk': how many values and letters a reading holds, each counted each time it is reached (what is shared counts as often as it is met; a slice's spare places count too). A statement '..UptoSaid' is the law's where the arguments, and the package variables that the reading takes, are together of bulk at most 1048576: NARROWER than '..Said'. Prove '..Said' where nothing that the law and all that it calls make is longer than what came in: it says more and counts as full. Else prove '..UptoSaid'. A law counts once. -/
mutual
def uptoBulk {H : Type} : DataW H → Nat
  | .lit (.string bytes) => bytes.length + 1
  | .lit _ => 1
  | .nil => 1
  | .ptr d => uptoBulk d + 1
  | .slice elems spare => uptoBulkAll elems + uptoBulkAll spare + 1
  | .agg parts => uptoBulkAll parts + 1
  | .iface _ d => uptoBulk d + 1
  | .map entries => uptoBulkEntries entries + 1
  | .held _ => 1
def uptoBulkAll {H : Type} : List (DataW H) → Nat
  | [] => 0
  | d :: r => uptoBulk d + uptoBulkAll r
def uptoBulkEntries {H : Type} : List (Lit × DataW H) → Nat
  | [] => 0
  | x :: r => uptoBulkEntry x + uptoBulkEntries r
def uptoBulkEntry {H : Type} : Lit × DataW H → Nat
  | (.string bytes, d) => bytes.length + uptoBulk d + 1
  | (_, d) => uptoBulk d + 1
 end
def uptoSmall : (H : Type) → List (DataW H) → Bool := fun _ ds => decide (uptoBulkAll ds ≤ 1048576)
def OpenSpec.upto (s : _root_.Go.ChangeSpec) : _root_.Go.OpenSpec := { _root_.Go.OpenSpec.ofChange s with cond := some uptoSmall }

/-- 'astragallaw19.AmongSpans', WHERE WHAT IT READS IS OF BULK AT MOST 1048576: true; the input reads as it did. -/
def amongSpansUptoRow : OpenClaim := { program := "ytfmmemboakdeiaa", sum := "2745a0cf410b913fa6bb589449afb6f01219c715ef510465cd85f23868457bfa", func := "astragal/astragallaw19.AmongSpans", spec := "amongSpans", inPlace := ["math.Float64frombits"], unfollowed := true, recurses := true, apart := false, narrowed := true }
def AmongSpansUptoSaid : Prop := amongSpansUptoRow.holds Try.pinned (OpenSpec.upto amongSpansSpec)

/-- 'astragallaw19.AmongRows', WHERE WHAT IT READS IS OF BULK AT MOST 1048576: true; the input reads as it did. -/
def amongRowsUptoRow : OpenClaim := { program := "ytfmmemboakdeiaa", sum := "2745a0cf410b913fa6bb589449afb6f01219c715ef510465cd85f23868457bfa", func := "astragal/astragallaw19.AmongRows", spec := "amongRows", inPlace := ["math.Float64frombits"], unfollowed := true, recurses := true, apart := false, narrowed := true }
def AmongRowsUptoSaid : Prop := amongRowsUptoRow.holds Try.pinned (OpenSpec.upto amongRowsSpec)

/-- 'astragallaw19.AmongKeys', WHERE WHAT IT READS IS OF BULK AT MOST 1048576: true; the input reads as it did. -/
def amongKeysUptoRow : OpenClaim := { program := "ytfmmemboakdeiaa", sum := "2745a0cf410b913fa6bb589449afb6f01219c715ef510465cd85f23868457bfa", func := "astragal/astragallaw19.AmongKeys", spec := "amongKeys", inPlace := ["math.Float64frombits"], unfollowed := true, recurses := true, apart := false, narrowed := true }
def AmongKeysUptoSaid : Prop := amongKeysUptoRow.holds Try.pinned (OpenSpec.upto amongKeysSpec)

/-- 'astragallaw19.AmongAlike', WHERE WHAT IT READS IS OF BULK AT MOST 1048576: true; the input reads as it did. -/
def amongAlikeUptoRow : OpenClaim := { program := "ytfmmemboakdeiaa", sum := "2745a0cf410b913fa6bb589449afb6f01219c715ef510465cd85f23868457bfa", func := "astragal/astragallaw19.AmongAlike", spec := "amongAlike", inPlace := ["math.Float64frombits"], unfollowed := true, recurses := true, apart := false, narrowed := true }
def AmongAlikeUptoSaid : Prop := amongAlikeUptoRow.holds Try.pinned (OpenSpec.upto amongAlikeSpec)

/-- 'astragallaw19.AmongTwice', WHERE WHAT IT READS IS OF BULK AT MOST 1048576: true; the input reads as it did. -/
def amongTwiceUptoRow : OpenClaim := { program := "ytfmmemboakdeiaa", sum := "2745a0cf410b913fa6bb589449afb6f01219c715ef510465cd85f23868457bfa", func := "astragal/astragallaw19.AmongTwice", spec := "amongTwice", inPlace := ["math.Float64frombits"], unfollowed := true, recurses := true, apart := false, narrowed := true }
def AmongTwiceUptoSaid : Prop := amongTwiceUptoRow.holds Try.pinned (OpenSpec.upto amongTwiceSpec)

end Rows
end Go.Proofs.Ytfmmemboakdeiaa

/-
  No cell of these rows narrows 'for every input' (looked for: loops, veiled, ifaces, maps, wideKeys, modest, calm, conditions, laid).
  DERIVED. THE GIVEN ROWS OF THIS SEAT. 5 by the template 'for every input the law returns true; each argument reads behind the call as it read before'; 0 by the template 'total and deterministic' (their statements: YtkapgooedfompaaTotals.lean).
  GIVEN WITH THE SEED: the statements are not yours to turn. If you find one false, say at which input.
  Laid BY PROGRAM, IN A SANDBOX (cutbox-rows.mjs): the forced cells as the released guide's own fill.sh prints them over the translation 02388cce8519d26b… (all of the seat's roots in one cut). By AI agents, Wed Nov 11 2026. No macro, syntax, notation, axiom, sorry.
-/
import Derived.Test.YtkapgooedfompaaChecked
import GoSem.Claim
import GoSem.ClaimJoined
import GoSem.ClaimMapViews
import Derived.JoinedTies
import Derived.KernelRfl
namespace Go.Proofs.Ytkapgooedfompaa
/- THE CELL 'sum', in the pinned program and in every row, IS THE sha256 OF THE DUMP (.gsa) THAT YtkapgooedfompaaProg.lean LOADS. Nothing in Lean hashes anything: it is a label: what it is worth is what the hold of that sum in a sandbox is worth. -/
noncomputable def Try.pinned : Pinned := { name := "ytkapgooedfompaa", sum := "02388cce8519d26b8aee10cff4eb274b02c67328cae0116a5c0f6df4f7fa39e7", checked := Try.checked }
namespace Rows
def none {H : Type} : Left H := { results := [], args := [] }

/-- 'astragallaw09.DictFinds': WHATEVER THE INPUT: true; the input reads as it did. -/
def dictFindsSpec : ChangeSpec := { name := "dictFinds", fn := fun _ => fun
  | [d1, d2, d3] => { results := [.lit (.bool true)], args := [d1, d2, d3] }
  | _ => none }
def dictFindsRow : OpenClaim := { program := "ytkapgooedfompaa", sum := "02388cce8519d26b8aee10cff4eb274b02c67328cae0116a5c0f6df4f7fa39e7", func := "astragal/astragallaw09.DictFinds", spec := "dictFinds", inPlace := ["math.Float64frombits"], unfollowed := true, recurses := true, apart := false }
def DictFindsSaid : Prop := dictFindsRow.holds Try.pinned (OpenSpec.ofChange dictFindsSpec)

/-- ITS FALSE NEIGHBOUR: 'it returns false'. Refute it at one input. -/
def dictFindsWrong : ChangeSpec := { name := "dictFinds", fn := fun _ => fun
  | [d1, d2, d3] => { results := [.lit (.bool false)], args := [d1, d2, d3] }
  | _ => none }
def DictFindsWrongFalsely : Prop := dictFindsRow.holds Try.pinned (OpenSpec.ofChange dictFindsWrong)

/-- 'astragallaw09.DictOrder': WHATEVER THE INPUT: true; the input reads as it did. -/
def dictOrderSpec : ChangeSpec := { name := "dictOrder", fn := fun _ => fun
  | [d1, d2] => { results := [.lit (.bool true)], args := [d1, d2] }
  | _ => none }
def dictOrderRow : OpenClaim := { program := "ytkapgooedfompaa", sum := "02388cce8519d26b8aee10cff4eb274b02c67328cae0116a5c0f6df4f7fa39e7", func := "astragal/astragallaw09.DictOrder", spec := "dictOrder", inPlace := ["math.Float64frombits"], unfollowed := true, recurses := true, apart := false }
def DictOrderSaid : Prop := dictOrderRow.holds Try.pinned (OpenSpec.ofChange dictOrderSpec)

/-- ITS FALSE NEIGHBOUR: 'it returns false'. Refute it at one input. -/
def dictOrderWrong : ChangeSpec := { name := "dictOrder", fn := fun _ => fun
  | [d1, d2] => { results := [.lit (.bool false)], args := [d1, d2] }
  | _ => none }
def DictOrderWrongFalsely : Prop := dictOrderRow.holds Try.pinned (OpenSpec.ofChange dictOrderWrong)

/-- 'astragallaw09.DictWords': WHATEVER THE INPUT: true; the input reads as it did. -/
def dictWordsSpec : ChangeSpec := { name := "dictWords", fn := fun _ => fun
  | [d] => { results := [.lit (.bool true)], args := [d] }
  | _ => none }
def dictWordsRow : OpenClaim := { program := "ytkapgooedfompaa", sum := "02388cce8519d26b8aee10cff4eb274b02c67328cae0116a5c0f6df4f7fa39e7", func := "astragal/astragallaw09.DictWords", spec := "dictWords", inPlace := ["math.Float64frombits"], unfollowed := true, recurses := true, apart := false }
def DictWordsSaid : Prop := dictWordsRow.holds Try.pinned (OpenSpec.ofChange dictWordsSpec)

/-- ITS FALSE NEIGHBOUR: 'it returns false'. Refute it at one input. -/
def dictWordsWrong : ChangeSpec := { name := "dictWords", fn := fun _ => fun
  | [d] => { results := [.lit (.bool false)], args := [d] }
  | _ => none }
def DictWordsWrongFalsely : Prop := dictWordsRow.holds Try.pinned (OpenSpec.ofChange dictWordsWrong)

/-- 'astragallaw09.DictFew': WHATEVER THE INPUT: true; the input reads as it did. -/
def dictFewSpec : ChangeSpec := { name := "dictFew", fn := fun _ => fun
  | [d1, d2] => { results := [.lit (.bool true)], args := [d1, d2] }
  | _ => none }
def dictFewRow : OpenClaim := { program := "ytkapgooedfompaa", sum := "02388cce8519d26b8aee10cff4eb274b02c67328cae0116a5c0f6df4f7fa39e7", func := "astragal/astragallaw09.DictFew", spec := "dictFew", inPlace := ["math.Float64frombits"], unfollowed := true, recurses := true, apart := false }
def DictFewSaid : Prop := dictFewRow.holds Try.pinned (OpenSpec.ofChange dictFewSpec)

/-- ITS FALSE NEIGHBOUR: 'it returns false'. Refute it at one input. -/
def dictFewWrong : ChangeSpec := { name := "dictFew", fn := fun _ => fun
  | [d1, d2] => { results := [.lit (.bool false)], args := [d1, d2] }
  | _ => none }
def DictFewWrongFalsely : Prop := dictFewRow.holds Try.pinned (OpenSpec.ofChange dictFewWrong)

/-- 'astragallaw09.DictBack': WHATEVER THE INPUT: true; the input reads as it did. -/
def dictBackSpec : ChangeSpec := { name := "dictBack", fn := fun _ => fun
  | [d1, d2, d3, d4] => { results := [.lit (.bool true)], args := [d1, d2, d3, d4] }
  | _ => none }
def dictBackRow : OpenClaim := { program := "ytkapgooedfompaa", sum := "02388cce8519d26b8aee10cff4eb274b02c67328cae0116a5c0f6df4f7fa39e7", func := "astragal/astragallaw09.DictBack", spec := "dictBack", inPlace := ["math.Float64frombits"], unfollowed := true, recurses := true, apart := false }
def DictBackSaid : Prop := dictBackRow.holds Try.pinned (OpenSpec.ofChange dictBackSpec)

/-- ITS FALSE NEIGHBOUR: 'it returns false'. Refute it at one input. -/
def dictBackWrong : ChangeSpec := { name := "dictBack", fn := fun _ => fun
  | [d1, d2, d3, d4] => { results := [.lit (.bool false)], args := [d1, d2, d3, d4] }
  | _ => none }
def DictBackWrongFalsely : Prop := dictBackRow.holds Try.pinned (OpenSpec.ofChange dictBackWrong)

/- THE SECOND FORM. 'bulk': how many values and letters a reading holds, each counted each time it is reached (what is shared counts as often as it is met; a slice's spare places count too). A statement '..UptoSaid' is the law's where the arguments, and the package variables that the reading takes, are together of bulk at most 1048576: NARROWER than '..Said'. Prove '..Said' where nothing that the law and all that it calls make is longer than what came in: it says more and counts as full. Else prove '..UptoSaid'. A law counts once. -/
mutual
def uptoBulk {H : Type} : DataW H → Nat
  | .lit (.string bytes) => bytes.length + 1
  | .lit _ => 1
  | .nil => 1
  | .ptr d => uptoBulk d + 1
  | .slice elems spare => uptoBulkAll elems + uptoBulkAll spare + 1
  | .agg parts => uptoBulkAll parts + 1
  | .iface _ d => uptoBulk d + 1
  | .map entries => uptoBulkEntries entries + 1
  | .held _ => 1
def uptoBulkAll {H : Type} : List (DataW H) → Nat
  | [] => 0
  | d :: r => uptoBulk d + uptoBulkAll r
def uptoBulkEntries {H : Type} : List (Lit × DataW H) → Nat
  | [] => 0
  | x :: r => uptoBulkEntry x + uptoBulkEntries r
def uptoBulkEntry {H : Type} : Lit × DataW H → Nat
  | (.string bytes, d) => bytes.length + uptoBulk d + 1
  | (_, d) => uptoBulk d + 1
 end
def uptoSmall : (H : Type) → List (DataW H) → Bool := fun _ ds => decide (uptoBulkAll ds ≤ 1048576)
def OpenSpec.upto (s : _root_.Go.ChangeSpec) : _root_.Go.OpenSpec := { _root_.Go.OpenSpec.ofChange s with cond := some uptoSmall }

/-- 'astragallaw09.DictFinds', WHERE WHAT IT READS IS OF BULK AT MOST 1048576: true; the input reads as it did. -/
def dictFindsUptoRow : OpenClaim := { program := "ytkapgooedfompaa", sum := "02388cce8519d26b8aee10cff4eb274b02c67328cae0116a5c0f6df4f7fa39e7", func := "astragal/astragallaw09.DictFinds", spec := "dictFinds", inPlace := ["math.Float64frombits"], unfollowed := true, recurses := true, apart := false, narrowed := true }
def DictFindsUptoSaid : Prop := dictFindsUptoRow.holds Try.pinned (OpenSpec.upto dictFindsSpec)

/-- 'astragallaw09.DictOrder', WHERE WHAT IT READS IS OF BULK AT MOST 1048576: true; the input reads as it did. -/
def dictOrderUptoRow : OpenClaim := { program := "ytkapgooedfompaa", sum := "02388cce8519d26b8aee10cff4eb274b02c67328cae0116a5c0f6df4f7fa39e7", func := "astragal/astragallaw09.DictOrder", spec := "dictOrder", inPlace := ["math.Float64frombits"], unfollowed := true, recurses := true, apart := false, narrowed := true }
def DictOrderUptoSaid : Prop := dictOrderUptoRow.holds Try.pinned (OpenSpec.upto dictOrderSpec)

/-- 'astragallaw09.DictWords', WHERE WHAT IT READS IS OF BULK AT MOST 1048576: true; the input reads as it did. -/
def dictWordsUptoRow : OpenClaim := { program := "ytkapgooedfompaa", sum := "02388cce8519d26b8aee10cff4eb274b02c67328cae0116a5c0f6df4f7fa39e7", func := "astragal/astragallaw09.DictWords", spec := "dictWords", inPlace := ["math.Float64frombits"], unfollowed := true, recurses := true, apart := false, narrowed := true }
def DictWordsUptoSaid : Prop := dictWordsUptoRow.holds Try.pinned (OpenSpec.upto dictWordsSpec)

/-- 'astragallaw09.DictFew', WHERE WHAT IT READS IS OF BULK AT MOST 1048576: true; the input reads as it did. -/
def dictFewUptoRow : OpenClaim := { program := "ytkapgooedfompaa", sum := "02388cce8519d26b8aee10cff4eb274b02c67328cae0116a5c0f6df4f7fa39e7", func := "astragal/astragallaw09.DictFew", spec := "dictFew", inPlace := ["math.Float64frombits"], unfollowed := true, recurses := true, apart := false, narrowed := true }
def DictFewUptoSaid : Prop := dictFewUptoRow.holds Try.pinned (OpenSpec.upto dictFewSpec)

/-- 'astragallaw09.DictBack', WHERE WHAT IT READS IS OF BULK AT MOST 1048576: true; the input reads as it did. -/
def dictBackUptoRow : OpenClaim := { program := "ytkapgooedfompaa", sum := "02388cce8519d26b8aee10cff4eb274b02c67328cae0116a5c0f6df4f7fa39e7", func := "astragal/astragallaw09.DictBack", spec := "dictBack", inPlace := ["math.Float64frombits"], unfollowed := true, recurses := true, apart := false, narrowed := true }
def DictBackUptoSaid : Prop := dictBackUptoRow.holds Try.pinned (OpenSpec.upto dictBackSpec)

end Rows
end Go.Proofs.Ytkapgooedfompaa

/-
  No cell of these rows narrows 'for every input' (looked for: loops, veiled, ifaces, maps, wideKeys, modest, calm, conditions, laid).
  DERIVED. THE GIVEN ROWS OF THIS SEAT. 6 by the template 'for every input the law returns true; each argument reads behind the call as it read before'; 0 by the template 'total and deterministic' (their statements: YtmhmnmokmamnoaaTotals.lean).
  GIVEN WITH THE SEED: the statements are not yours to turn. If you find one false, say at which input.
  Laid BY PROGRAM, IN A SANDBOX (cutbox-rows.mjs): the forced cells as the released guide's own fill.sh prints them over the translation d9ec23bb38b312e5… (all of the seat's roots in one cut). By AI agents, Wed Nov 11 2026. No macro, syntax, notation, axiom, sorry.
-/
import Derived.Test.YtmhmnmokmamnoaaChecked
import GoSem.Claim
import GoSem.ClaimJoined
import GoSem.ClaimMapViews
import Derived.JoinedTies
import Derived.KernelRfl
namespace Go.Proofs.Ytmhmnmokmamnoaa
/- THE CELL 'sum', in the pinned program and in every row, IS THE sha256 OF THE DUMP (.gsa) THAT YtmhmnmokmamnoaaProg.lean LOADS. Nothing in Lean hashes anything: it is a label: what it is worth is what the hold of that sum in a sandbox is worth. -/
noncomputable def Try.pinned : Pinned := { name := "ytmhmnmokmamnoaa", sum := "d9ec23bb38b312e5cd88688017fcdc6ef8c5aec6deee1069e4ff7068702e8c65", checked := Try.checked }
namespace Rows
def none {H : Type} : Left H := { results := [], args := [] }

/-- 'astragallaw19.AmongFinds': WHATEVER THE INPUT: true; the input reads as it did. -/
def amongFindsSpec : ChangeSpec := { name := "amongFinds", fn := fun _ => fun
  | [d1, d2, d3] => { results := [.lit (.bool true)], args := [d1, d2, d3] }
  | _ => none }
def amongFindsRow : OpenClaim := { program := "ytmhmnmokmamnoaa", sum := "d9ec23bb38b312e5cd88688017fcdc6ef8c5aec6deee1069e4ff7068702e8c65", func := "astragal/astragallaw19.AmongFinds", spec := "amongFinds", inPlace := ["math.Float64frombits"], unfollowed := true, recurses := true, apart := false }
def AmongFindsSaid : Prop := amongFindsRow.holds Try.pinned (OpenSpec.ofChange amongFindsSpec)

/-- ITS FALSE NEIGHBOUR: 'it returns false'. Refute it at one input. -/
def amongFindsWrong : ChangeSpec := { name := "amongFinds", fn := fun _ => fun
  | [d1, d2, d3] => { results := [.lit (.bool false)], args := [d1, d2, d3] }
  | _ => none }
def AmongFindsWrongFalsely : Prop := amongFindsRow.holds Try.pinned (OpenSpec.ofChange amongFindsWrong)

/-- 'astragallaw13.PredThree': WHATEVER THE INPUT: true; the input reads as it did. -/
def predThreeSpec : ChangeSpec := { name := "predThree", fn := fun _ => fun
  | [d1, d2] => { results := [.lit (.bool true)], args := [d1, d2] }
  | _ => none }
def predThreeRow : OpenClaim := { program := "ytmhmnmokmamnoaa", sum := "d9ec23bb38b312e5cd88688017fcdc6ef8c5aec6deee1069e4ff7068702e8c65", func := "astragal/astragallaw13.PredThree", spec := "predThree", inPlace := ["math.Float64frombits"], unfollowed := true, recurses := true, apart := false }
def PredThreeSaid : Prop := predThreeRow.holds Try.pinned (OpenSpec.ofChange predThreeSpec)

/-- ITS FALSE NEIGHBOUR: 'it returns false'. Refute it at one input. -/
def predThreeWrong : ChangeSpec := { name := "predThree", fn := fun _ => fun
  | [d1, d2] => { results := [.lit (.bool false)], args := [d1, d2] }
  | _ => none }
def PredThreeWrongFalsely : Prop := predThreeRow.holds Try.pinned (OpenSpec.ofChange predThreeWrong)

/-- 'astragallaw13.PredOrder': WHATEVER THE INPUT: true; the input reads as it did. -/
def predOrderSpec : ChangeSpec := { name := "predOrder", fn := fun _ => fun
  | [d1, d2, d3] => { results := [.lit (.bool true)], args := [d1, d2, d3] }
  | _ => none }
def predOrderRow : OpenClaim := { program := "ytmhmnmokmamnoaa", sum := "d9ec23bb38b312e5cd88688017fcdc6ef8c5aec6deee1069e4ff7068702e8c65", func := "astragal/astragallaw13.PredOrder", spec := "predOrder", inPlace := ["math.Float64frombits"], unfollowed := true, recurses := true, apart := false }
def PredOrderSaid : Prop := predOrderRow.holds Try.pinned (OpenSpec.ofChange predOrderSpec)

/-- ITS FALSE NEIGHBOUR: 'it returns false'. Refute it at one input. -/
def predOrderWrong : ChangeSpec := { name := "predOrder", fn := fun _ => fun
  | [d1, d2, d3] => { results := [.lit (.bool false)], args := [d1, d2, d3] }
  | _ => none }
def PredOrderWrongFalsely : Prop := predOrderRow.holds Try.pinned (OpenSpec.ofChange predOrderWrong)

/-- 'astragallaw13.PredAnds': WHATEVER THE INPUT: true; the input reads as it did. -/
def predAndsSpec : ChangeSpec := { name := "predAnds", fn := fun _ => fun
  | [d1, d2, d3] => { results := [.lit (.bool true)], args := [d1, d2, d3] }
  | _ => none }
def predAndsRow : OpenClaim := { program := "ytmhmnmokmamnoaa", sum := "d9ec23bb38b312e5cd88688017fcdc6ef8c5aec6deee1069e4ff7068702e8c65", func := "astragal/astragallaw13.PredAnds", spec := "predAnds", inPlace := ["math.Float64frombits"], unfollowed := true, recurses := true, apart := false }
def PredAndsSaid : Prop := predAndsRow.holds Try.pinned (OpenSpec.ofChange predAndsSpec)

/-- ITS FALSE NEIGHBOUR: 'it returns false'. Refute it at one input. -/
def predAndsWrong : ChangeSpec := { name := "predAnds", fn := fun _ => fun
  | [d1, d2, d3] => { results := [.lit (.bool false)], args := [d1, d2, d3] }
  | _ => none }
def PredAndsWrongFalsely : Prop := predAndsRow.holds Try.pinned (OpenSpec.ofChange predAndsWrong)

/-- 'astragallaw13.PredChecks': WHATEVER THE INPUT: true; the input reads as it did. -/
def predChecksSpec : ChangeSpec := { name := "predChecks", fn := fun _ => fun
  | [d1, d2, d3] => { results := [.lit (.bool true)], args := [d1, d2, d3] }
  | _ => none }
def predChecksRow : OpenClaim := { program := "ytmhmnmokmamnoaa", sum := "d9ec23bb38b312e5cd88688017fcdc6ef8c5aec6deee1069e4ff7068702e8c65", func := "astragal/astragallaw13.PredChecks", spec := "predChecks", inPlace := ["math.Float64frombits"], unfollowed := true, recurses := true, apart := false }
def PredChecksSaid : Prop := predChecksRow.holds Try.pinned (OpenSpec.ofChange predChecksSpec)

/-- ITS FALSE NEIGHBOUR: 'it returns false'. Refute it at one input. -/
def predChecksWrong : ChangeSpec := { name := "predChecks", fn := fun _ => fun
  | [d1, d2, d3] => { results := [.lit (.bool false)], args := [d1, d2, d3] }
  | _ => none }
def PredChecksWrongFalsely : Prop := predChecksRow.holds Try.pinned (OpenSpec.ofChange predChecksWrong)

/-- 'astragallaw13.PredNeat': WHATEVER THE INPUT: true; the input reads as it did. -/
def predNeatSpec : ChangeSpec := { name := "predNeat", fn := fun _ => fun
  | [d1, d2] => { results := [.lit (.bool true)], args := [d1, d2] }
  | _ => none }
def predNeatRow : OpenClaim := { program := "ytmhmnmokmamnoaa", sum := "d9ec23bb38b312e5cd88688017fcdc6ef8c5aec6deee1069e4ff7068702e8c65", func := "astragal/astragallaw13.PredNeat", spec := "predNeat", inPlace := ["math.Float64frombits"], unfollowed := true, recurses := true, apart := false }
def PredNeatSaid : Prop := predNeatRow.holds Try.pinned (OpenSpec.ofChange predNeatSpec)

/-- ITS FALSE NEIGHBOUR: 'it returns false'. Refute it at one input. -/
def predNeatWrong : ChangeSpec := { name := "predNeat", fn := fun _ => fun
  | [d1, d2] => { results := [.lit (.bool false)], args := [d1, d2] }
  | _ => none }
def PredNeatWrongFalsely : Prop := predNeatRow.holds Try.pinned (OpenSpec.ofChange predNeatWrong)

/- THE SECOND FORM. 'bulk': how many values and letters a reading holds, each counted each time it is reached (what is shared counts as often as it is met; a slice's spare places count too). A statement '..UptoSaid' is the law's where the arguments, and the package variables that the reading takes, are together of bulk at most 1048576: NARROWER than '..Said'. Prove '..Said' where nothing that the law and all that it calls make is longer than what came in: it says more and counts as full. Else prove '..UptoSaid'. A law counts once. -/
mutual
def uptoBulk {H : Type} : DataW H → Nat
  | .lit (.string bytes) => bytes.length + 1
  | .lit _ => 1
  | .nil => 1
  | .ptr d => uptoBulk d + 1
  | .slice elems spare => uptoBulkAll elems + uptoBulkAll spare + 1
  | .agg parts => uptoBulkAll parts + 1
  | .iface _ d => uptoBulk d + 1
  | .map entries => uptoBulkEntries entries + 1
  | .held _ => 1
def uptoBulkAll {H : Type} : List (DataW H) → Nat
  | [] => 0
  | d :: r => uptoBulk d + uptoBulkAll r
def uptoBulkEntries {H : Type} : List (Lit × DataW H) → Nat
  | [] => 0
  | x :: r => uptoBulkEntry x + uptoBulkEntries r
def uptoBulkEntry {H : Type} : Lit × DataW H → Nat
  | (.string bytes, d) => bytes.length + uptoBulk d + 1
  | (_, d) => uptoBulk d + 1
 end
def uptoSmall : (H : Type) → List (DataW H) → Bool := fun _ ds => decide (uptoBulkAll ds ≤ 1048576)
def OpenSpec.upto (s : _root_.Go.ChangeSpec) : _root_.Go.OpenSpec := { _root_.Go.OpenSpec.ofChange s with cond := some uptoSmall }

/-- 'astragallaw19.AmongFinds', WHERE WHAT IT READS IS OF BULK AT MOST 1048576: true; the input reads as it did. -/
def amongFindsUptoRow : OpenClaim := { program := "ytmhmnmokmamnoaa", sum := "d9ec23bb38b312e5cd88688017fcdc6ef8c5aec6deee1069e4ff7068702e8c65", func := "astragal/astragallaw19.AmongFinds", spec := "amongFinds", inPlace := ["math.Float64frombits"], unfollowed := true, recurses := true, apart := false, narrowed := true }
def AmongFindsUptoSaid : Prop := amongFindsUptoRow.holds Try.pinned (OpenSpec.upto amongFindsSpec)

/-- 'astragallaw13.PredThree', WHERE WHAT IT READS IS OF BULK AT MOST 1048576: true; the input reads as it did. -/
def predThreeUptoRow : OpenClaim := { program := "ytmhmnmokmamnoaa", sum := "d9ec23bb38b312e5cd88688017fcdc6ef8c5aec6deee1069e4ff7068702e8c65", func := "astragal/astragallaw13.PredThree", spec := "predThree", inPlace := ["math.Float64frombits"], unfollowed := true, recurses := true, apart := false, narrowed := true }
def PredThreeUptoSaid : Prop := predThreeUptoRow.holds Try.pinned (OpenSpec.upto predThreeSpec)

/-- 'astragallaw13.PredOrder', WHERE WHAT IT READS IS OF BULK AT MOST 1048576: true; the input reads as it did. -/
def predOrderUptoRow : OpenClaim := { program := "ytmhmnmokmamnoaa", sum := "d9ec23bb38b312e5cd88688017fcdc6ef8c5aec6deee1069e4ff7068702e8c65", func := "astragal/astragallaw13.PredOrder", spec := "predOrder", inPlace := ["math.Float64frombits"], unfollowed := true, recurses := true, apart := false, narrowed := true }
def PredOrderUptoSaid : Prop := predOrderUptoRow.holds Try.pinned (OpenSpec.upto predOrderSpec)

/-- 'astragallaw13.PredAnds', WHERE WHAT IT READS IS OF BULK AT MOST 1048576: true; the input reads as it did. -/
def predAndsUptoRow : OpenClaim := { program := "ytmhmnmokmamnoaa", sum := "d9ec23bb38b312e5cd88688017fcdc6ef8c5aec6deee1069e4ff7068702e8c65", func := "astragal/astragallaw13.PredAnds", spec := "predAnds", inPlace := ["math.Float64frombits"], unfollowed := true, recurses := true, apart := false, narrowed := true }
def PredAndsUptoSaid : Prop := predAndsUptoRow.holds Try.pinned (OpenSpec.upto predAndsSpec)

/-- 'astragallaw13.PredChecks', WHERE WHAT IT READS IS OF BULK AT MOST 1048576: true; the input reads as it did. -/
def predChecksUptoRow : OpenClaim := { program := "ytmhmnmokmamnoaa", sum := "d9ec23bb38b312e5cd88688017fcdc6ef8c5aec6deee1069e4ff7068702e8c65", func := "astragal/astragallaw13.PredChecks", spec := "predChecks", inPlace := ["math.Float64frombits"], unfollowed := true, recurses := true, apart := false, narrowed := true }
def PredChecksUptoSaid : Prop := predChecksUptoRow.holds Try.pinned (OpenSpec.upto predChecksSpec)

/-- 'astragallaw13.PredNeat', WHERE WHAT IT READS IS OF BULK AT MOST 1048576: true; the input reads as it did. -/
def predNeatUptoRow : OpenClaim := { program := "ytmhmnmokmamnoaa", sum := "d9ec23bb38b312e5cd88688017fcdc6ef8c5aec6deee1069e4ff7068702e8c65", func := "astragal/astragallaw13.PredNeat", spec := "predNeat", inPlace := ["math.Float64frombits"], unfollowed := true, recurses := true, apart := false, narrowed := true }
def PredNeatUptoSaid : Prop := predNeatUptoRow.holds Try.pinned (OpenSpec.upto predNeatSpec)

end Rows
end Go.Proofs.Ytmhmnmokmamnoaa

/-
  No cell of these rows narrows 'for every input' (looked for: loops, veiled, ifaces, maps, wideKeys, modest, calm, conditions, laid).
  DERIVED. THE GIVEN ROWS OF THIS SEAT. 5 by the template 'for every input the law returns true; each argument reads behind the call as it read before'; 0 by the template 'total and deterministic' (their statements: YtcdnbefcccdaeaaTotals.lean).
  GIVEN WITH THE SEED: the statements are not yours to turn. If you find one false, say at which input.
  Laid BY PROGRAM, IN A SANDBOX (cutbox-rows.mjs): the forced cells as the released guide's own fill.sh prints them over the translation cb1dff6041c25d50… (all of the seat's roots in one cut). By AI agents, Wed Nov 11 2026. No macro, syntax, notation, axiom, sorry.
-/
import Derived.Test.YtcdnbefcccdaeaaChecked
import GoSem.Claim
import GoSem.ClaimJoined
import GoSem.ClaimMapViews
import Derived.JoinedTies
import Derived.KernelRfl
namespace Go.Proofs.Ytcdnbefcccdaeaa
/- THE CELL 'sum', in the pinned program and in every row, IS THE sha256 OF THE DUMP (.gsa) THAT YtcdnbefcccdaeaaProg.lean LOADS. Nothing in Lean hashes anything: it is a label: what it is worth is what the hold of that sum in a sandbox is worth. -/
noncomputable def Try.pinned : Pinned := { name := "ytcdnbefcccdaeaa", sum := "cb1dff6041c25d50afa6a6e328c198de699c4483d449fbc196fe40c40a58ac21", checked := Try.checked }
namespace Rows
def none {H : Type} : Left H := { results := [], args := [] }

/-- 'astragallaw10.DeltaMoves': WHATEVER THE INPUT: true; the input reads as it did. -/
def deltaMovesSpec : ChangeSpec := { name := "deltaMoves", fn := fun _ => fun
  | [d1, d2] => { results := [.lit (.bool true)], args := [d1, d2] }
  | _ => none }
def deltaMovesRow : OpenClaim := { program := "ytcdnbefcccdaeaa", sum := "cb1dff6041c25d50afa6a6e328c198de699c4483d449fbc196fe40c40a58ac21", func := "astragal/astragallaw10.DeltaMoves", spec := "deltaMoves", inPlace := ["math.Float64frombits"], unfollowed := true, recurses := true, apart := false }
def DeltaMovesSaid : Prop := deltaMovesRow.holds Try.pinned (OpenSpec.ofChange deltaMovesSpec)

/-- ITS FALSE NEIGHBOUR: 'it returns false'. Refute it at one input. -/
def deltaMovesWrong : ChangeSpec := { name := "deltaMoves", fn := fun _ => fun
  | [d1, d2] => { results := [.lit (.bool false)], args := [d1, d2] }
  | _ => none }
def DeltaMovesWrongFalsely : Prop := deltaMovesRow.holds Try.pinned (OpenSpec.ofChange deltaMovesWrong)

/-- 'astragallaw10.DeltaRises': WHATEVER THE INPUT: true; the input reads as it did. -/
def deltaRisesSpec : ChangeSpec := { name := "deltaRises", fn := fun _ => fun
  | [d1, d2] => { results := [.lit (.bool true)], args := [d1, d2] }
  | _ => none }
def deltaRisesRow : OpenClaim := { program := "ytcdnbefcccdaeaa", sum := "cb1dff6041c25d50afa6a6e328c198de699c4483d449fbc196fe40c40a58ac21", func := "astragal/astragallaw10.DeltaRises", spec := "deltaRises", inPlace := ["math.Float64frombits"], unfollowed := true, recurses := true, apart := false }
def DeltaRisesSaid : Prop := deltaRisesRow.holds Try.pinned (OpenSpec.ofChange deltaRisesSpec)

/-- ITS FALSE NEIGHBOUR: 'it returns false'. Refute it at one input. -/
def deltaRisesWrong : ChangeSpec := { name := "deltaRises", fn := fun _ => fun
  | [d1, d2] => { results := [.lit (.bool false)], args := [d1, d2] }
  | _ => none }
def DeltaRisesWrongFalsely : Prop := deltaRisesRow.holds Try.pinned (OpenSpec.ofChange deltaRisesWrong)

/-- 'astragallaw10.DeltaBytes': WHATEVER THE INPUT: true; the input reads as it did. -/
def deltaBytesSpec : ChangeSpec := { name := "deltaBytes", fn := fun _ => fun
  | [d1, d2, d3] => { results := [.lit (.bool true)], args := [d1, d2, d3] }
  | _ => none }
def deltaBytesRow : OpenClaim := { program := "ytcdnbefcccdaeaa", sum := "cb1dff6041c25d50afa6a6e328c198de699c4483d449fbc196fe40c40a58ac21", func := "astragal/astragallaw10.DeltaBytes", spec := "deltaBytes", inPlace := ["math.Float64frombits"], unfollowed := true, recurses := true, apart := false }
def DeltaBytesSaid : Prop := deltaBytesRow.holds Try.pinned (OpenSpec.ofChange deltaBytesSpec)

/-- ITS FALSE NEIGHBOUR: 'it returns false'. Refute it at one input. -/
def deltaBytesWrong : ChangeSpec := { name := "deltaBytes", fn := fun _ => fun
  | [d1, d2, d3] => { results := [.lit (.bool false)], args := [d1, d2, d3] }
  | _ => none }
def DeltaBytesWrongFalsely : Prop := deltaBytesRow.holds Try.pinned (OpenSpec.ofChange deltaBytesWrong)

/-- 'astragallaw10.DeltaBack': WHATEVER THE INPUT: true; the input reads as it did. -/
def deltaBackSpec : ChangeSpec := { name := "deltaBack", fn := fun _ => fun
  | [d1, d2, d3] => { results := [.lit (.bool true)], args := [d1, d2, d3] }
  | _ => none }
def deltaBackRow : OpenClaim := { program := "ytcdnbefcccdaeaa", sum := "cb1dff6041c25d50afa6a6e328c198de699c4483d449fbc196fe40c40a58ac21", func := "astragal/astragallaw10.DeltaBack", spec := "deltaBack", inPlace := ["math.Float64frombits"], unfollowed := true, recurses := true, apart := false }
def DeltaBackSaid : Prop := deltaBackRow.holds Try.pinned (OpenSpec.ofChange deltaBackSpec)

/-- ITS FALSE NEIGHBOUR: 'it returns false'. Refute it at one input. -/
def deltaBackWrong : ChangeSpec := { name := "deltaBack", fn := fun _ => fun
  | [d1, d2, d3] => { results := [.lit (.bool false)], args := [d1, d2, d3] }
  | _ => none }
def DeltaBackWrongFalsely : Prop := deltaBackRow.holds Try.pinned (OpenSpec.ofChange deltaBackWrong)

/-- 'astragallaw10.DeltaCuts': WHATEVER THE INPUT: true; the input reads as it did. -/
def deltaCutsSpec : ChangeSpec := { name := "deltaCuts", fn := fun _ => fun
  | [d1, d2] => { results := [.lit (.bool true)], args := [d1, d2] }
  | _ => none }
def deltaCutsRow : OpenClaim := { program := "ytcdnbefcccdaeaa", sum := "cb1dff6041c25d50afa6a6e328c198de699c4483d449fbc196fe40c40a58ac21", func := "astragal/astragallaw10.DeltaCuts", spec := "deltaCuts", inPlace := ["math.Float64frombits"], unfollowed := true, recurses := true, apart := false }
def DeltaCutsSaid : Prop := deltaCutsRow.holds Try.pinned (OpenSpec.ofChange deltaCutsSpec)

/-- ITS FALSE NEIGHBOUR: 'it returns false'. Refute it at one input. -/
def deltaCutsWrong : ChangeSpec := { name := "deltaCuts", fn := fun _ => fun
  | [d1, d2] => { results := [.lit (.bool false)], args := [d1, d2] }
  | _ => none }
def DeltaCutsWrongFalsely : Prop := deltaCutsRow.holds Try.pinned (OpenSpec.ofChange deltaCutsWrong)

/- THE SECOND FORM. 'bulk': how many values and letters a reading holds, each counted each time it is reached (what is shared counts as often as it is met; a slice's spare places count too). A statement '..UptoSaid' is the law's where the arguments, and the package variables that the reading takes, are together of bulk at most 1048576: NARROWER than '..Said'. Prove '..Said' where nothing that the law and all that it calls make is longer than what came in: it says more and counts as full. Else prove '..UptoSaid'. A law counts once. -/
mutual
def uptoBulk {H : Type} : DataW H → Nat
  | .lit (.string bytes) => bytes.length + 1
  | .lit _ => 1
  | .nil => 1
  | .ptr d => uptoBulk d + 1
  | .slice elems spare => uptoBulkAll elems + uptoBulkAll spare + 1
  | .agg parts => uptoBulkAll parts + 1
  | .iface _ d => uptoBulk d + 1
  | .map entries => uptoBulkEntries entries + 1
  | .held _ => 1
def uptoBulkAll {H : Type} : List (DataW H) → Nat
  | [] => 0
  | d :: r => uptoBulk d + uptoBulkAll r
def uptoBulkEntries {H : Type} : List (Lit × DataW H) → Nat
  | [] => 0
  | x :: r => uptoBulkEntry x + uptoBulkEntries r
def uptoBulkEntry {H : Type} : Lit × DataW H → Nat
  | (.string bytes, d) => bytes.length + uptoBulk d + 1
  | (_, d) => uptoBulk d + 1
 end
def uptoSmall : (H : Type) → List (DataW H) → Bool := fun _ ds => decide (uptoBulkAll ds ≤ 1048576)
def OpenSpec.upto (s : _root_.Go.ChangeSpec) : _root_.Go.OpenSpec := { _root_.Go.OpenSpec.ofChange s with cond := some uptoSmall }

/-- 'astragallaw10.DeltaMoves', WHERE WHAT IT READS IS OF BULK AT MOST 1048576: true; the input reads as it did. -/
def deltaMovesUptoRow : OpenClaim := { program := "ytcdnbefcccdaeaa", sum := "cb1dff6041c25d50afa6a6e328c198de699c4483d449fbc196fe40c40a58ac21", func := "astragal/astragallaw10.DeltaMoves", spec := "deltaMoves", inPlace := ["math.Float64frombits"], unfollowed := true, recurses := true, apart := false, narrowed := true }
def DeltaMovesUptoSaid : Prop := deltaMovesUptoRow.holds Try.pinned (OpenSpec.upto deltaMovesSpec)

/-- 'astragallaw10.DeltaRises', WHERE WHAT IT READS IS OF BULK AT MOST 1048576: true; the input reads as it did. -/
def deltaRisesUptoRow : OpenClaim := { program := "ytcdnbefcccdaeaa", sum := "cb1dff6041c25d50afa6a6e328c198de699c4483d449fbc196fe40c40a58ac21", func := "astragal/astragallaw10.DeltaRises", spec := "deltaRises", inPlace := ["math.Float64frombits"], unfollowed := true, recurses := true, apart := false, narrowed := true }
def DeltaRisesUptoSaid : Prop := deltaRisesUptoRow.holds Try.pinned (OpenSpec.upto deltaRisesSpec)

/-- 'astragallaw10.DeltaBytes', WHERE WHAT IT READS IS OF BULK AT MOST 1048576: true; the input reads as it did. -/
def deltaBytesUptoRow : OpenClaim := { program := "ytcdnbefcccdaeaa", sum := "cb1dff6041c25d50afa6a6e328c198de699c4483d449fbc196fe40c40a58ac21", func := "astragal/astragallaw10.DeltaBytes", spec := "deltaBytes", inPlace := ["math.Float64frombits"], unfollowed := true, recurses := true, apart := false, narrowed := true }
def DeltaBytesUptoSaid : Prop := deltaBytesUptoRow.holds Try.pinned (OpenSpec.upto deltaBytesSpec)

/-- 'astragallaw10.DeltaBack', WHERE WHAT IT READS IS OF BULK AT MOST 1048576: true; the input reads as it did. -/
def deltaBackUptoRow : OpenClaim := { program := "ytcdnbefcccdaeaa", sum := "cb1dff6041c25d50afa6a6e328c198de699c4483d449fbc196fe40c40a58ac21", func := "astragal/astragallaw10.DeltaBack", spec := "deltaBack", inPlace := ["math.Float64frombits"], unfollowed := true, recurses := true, apart := false, narrowed := true }
def DeltaBackUptoSaid : Prop := deltaBackUptoRow.holds Try.pinned (OpenSpec.upto deltaBackSpec)

/-- 'astragallaw10.DeltaCuts', WHERE WHAT IT READS IS OF BULK AT MOST 1048576: true; the input reads as it did. -/
def deltaCutsUptoRow : OpenClaim := { program := "ytcdnbefcccdaeaa", sum := "cb1dff6041c25d50afa6a6e328c198de699c4483d449fbc196fe40c40a58ac21", func := "astragal/astragallaw10.DeltaCuts", spec := "deltaCuts", inPlace := ["math.Float64frombits"], unfollowed := true, recurses := true, apart := false, narrowed := true }
def DeltaCutsUptoSaid : Prop := deltaCutsUptoRow.holds Try.pinned (OpenSpec.upto deltaCutsSpec)

end Rows
end Go.Proofs.Ytcdnbefcccdaeaa

/-
  No cell of these rows narrows 'for every input' (looked for: loops, veiled, ifaces, maps, wideKeys, modest, calm, conditions, laid).
  DERIVED. THE GIVEN ROWS OF THIS SEAT. 4 by the template 'for every input the law returns true; each argument reads behind the call as it read before'; 0 by the template 'total and deterministic' (their statements: YtmbagpfmfiegkaaGreatTotals.lean).
  GIVEN WITH THE SEED: the statements are not yours to turn. If you find one false, say at which input.
  Laid BY PROGRAM, IN A SANDBOX (cutbox-rows.mjs): the forced cells as the released guide's own fill.sh prints them over the translation 428ee1aaf040bf76… (all of the seat's roots in one cut). By AI agents, Wed Nov 11 2026. No macro, syntax, notation, axiom, sorry.
-/
import Derived.Test.YtmbagpfmfiegkaaGreatChecked
import GoSem.Claim
import GoSem.ClaimJoined
import GoSem.ClaimMapViews
import Derived.JoinedTies
import Derived.KernelRfl
namespace Go.Proofs.YtmbagpfmfiegkaaGreat
/- THE CELL 'sum', in the pinned program and in every row, IS THE sha256 OF THE DUMP (.gsa) THAT YtmbagpfmfiegkaaGreatProg.lean LOADS. Nothing in Lean hashes anything: it is a label: what it is worth is what the hold of that sum in a sandbox is worth. -/
noncomputable def Tryz.pinned : Pinned := { name := "ytmbagpfmfiegkaagreat", sum := "428ee1aaf040bf768ac08cd308bf3f11a4ef58914d67f73d0fb5c1e8eb4f4be1", checked := Tryz.checked }
namespace Rows
def none {H : Type} : Left H := { results := [], args := [] }

/-- 'astragallaw11.SegReads': WHATEVER THE INPUT: true; the input reads as it did. -/
def segReadsSpec : ChangeSpec := { name := "segReads", fn := fun _ => fun
  | [d] => { results := [.lit (.bool true)], args := [d] }
  | _ => none }
def segReadsRow : OpenClaim := { program := "ytmbagpfmfiegkaagreat", sum := "428ee1aaf040bf768ac08cd308bf3f11a4ef58914d67f73d0fb5c1e8eb4f4be1", func := "astragal/astragallaw11.SegReads", spec := "segReads", inPlace := ["math.Float64frombits"], unfollowed := true, recurses := true, apart := false }
def SegReadsSaid : Prop := segReadsRow.holds Tryz.pinned (OpenSpec.ofChange segReadsSpec)

/-- ITS FALSE NEIGHBOUR: 'it returns false'. Refute it at one input. -/
def segReadsWrong : ChangeSpec := { name := "segReads", fn := fun _ => fun
  | [d] => { results := [.lit (.bool false)], args := [d] }
  | _ => none }
def SegReadsWrongFalsely : Prop := segReadsRow.holds Tryz.pinned (OpenSpec.ofChange segReadsWrong)

/-- 'astragallaw11.SegTurned': WHATEVER THE INPUT: true; the input reads as it did. -/
def segTurnedSpec : ChangeSpec := { name := "segTurned", fn := fun _ => fun
  | [d1, d2, d3, d4] => { results := [.lit (.bool true)], args := [d1, d2, d3, d4] }
  | _ => none }
def segTurnedRow : OpenClaim := { program := "ytmbagpfmfiegkaagreat", sum := "428ee1aaf040bf768ac08cd308bf3f11a4ef58914d67f73d0fb5c1e8eb4f4be1", func := "astragal/astragallaw11.SegTurned", spec := "segTurned", inPlace := ["math.Float64frombits"], unfollowed := true, recurses := true, apart := false }
def SegTurnedSaid : Prop := segTurnedRow.holds Tryz.pinned (OpenSpec.ofChange segTurnedSpec)

/-- ITS FALSE NEIGHBOUR: 'it returns false'. Refute it at one input. -/
def segTurnedWrong : ChangeSpec := { name := "segTurned", fn := fun _ => fun
  | [d1, d2, d3, d4] => { results := [.lit (.bool false)], args := [d1, d2, d3, d4] }
  | _ => none }
def SegTurnedWrongFalsely : Prop := segTurnedRow.holds Tryz.pinned (OpenSpec.ofChange segTurnedWrong)

/-- 'astragallaw11.SegZones': WHATEVER THE INPUT: true; the input reads as it did. -/
def segZonesSpec : ChangeSpec := { name := "segZones", fn := fun _ => fun
  | [d1, d2] => { results := [.lit (.bool true)], args := [d1, d2] }
  | _ => none }
def segZonesRow : OpenClaim := { program := "ytmbagpfmfiegkaagreat", sum := "428ee1aaf040bf768ac08cd308bf3f11a4ef58914d67f73d0fb5c1e8eb4f4be1", func := "astragal/astragallaw11.SegZones", spec := "segZones", inPlace := ["math.Float64frombits"], unfollowed := true, recurses := true, apart := false }
def SegZonesSaid : Prop := segZonesRow.holds Tryz.pinned (OpenSpec.ofChange segZonesSpec)

/-- ITS FALSE NEIGHBOUR: 'it returns false'. Refute it at one input. -/
def segZonesWrong : ChangeSpec := { name := "segZones", fn := fun _ => fun
  | [d1, d2] => { results := [.lit (.bool false)], args := [d1, d2] }
  | _ => none }
def SegZonesWrongFalsely : Prop := segZonesRow.holds Tryz.pinned (OpenSpec.ofChange segZonesWrong)

/-- 'astragallaw11.SegCuts': WHATEVER THE INPUT: true; the input reads as it did. -/
def segCutsSpec : ChangeSpec := { name := "segCuts", fn := fun _ => fun
  | [d1, d2, d3, d4] => { results := [.lit (.bool true)], args := [d1, d2, d3, d4] }
  | _ => none }
def segCutsRow : OpenClaim := { program := "ytmbagpfmfiegkaagreat", sum := "428ee1aaf040bf768ac08cd308bf3f11a4ef58914d67f73d0fb5c1e8eb4f4be1", func := "astragal/astragallaw11.SegCuts", spec := "segCuts", inPlace := ["math.Float64frombits"], unfollowed := true, recurses := true, apart := false }
def SegCutsSaid : Prop := segCutsRow.holds Tryz.pinned (OpenSpec.ofChange segCutsSpec)

/-- ITS FALSE NEIGHBOUR: 'it returns false'. Refute it at one input. -/
def segCutsWrong : ChangeSpec := { name := "segCuts", fn := fun _ => fun
  | [d1, d2, d3, d4] => { results := [.lit (.bool false)], args := [d1, d2, d3, d4] }
  | _ => none }
def SegCutsWrongFalsely : Prop := segCutsRow.holds Tryz.pinned (OpenSpec.ofChange segCutsWrong)

/- THE SECOND FORM. 'bulk': how many values and letters a reading holds, each counted each time it is reached (what is shared counts as often as it is met; a slice's spare places count too). A statement '..UptoSaid' is the law's where the arguments, and the package variables that the reading takes, are together of bulk at most 1048576: NARROWER than '..Said'. Prove '..Said' where nothing that the law and all that it calls make is longer than what came in: it says more and counts as full. Else prove '..UptoSaid'. A law counts once. -/
mutual
def uptoBulk {H : Type} : DataW H → Nat
  | .lit (.string bytes) => bytes.length + 1
  | .lit _ => 1
  | .nil => 1
  | .ptr d => uptoBulk d + 1
  | .slice elems spare => uptoBulkAll elems + uptoBulkAll spare + 1
  | .agg parts => uptoBulkAll parts + 1
  | .iface _ d => uptoBulk d + 1
  | .map entries => uptoBulkEntries entries + 1
  | .held _ => 1
def uptoBulkAll {H : Type} : List (DataW H) → Nat
  | [] => 0
  | d :: r => uptoBulk d + uptoBulkAll r
def uptoBulkEntries {H : Type} : List (Lit × DataW H) → Nat
  | [] => 0
  | x :: r => uptoBulkEntry x + uptoBulkEntries r
def uptoBulkEntry {H : Type} : Lit × DataW H → Nat
  | (.string bytes, d) => bytes.length + uptoBulk d + 1
  | (_, d) => uptoBulk d + 1
 end
def uptoSmall : (H : Type) → List (DataW H) → Bool := fun _ ds => decide (uptoBulkAll ds ≤ 1048576)
def OpenSpec.upto (s : _root_.Go.ChangeSpec) : _root_.Go.OpenSpec := { _root_.Go.OpenSpec.ofChange s with cond := some uptoSmall }

/-- 'astragallaw11.SegReads', WHERE WHAT IT READS IS OF BULK AT MOST 1048576: true; the input reads as it did. -/
def segReadsUptoRow : OpenClaim := { program := "ytmbagpfmfiegkaagreat", sum := "428ee1aaf040bf768ac08cd308bf3f11a4ef58914d67f73d0fb5c1e8eb4f4be1", func := "astragal/astragallaw11.SegReads", spec := "segReads", inPlace := ["math.Float64frombits"], unfollowed := true, recurses := true, apart := false, narrowed := true }
def SegReadsUptoSaid : Prop := segReadsUptoRow.holds Tryz.pinned (OpenSpec.upto segReadsSpec)

/-- 'astragallaw11.SegTurned', WHERE WHAT IT READS IS OF BULK AT MOST 1048576: true; the input reads as it did. -/
def segTurnedUptoRow : OpenClaim := { program := "ytmbagpfmfiegkaagreat", sum := "428ee1aaf040bf768ac08cd308bf3f11a4ef58914d67f73d0fb5c1e8eb4f4be1", func := "astragal/astragallaw11.SegTurned", spec := "segTurned", inPlace := ["math.Float64frombits"], unfollowed := true, recurses := true, apart := false, narrowed := true }
def SegTurnedUptoSaid : Prop := segTurnedUptoRow.holds Tryz.pinned (OpenSpec.upto segTurnedSpec)

/-- 'astragallaw11.SegZones', WHERE WHAT IT READS IS OF BULK AT MOST 1048576: true; the input reads as it did. -/
def segZonesUptoRow : OpenClaim := { program := "ytmbagpfmfiegkaagreat", sum := "428ee1aaf040bf768ac08cd308bf3f11a4ef58914d67f73d0fb5c1e8eb4f4be1", func := "astragal/astragallaw11.SegZones", spec := "segZones", inPlace := ["math.Float64frombits"], unfollowed := true, recurses := true, apart := false, narrowed := true }
def SegZonesUptoSaid : Prop := segZonesUptoRow.holds Tryz.pinned (OpenSpec.upto segZonesSpec)

/-- 'astragallaw11.SegCuts', WHERE WHAT IT READS IS OF BULK AT MOST 1048576: true; the input reads as it did. -/
def segCutsUptoRow : OpenClaim := { program := "ytmbagpfmfiegkaagreat", sum := "428ee1aaf040bf768ac08cd308bf3f11a4ef58914d67f73d0fb5c1e8eb4f4be1", func := "astragal/astragallaw11.SegCuts", spec := "segCuts", inPlace := ["math.Float64frombits"], unfollowed := true, recurses := true, apart := false, narrowed := true }
def SegCutsUptoSaid : Prop := segCutsUptoRow.holds Tryz.pinned (OpenSpec.upto segCutsSpec)

end Rows
end Go.Proofs.YtmbagpfmfiegkaaGreat

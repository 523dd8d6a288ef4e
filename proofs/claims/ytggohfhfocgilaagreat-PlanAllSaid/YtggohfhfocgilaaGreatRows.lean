/-
  No cell of these rows narrows 'for every input' (looked for: loops, veiled, ifaces, maps, wideKeys, modest, calm, conditions, laid).
  DERIVED. THE GIVEN ROWS OF THIS SEAT. 6 by the template 'for every input the law returns true; each argument reads behind the call as it read before'; 0 by the template 'total and deterministic' (their statements: YtggohfhfocgilaaGreatTotals.lean).
  GIVEN WITH THE SEED: the statements are not yours to turn. If you find one false, say at which input.
  Laid BY PROGRAM, IN A SANDBOX (cutbox-rows.mjs): the forced cells as the released guide's own fill.sh prints them over the translation e719289cab24fff0… (all of the seat's roots in one cut). By AI agents, Wed Nov 11 2026. No macro, syntax, notation, axiom, sorry.
-/
import Derived.Test.YtggohfhfocgilaaGreatChecked
import GoSem.Claim
import GoSem.ClaimJoined
import GoSem.ClaimMapViews
import Derived.JoinedTies
import Derived.KernelRfl
namespace Go.Proofs.YtggohfhfocgilaaGreat
/- THE CELL 'sum', in the pinned program and in every row, IS THE sha256 OF THE DUMP (.gsa) THAT YtggohfhfocgilaaGreatProg.lean LOADS. Nothing in Lean hashes anything: it is a label: what it is worth is what the hold of that sum in a sandbox is worth. -/
noncomputable def Tryz.pinned : Pinned := { name := "ytggohfhfocgilaagreat", sum := "e719289cab24fff0e99d8cd33ace5634b40b79adf7bf89561c1d2bb42ac69d08", checked := Tryz.checked }
namespace Rows
def none {H : Type} : Left H := { results := [], args := [] }

/-- 'astragallaw21.CostPlans': WHATEVER THE INPUT: true; the input reads as it did. -/
def costPlansSpec : ChangeSpec := { name := "costPlans", fn := fun _ => fun
  | [d1, d2, d3] => { results := [.lit (.bool true)], args := [d1, d2, d3] }
  | _ => none }
def costPlansRow : OpenClaim := { program := "ytggohfhfocgilaagreat", sum := "e719289cab24fff0e99d8cd33ace5634b40b79adf7bf89561c1d2bb42ac69d08", func := "astragal/astragallaw21.CostPlans", spec := "costPlans", inPlace := ["math/bits.Add64", "math.Float64frombits"], unfollowed := true, recurses := true, apart := false }
def CostPlansSaid : Prop := costPlansRow.holds Tryz.pinned (OpenSpec.ofChange costPlansSpec)

/-- ITS FALSE NEIGHBOUR: 'it returns false'. Refute it at one input. -/
def costPlansWrong : ChangeSpec := { name := "costPlans", fn := fun _ => fun
  | [d1, d2, d3] => { results := [.lit (.bool false)], args := [d1, d2, d3] }
  | _ => none }
def CostPlansWrongFalsely : Prop := costPlansRow.holds Tryz.pinned (OpenSpec.ofChange costPlansWrong)

/-- 'astragallaw22.PlanAll': WHATEVER THE INPUT: true; the input reads as it did. -/
def planAllSpec : ChangeSpec := { name := "planAll", fn := fun _ => fun
  | [d1, d2] => { results := [.lit (.bool true)], args := [d1, d2] }
  | _ => none }
def planAllRow : OpenClaim := { program := "ytggohfhfocgilaagreat", sum := "e719289cab24fff0e99d8cd33ace5634b40b79adf7bf89561c1d2bb42ac69d08", func := "astragal/astragallaw22.PlanAll", spec := "planAll", inPlace := ["math.Float64frombits", "math/bits.Add64"], unfollowed := true, recurses := true, apart := false }
def PlanAllSaid : Prop := planAllRow.holds Tryz.pinned (OpenSpec.ofChange planAllSpec)

/-- ITS FALSE NEIGHBOUR: 'it returns false'. Refute it at one input. -/
def planAllWrong : ChangeSpec := { name := "planAll", fn := fun _ => fun
  | [d1, d2] => { results := [.lit (.bool false)], args := [d1, d2] }
  | _ => none }
def PlanAllWrongFalsely : Prop := planAllRow.holds Tryz.pinned (OpenSpec.ofChange planAllWrong)

/-- 'astragallaw17.FileRows': WHATEVER THE INPUT: true; the input reads as it did. -/
def fileRowsSpec : ChangeSpec := { name := "fileRows", fn := fun _ => fun
  | [d1, d2, d3, d4, d5] => { results := [.lit (.bool true)], args := [d1, d2, d3, d4, d5] }
  | _ => none }
def fileRowsRow : OpenClaim := { program := "ytggohfhfocgilaagreat", sum := "e719289cab24fff0e99d8cd33ace5634b40b79adf7bf89561c1d2bb42ac69d08", func := "astragal/astragallaw17.FileRows", spec := "fileRows", inPlace := ["math.Float64frombits"], unfollowed := true, recurses := true, apart := false }
def FileRowsSaid : Prop := fileRowsRow.holds Tryz.pinned (OpenSpec.ofChange fileRowsSpec)

/-- ITS FALSE NEIGHBOUR: 'it returns false'. Refute it at one input. -/
def fileRowsWrong : ChangeSpec := { name := "fileRows", fn := fun _ => fun
  | [d1, d2, d3, d4, d5] => { results := [.lit (.bool false)], args := [d1, d2, d3, d4, d5] }
  | _ => none }
def FileRowsWrongFalsely : Prop := fileRowsRow.holds Tryz.pinned (OpenSpec.ofChange fileRowsWrong)

/-- 'astragallaw17.FileTurned': WHATEVER THE INPUT: true; the input reads as it did. -/
def fileTurnedSpec : ChangeSpec := { name := "fileTurned", fn := fun _ => fun
  | [d1, d2, d3, d4] => { results := [.lit (.bool true)], args := [d1, d2, d3, d4] }
  | _ => none }
def fileTurnedRow : OpenClaim := { program := "ytggohfhfocgilaagreat", sum := "e719289cab24fff0e99d8cd33ace5634b40b79adf7bf89561c1d2bb42ac69d08", func := "astragal/astragallaw17.FileTurned", spec := "fileTurned", inPlace := ["math.Float64frombits"], unfollowed := true, recurses := true, apart := false }
def FileTurnedSaid : Prop := fileTurnedRow.holds Tryz.pinned (OpenSpec.ofChange fileTurnedSpec)

/-- ITS FALSE NEIGHBOUR: 'it returns false'. Refute it at one input. -/
def fileTurnedWrong : ChangeSpec := { name := "fileTurned", fn := fun _ => fun
  | [d1, d2, d3, d4] => { results := [.lit (.bool false)], args := [d1, d2, d3, d4] }
  | _ => none }
def FileTurnedWrongFalsely : Prop := fileTurnedRow.holds Tryz.pinned (OpenSpec.ofChange fileTurnedWrong)

/-- 'astragallaw17.FileCodecs': WHATEVER THE INPUT: true; the input reads as it did. -/
def fileCodecsSpec : ChangeSpec := { name := "fileCodecs", fn := fun _ => fun
  | [d1, d2, d3, d4] => { results := [.lit (.bool true)], args := [d1, d2, d3, d4] }
  | _ => none }
def fileCodecsRow : OpenClaim := { program := "ytggohfhfocgilaagreat", sum := "e719289cab24fff0e99d8cd33ace5634b40b79adf7bf89561c1d2bb42ac69d08", func := "astragal/astragallaw17.FileCodecs", spec := "fileCodecs", inPlace := ["math.Float64frombits"], unfollowed := true, recurses := true, apart := false }
def FileCodecsSaid : Prop := fileCodecsRow.holds Tryz.pinned (OpenSpec.ofChange fileCodecsSpec)

/-- ITS FALSE NEIGHBOUR: 'it returns false'. Refute it at one input. -/
def fileCodecsWrong : ChangeSpec := { name := "fileCodecs", fn := fun _ => fun
  | [d1, d2, d3, d4] => { results := [.lit (.bool false)], args := [d1, d2, d3, d4] }
  | _ => none }
def FileCodecsWrongFalsely : Prop := fileCodecsRow.holds Tryz.pinned (OpenSpec.ofChange fileCodecsWrong)

/-- 'astragallaw17.FileCuts': WHATEVER THE INPUT: true; the input reads as it did. -/
def fileCutsSpec : ChangeSpec := { name := "fileCuts", fn := fun _ => fun
  | [d1, d2, d3, d4] => { results := [.lit (.bool true)], args := [d1, d2, d3, d4] }
  | _ => none }
def fileCutsRow : OpenClaim := { program := "ytggohfhfocgilaagreat", sum := "e719289cab24fff0e99d8cd33ace5634b40b79adf7bf89561c1d2bb42ac69d08", func := "astragal/astragallaw17.FileCuts", spec := "fileCuts", inPlace := ["math.Float64frombits"], unfollowed := true, recurses := true, apart := false }
def FileCutsSaid : Prop := fileCutsRow.holds Tryz.pinned (OpenSpec.ofChange fileCutsSpec)

/-- ITS FALSE NEIGHBOUR: 'it returns false'. Refute it at one input. -/
def fileCutsWrong : ChangeSpec := { name := "fileCuts", fn := fun _ => fun
  | [d1, d2, d3, d4] => { results := [.lit (.bool false)], args := [d1, d2, d3, d4] }
  | _ => none }
def FileCutsWrongFalsely : Prop := fileCutsRow.holds Tryz.pinned (OpenSpec.ofChange fileCutsWrong)

/- THE SECOND FORM. 'bulk': how many values and letters a reading holds, each counted each time it is reached (what is shared counts as often as it is met; a slice's spare places count too). A statement '..UptoSaid' is the law's where the arguments, and the package variables that the reading takes, are together of bulk at most 1048576: NARROWER than '..Said'. Prove '..Said' where nothing that the law and all that it calls make is longer than what came in: it says more and counts as full. Else prove '..UptoSaid'. A law counts once. -/
mutual
def uptoBulk {H : Type} : DataW H → Nat
  | .lit (.string bytes) => bytes.length + 1
  | .lit _ => 1
  | .nil => 1
  | .ptr d => uptoBulk d + 1
  | .slice elems spare => uptoBulkAll elems + uptoBulkAll spare + 1
  | .agg parts => uptoBulkAll parts + 1
  | .iface _ d => uptoBulk d + 1
  | .map entries => uptoBulkEntries entries + 1
  | .held _ => 1
def uptoBulkAll {H : Type} : List (DataW H) → Nat
  | [] => 0
  | d :: r => uptoBulk d + uptoBulkAll r
def uptoBulkEntries {H : Type} : List (Lit × DataW H) → Nat
  | [] => 0
  | x :: r => uptoBulkEntry x + uptoBulkEntries r
def uptoBulkEntry {H : Type} : Lit × DataW H → Nat
  | (.string bytes, d) => bytes.length + uptoBulk d + 1
  | (_, d) => uptoBulk d + 1
 end
def uptoSmall : (H : Type) → List (DataW H) → Bool := fun _ ds => decide (uptoBulkAll ds ≤ 1048576)
def OpenSpec.upto (s : _root_.Go.ChangeSpec) : _root_.Go.OpenSpec := { _root_.Go.OpenSpec.ofChange s with cond := some uptoSmall }

/-- 'astragallaw21.CostPlans', WHERE WHAT IT READS IS OF BULK AT MOST 1048576: true; the input reads as it did. -/
def costPlansUptoRow : OpenClaim := { program := "ytggohfhfocgilaagreat", sum := "e719289cab24fff0e99d8cd33ace5634b40b79adf7bf89561c1d2bb42ac69d08", func := "astragal/astragallaw21.CostPlans", spec := "costPlans", inPlace := ["math/bits.Add64", "math.Float64frombits"], unfollowed := true, recurses := true, apart := false, narrowed := true }
def CostPlansUptoSaid : Prop := costPlansUptoRow.holds Tryz.pinned (OpenSpec.upto costPlansSpec)

/-- 'astragallaw22.PlanAll', WHERE WHAT IT READS IS OF BULK AT MOST 1048576: true; the input reads as it did. -/
def planAllUptoRow : OpenClaim := { program := "ytggohfhfocgilaagreat", sum := "e719289cab24fff0e99d8cd33ace5634b40b79adf7bf89561c1d2bb42ac69d08", func := "astragal/astragallaw22.PlanAll", spec := "planAll", inPlace := ["math.Float64frombits", "math/bits.Add64"], unfollowed := true, recurses := true, apart := false, narrowed := true }
def PlanAllUptoSaid : Prop := planAllUptoRow.holds Tryz.pinned (OpenSpec.upto planAllSpec)

/-- 'astragallaw17.FileRows', WHERE WHAT IT READS IS OF BULK AT MOST 1048576: true; the input reads as it did. -/
def fileRowsUptoRow : OpenClaim := { program := "ytggohfhfocgilaagreat", sum := "e719289cab24fff0e99d8cd33ace5634b40b79adf7bf89561c1d2bb42ac69d08", func := "astragal/astragallaw17.FileRows", spec := "fileRows", inPlace := ["math.Float64frombits"], unfollowed := true, recurses := true, apart := false, narrowed := true }
def FileRowsUptoSaid : Prop := fileRowsUptoRow.holds Tryz.pinned (OpenSpec.upto fileRowsSpec)

/-- 'astragallaw17.FileTurned', WHERE WHAT IT READS IS OF BULK AT MOST 1048576: true; the input reads as it did. -/
def fileTurnedUptoRow : OpenClaim := { program := "ytggohfhfocgilaagreat", sum := "e719289cab24fff0e99d8cd33ace5634b40b79adf7bf89561c1d2bb42ac69d08", func := "astragal/astragallaw17.FileTurned", spec := "fileTurned", inPlace := ["math.Float64frombits"], unfollowed := true, recurses := true, apart := false, narrowed := true }
def FileTurnedUptoSaid : Prop := fileTurnedUptoRow.holds Tryz.pinned (OpenSpec.upto fileTurnedSpec)

/-- 'astragallaw17.FileCodecs', WHERE WHAT IT READS IS OF BULK AT MOST 1048576: true; the input reads as it did. -/
def fileCodecsUptoRow : OpenClaim := { program := "ytggohfhfocgilaagreat", sum := "e719289cab24fff0e99d8cd33ace5634b40b79adf7bf89561c1d2bb42ac69d08", func := "astragal/astragallaw17.FileCodecs", spec := "fileCodecs", inPlace := ["math.Float64frombits"], unfollowed := true, recurses := true, apart := false, narrowed := true }
def FileCodecsUptoSaid : Prop := fileCodecsUptoRow.holds Tryz.pinned (OpenSpec.upto fileCodecsSpec)

/-- 'astragallaw17.FileCuts', WHERE WHAT IT READS IS OF BULK AT MOST 1048576: true; the input reads as it did. -/
def fileCutsUptoRow : OpenClaim := { program := "ytggohfhfocgilaagreat", sum := "e719289cab24fff0e99d8cd33ace5634b40b79adf7bf89561c1d2bb42ac69d08", func := "astragal/astragallaw17.FileCuts", spec := "fileCuts", inPlace := ["math.Float64frombits"], unfollowed := true, recurses := true, apart := false, narrowed := true }
def FileCutsUptoSaid : Prop := fileCutsUptoRow.holds Tryz.pinned (OpenSpec.upto fileCutsSpec)

end Rows
end Go.Proofs.YtggohfhfocgilaaGreat

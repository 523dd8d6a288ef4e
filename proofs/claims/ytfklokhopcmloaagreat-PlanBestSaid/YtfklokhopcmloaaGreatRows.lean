/-
  No cell of these rows narrows 'for every input' (looked for: loops, veiled, ifaces, maps, wideKeys, modest, calm, conditions, laid).
  DERIVED. THE GIVEN ROWS OF THIS SEAT. 5 by the template 'for every input the law returns true; each argument reads behind the call as it read before'; 0 by the template 'total and deterministic' (their statements: YtfklokhopcmloaaGreatTotals.lean).
  GIVEN WITH THE SEED: the statements are not yours to turn. If you find one false, say at which input.
  Laid BY PROGRAM, IN A SANDBOX (cutbox-rows.mjs): the forced cells as the released guide's own fill.sh prints them over the translation 294b816f8e82ad93… (all of the seat's roots in one cut). By AI agents, Wed Nov 11 2026. No macro, syntax, notation, axiom, sorry.
-/
import Derived.Test.YtfklokhopcmloaaGreatChecked
import GoSem.Claim
import GoSem.ClaimJoined
import GoSem.ClaimMapViews
import Derived.JoinedTies
import Derived.KernelRfl
namespace Go.Proofs.YtfklokhopcmloaaGreat
/- THE CELL 'sum', in the pinned program and in every row, IS THE sha256 OF THE DUMP (.gsa) THAT YtfklokhopcmloaaGreatProg.lean LOADS. Nothing in Lean hashes anything: it is a label: what it is worth is what the hold of that sum in a sandbox is worth. -/
noncomputable def Tryz.pinned : Pinned := { name := "ytfklokhopcmloaagreat", sum := "294b816f8e82ad939fa5ba4338de9ba979a0ed4a9d4bd3f7e3576749354f0852", checked := Tryz.checked }
namespace Rows
def none {H : Type} : Left H := { results := [], args := [] }

/-- 'astragallaw22.PlanTwice': WHATEVER THE INPUT: true; the input reads as it did. -/
def planTwiceSpec : ChangeSpec := { name := "planTwice", fn := fun _ => fun
  | [d1, d2] => { results := [.lit (.bool true)], args := [d1, d2] }
  | _ => none }
def planTwiceRow : OpenClaim := { program := "ytfklokhopcmloaagreat", sum := "294b816f8e82ad939fa5ba4338de9ba979a0ed4a9d4bd3f7e3576749354f0852", func := "astragal/astragallaw22.PlanTwice", spec := "planTwice", inPlace := ["math.Float64frombits"], unfollowed := true, recurses := true, apart := false }
def PlanTwiceSaid : Prop := planTwiceRow.holds Tryz.pinned (OpenSpec.ofChange planTwiceSpec)

/-- ITS FALSE NEIGHBOUR: 'it returns false'. Refute it at one input. -/
def planTwiceWrong : ChangeSpec := { name := "planTwice", fn := fun _ => fun
  | [d1, d2] => { results := [.lit (.bool false)], args := [d1, d2] }
  | _ => none }
def PlanTwiceWrongFalsely : Prop := planTwiceRow.holds Tryz.pinned (OpenSpec.ofChange planTwiceWrong)

/-- 'astragallaw22.PlanProjs': WHATEVER THE INPUT: true; the input reads as it did. -/
def planProjsSpec : ChangeSpec := { name := "planProjs", fn := fun _ => fun
  | [d1, d2] => { results := [.lit (.bool true)], args := [d1, d2] }
  | _ => none }
def planProjsRow : OpenClaim := { program := "ytfklokhopcmloaagreat", sum := "294b816f8e82ad939fa5ba4338de9ba979a0ed4a9d4bd3f7e3576749354f0852", func := "astragal/astragallaw22.PlanProjs", spec := "planProjs", inPlace := ["math.Float64frombits"], unfollowed := true, recurses := true, apart := false }
def PlanProjsSaid : Prop := planProjsRow.holds Tryz.pinned (OpenSpec.ofChange planProjsSpec)

/-- ITS FALSE NEIGHBOUR: 'it returns false'. Refute it at one input. -/
def planProjsWrong : ChangeSpec := { name := "planProjs", fn := fun _ => fun
  | [d1, d2] => { results := [.lit (.bool false)], args := [d1, d2] }
  | _ => none }
def PlanProjsWrongFalsely : Prop := planProjsRow.holds Tryz.pinned (OpenSpec.ofChange planProjsWrong)

/-- 'astragallaw21.CostPruned': WHATEVER THE INPUT: true; the input reads as it did. -/
def costPrunedSpec : ChangeSpec := { name := "costPruned", fn := fun _ => fun
  | [d1, d2, d3, d4] => { results := [.lit (.bool true)], args := [d1, d2, d3, d4] }
  | _ => none }
def costPrunedRow : OpenClaim := { program := "ytfklokhopcmloaagreat", sum := "294b816f8e82ad939fa5ba4338de9ba979a0ed4a9d4bd3f7e3576749354f0852", func := "astragal/astragallaw21.CostPruned", spec := "costPruned", inPlace := ["math/bits.Add64", "math.Float64frombits"], unfollowed := true, recurses := true, apart := false }
def CostPrunedSaid : Prop := costPrunedRow.holds Tryz.pinned (OpenSpec.ofChange costPrunedSpec)

/-- ITS FALSE NEIGHBOUR: 'it returns false'. Refute it at one input. -/
def costPrunedWrong : ChangeSpec := { name := "costPruned", fn := fun _ => fun
  | [d1, d2, d3, d4] => { results := [.lit (.bool false)], args := [d1, d2, d3, d4] }
  | _ => none }
def CostPrunedWrongFalsely : Prop := costPrunedRow.holds Tryz.pinned (OpenSpec.ofChange costPrunedWrong)

/-- 'astragallaw21.CostPlain': WHATEVER THE INPUT: true; the input reads as it did. -/
def costPlainSpec : ChangeSpec := { name := "costPlain", fn := fun _ => fun
  | [d1, d2] => { results := [.lit (.bool true)], args := [d1, d2] }
  | _ => none }
def costPlainRow : OpenClaim := { program := "ytfklokhopcmloaagreat", sum := "294b816f8e82ad939fa5ba4338de9ba979a0ed4a9d4bd3f7e3576749354f0852", func := "astragal/astragallaw21.CostPlain", spec := "costPlain", inPlace := ["math/bits.Add64", "math.Float64frombits"], unfollowed := true, recurses := true, apart := false }
def CostPlainSaid : Prop := costPlainRow.holds Tryz.pinned (OpenSpec.ofChange costPlainSpec)

/-- ITS FALSE NEIGHBOUR: 'it returns false'. Refute it at one input. -/
def costPlainWrong : ChangeSpec := { name := "costPlain", fn := fun _ => fun
  | [d1, d2] => { results := [.lit (.bool false)], args := [d1, d2] }
  | _ => none }
def CostPlainWrongFalsely : Prop := costPlainRow.holds Tryz.pinned (OpenSpec.ofChange costPlainWrong)

/-- 'astragallaw22.PlanBest': WHATEVER THE INPUT: true; the input reads as it did. -/
def planBestSpec : ChangeSpec := { name := "planBest", fn := fun _ => fun
  | [d1, d2] => { results := [.lit (.bool true)], args := [d1, d2] }
  | _ => none }
def planBestRow : OpenClaim := { program := "ytfklokhopcmloaagreat", sum := "294b816f8e82ad939fa5ba4338de9ba979a0ed4a9d4bd3f7e3576749354f0852", func := "astragal/astragallaw22.PlanBest", spec := "planBest", inPlace := ["math.Float64frombits", "math/bits.Add64"], unfollowed := true, recurses := true, apart := false }
def PlanBestSaid : Prop := planBestRow.holds Tryz.pinned (OpenSpec.ofChange planBestSpec)

/-- ITS FALSE NEIGHBOUR: 'it returns false'. Refute it at one input. -/
def planBestWrong : ChangeSpec := { name := "planBest", fn := fun _ => fun
  | [d1, d2] => { results := [.lit (.bool false)], args := [d1, d2] }
  | _ => none }
def PlanBestWrongFalsely : Prop := planBestRow.holds Tryz.pinned (OpenSpec.ofChange planBestWrong)

/- THE SECOND FORM. 'bulk': how many values and letters a reading holds, each counted each time it is reached (what is shared counts as often as it is met; a slice's spare places count too). A statement '..UptoSaid' is the law's where the arguments, and the package variables that the reading takes, are together of bulk at most 1048576: NARROWER than '..Said'. Prove '..Said' where nothing that the law and all that it calls make is longer than what came in: it says more and counts as full. Else prove '..UptoSaid'. A law counts once. -/
mutual
def uptoBulk {H : Type} : DataW H → Nat
  | .lit (.string bytes) => bytes.length + 1
  | .lit _ => 1
  | .nil => 1
  | .ptr d => uptoBulk d + 1
  | .slice elems spare => uptoBulkAll elems + uptoBulkAll spare + 1
  | .agg parts => uptoBulkAll parts + 1
  | .iface _ d => uptoBulk d + 1
  | .map entries => uptoBulkEntries entries + 1
  | .held _ => 1
def uptoBulkAll {H : Type} : List (DataW H) → Nat
  | [] => 0
  | d :: r => uptoBulk d + uptoBulkAll r
def uptoBulkEntries {H : Type} : List (Lit × DataW H) → Nat
  | [] => 0
  | x :: r => uptoBulkEntry x + uptoBulkEntries r
def uptoBulkEntry {H : Type} : Lit × DataW H → Nat
  | (.string bytes, d) => bytes.length + uptoBulk d + 1
  | (_, d) => uptoBulk d + 1
 end
def uptoSmall : (H : Type) → List (DataW H) → Bool := fun _ ds => decide (uptoBulkAll ds ≤ 1048576)
def OpenSpec.upto (s : _root_.Go.ChangeSpec) : _root_.Go.OpenSpec := { _root_.Go.OpenSpec.ofChange s with cond := some uptoSmall }

/-- 'astragallaw22.PlanTwice', WHERE WHAT IT READS IS OF BULK AT MOST 1048576: true; the input reads as it did. -/
def planTwiceUptoRow : OpenClaim := { program := "ytfklokhopcmloaagreat", sum := "294b816f8e82ad939fa5ba4338de9ba979a0ed4a9d4bd3f7e3576749354f0852", func := "astragal/astragallaw22.PlanTwice", spec := "planTwice", inPlace := ["math.Float64frombits"], unfollowed := true, recurses := true, apart := false, narrowed := true }
def PlanTwiceUptoSaid : Prop := planTwiceUptoRow.holds Tryz.pinned (OpenSpec.upto planTwiceSpec)

/-- 'astragallaw22.PlanProjs', WHERE WHAT IT READS IS OF BULK AT MOST 1048576: true; the input reads as it did. -/
def planProjsUptoRow : OpenClaim := { program := "ytfklokhopcmloaagreat", sum := "294b816f8e82ad939fa5ba4338de9ba979a0ed4a9d4bd3f7e3576749354f0852", func := "astragal/astragallaw22.PlanProjs", spec := "planProjs", inPlace := ["math.Float64frombits"], unfollowed := true, recurses := true, apart := false, narrowed := true }
def PlanProjsUptoSaid : Prop := planProjsUptoRow.holds Tryz.pinned (OpenSpec.upto planProjsSpec)

/-- 'astragallaw21.CostPruned', WHERE WHAT IT READS IS OF BULK AT MOST 1048576: true; the input reads as it did. -/
def costPrunedUptoRow : OpenClaim := { program := "ytfklokhopcmloaagreat", sum := "294b816f8e82ad939fa5ba4338de9ba979a0ed4a9d4bd3f7e3576749354f0852", func := "astragal/astragallaw21.CostPruned", spec := "costPruned", inPlace := ["math/bits.Add64", "math.Float64frombits"], unfollowed := true, recurses := true, apart := false, narrowed := true }
def CostPrunedUptoSaid : Prop := costPrunedUptoRow.holds Tryz.pinned (OpenSpec.upto costPrunedSpec)

/-- 'astragallaw21.CostPlain', WHERE WHAT IT READS IS OF BULK AT MOST 1048576: true; the input reads as it did. -/
def costPlainUptoRow : OpenClaim := { program := "ytfklokhopcmloaagreat", sum := "294b816f8e82ad939fa5ba4338de9ba979a0ed4a9d4bd3f7e3576749354f0852", func := "astragal/astragallaw21.CostPlain", spec := "costPlain", inPlace := ["math/bits.Add64", "math.Float64frombits"], unfollowed := true, recurses := true, apart := false, narrowed := true }
def CostPlainUptoSaid : Prop := costPlainUptoRow.holds Tryz.pinned (OpenSpec.upto costPlainSpec)

/-- 'astragallaw22.PlanBest', WHERE WHAT IT READS IS OF BULK AT MOST 1048576: true; the input reads as it did. -/
def planBestUptoRow : OpenClaim := { program := "ytfklokhopcmloaagreat", sum := "294b816f8e82ad939fa5ba4338de9ba979a0ed4a9d4bd3f7e3576749354f0852", func := "astragal/astragallaw22.PlanBest", spec := "planBest", inPlace := ["math.Float64frombits", "math/bits.Add64"], unfollowed := true, recurses := true, apart := false, narrowed := true }
def PlanBestUptoSaid : Prop := planBestUptoRow.holds Tryz.pinned (OpenSpec.upto planBestSpec)

end Rows
end Go.Proofs.YtfklokhopcmloaaGreat

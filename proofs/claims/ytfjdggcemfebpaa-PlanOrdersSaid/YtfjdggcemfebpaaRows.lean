/-
  No cell of these rows narrows 'for every input' (looked for: loops, veiled, ifaces, maps, wideKeys, modest, calm, conditions, laid).
  DERIVED. THE GIVEN ROWS OF THIS SEAT. 4 by the template 'for every input the law returns true; each argument reads behind the call as it read before'; 0 by the template 'total and deterministic' (their statements: YtfjdggcemfebpaaTotals.lean).
  GIVEN WITH THE SEED: the statements are not yours to turn. If you find one false, say at which input.
  Laid BY PROGRAM, IN A SANDBOX (cutbox-rows.mjs): the forced cells as the released guide's own fill.sh prints them over the translation 33b2c0fe0514608a… (all of the seat's roots in one cut). By AI agents, Wed Nov 11 2026. No macro, syntax, notation, axiom, sorry.
-/
import Derived.Test.YtfjdggcemfebpaaChecked
import GoSem.Claim
import GoSem.ClaimJoined
import GoSem.ClaimMapViews
import Derived.JoinedTies
import Derived.KernelRfl
namespace Go.Proofs.Ytfjdggcemfebpaa
/- THE CELL 'sum', in the pinned program and in every row, IS THE sha256 OF THE DUMP (.gsa) THAT YtfjdggcemfebpaaProg.lean LOADS. Nothing in Lean hashes anything: it is a label: what it is worth is what the hold of that sum in a sandbox is worth. -/
noncomputable def Try.pinned : Pinned := { name := "ytfjdggcemfebpaa", sum := "33b2c0fe0514608a2bde04cf431f5cf1f2912e3ac801819d869b315d2a7699f3", checked := Try.checked }
namespace Rows
def none {H : Type} : Left H := { results := [], args := [] }

/-- 'astragallaw22.PlanOrders': WHATEVER THE INPUT: true; the input reads as it did. -/
def planOrdersSpec : ChangeSpec := { name := "planOrders", fn := fun _ => fun
  | [d] => { results := [.lit (.bool true)], args := [d] }
  | _ => none }
def planOrdersRow : OpenClaim := { program := "ytfjdggcemfebpaa", sum := "33b2c0fe0514608a2bde04cf431f5cf1f2912e3ac801819d869b315d2a7699f3", func := "astragal/astragallaw22.PlanOrders", spec := "planOrders", unfollowed := true, recurses := true, apart := false }
def PlanOrdersSaid : Prop := planOrdersRow.holds Try.pinned (OpenSpec.ofChange planOrdersSpec)

/-- ITS FALSE NEIGHBOUR: 'it returns false'. Refute it at one input. -/
def planOrdersWrong : ChangeSpec := { name := "planOrders", fn := fun _ => fun
  | [d] => { results := [.lit (.bool false)], args := [d] }
  | _ => none }
def PlanOrdersWrongFalsely : Prop := planOrdersRow.holds Try.pinned (OpenSpec.ofChange planOrdersWrong)

/-- 'astragallaw21.CostNumbers': WHATEVER THE INPUT: true; the input reads as it did. -/
def costNumbersSpec : ChangeSpec := { name := "costNumbers", fn := fun _ => fun
  | [d1, d2] => { results := [.lit (.bool true)], args := [d1, d2] }
  | _ => none }
def costNumbersRow : OpenClaim := { program := "ytfjdggcemfebpaa", sum := "33b2c0fe0514608a2bde04cf431f5cf1f2912e3ac801819d869b315d2a7699f3", func := "astragal/astragallaw21.CostNumbers", spec := "costNumbers", inPlace := ["math/bits.Add64"], unfollowed := true, recurses := true, apart := false }
def CostNumbersSaid : Prop := costNumbersRow.holds Try.pinned (OpenSpec.ofChange costNumbersSpec)

/-- ITS FALSE NEIGHBOUR: 'it returns false'. Refute it at one input. -/
def costNumbersWrong : ChangeSpec := { name := "costNumbers", fn := fun _ => fun
  | [d1, d2] => { results := [.lit (.bool false)], args := [d1, d2] }
  | _ => none }
def CostNumbersWrongFalsely : Prop := costNumbersRow.holds Try.pinned (OpenSpec.ofChange costNumbersWrong)

/-- 'astragallaw21.CostRules': WHATEVER THE INPUT: true; the input reads as it did. -/
def costRulesSpec : ChangeSpec := { name := "costRules", fn := fun _ => fun
  | [d1, d2, d3] => { results := [.lit (.bool true)], args := [d1, d2, d3] }
  | _ => none }
def costRulesRow : OpenClaim := { program := "ytfjdggcemfebpaa", sum := "33b2c0fe0514608a2bde04cf431f5cf1f2912e3ac801819d869b315d2a7699f3", func := "astragal/astragallaw21.CostRules", spec := "costRules", inPlace := ["math/bits.Add64"], unfollowed := true, recurses := true, apart := false }
def CostRulesSaid : Prop := costRulesRow.holds Try.pinned (OpenSpec.ofChange costRulesSpec)

/-- ITS FALSE NEIGHBOUR: 'it returns false'. Refute it at one input. -/
def costRulesWrong : ChangeSpec := { name := "costRules", fn := fun _ => fun
  | [d1, d2, d3] => { results := [.lit (.bool false)], args := [d1, d2, d3] }
  | _ => none }
def CostRulesWrongFalsely : Prop := costRulesRow.holds Try.pinned (OpenSpec.ofChange costRulesWrong)

/-- 'astragallaw21.CostNeeds': WHATEVER THE INPUT: true; the input reads as it did. -/
def costNeedsSpec : ChangeSpec := { name := "costNeeds", fn := fun _ => fun
  | [d] => { results := [.lit (.bool true)], args := [d] }
  | _ => none }
def costNeedsRow : OpenClaim := { program := "ytfjdggcemfebpaa", sum := "33b2c0fe0514608a2bde04cf431f5cf1f2912e3ac801819d869b315d2a7699f3", func := "astragal/astragallaw21.CostNeeds", spec := "costNeeds", inPlace := ["math/bits.Add64"], unfollowed := true, recurses := true, apart := false }
def CostNeedsSaid : Prop := costNeedsRow.holds Try.pinned (OpenSpec.ofChange costNeedsSpec)

/-- ITS FALSE NEIGHBOUR: 'it returns false'. Refute it at one input. -/
def costNeedsWrong : ChangeSpec := { name := "costNeeds", fn := fun _ => fun
  | [d] => { results := [.lit (.bool false)], args := [d] }
  | _ => none }
def CostNeedsWrongFalsely : Prop := costNeedsRow.holds Try.pinned (OpenSpec.ofChange costNeedsWrong)

/- THE SECOND FORM. 'bulk': how many values and letters a reading holds, each counted each time it is reached (what is shared counts as often as it is met; a slice's spare places count too). A statement '..UptoSaid' is the law's where the arguments, and the package variables that the reading takes, are together of bulk at most 1048576: NARROWER than '..Said'. Prove '..Said' where nothing that the law and all that it calls make is longer than what came in: it says more and counts as full. Else prove '..UptoSaid'. A law counts once. -/
mutual
def uptoBulk {H : Type} : DataW H → Nat
  | .lit (.string bytes) => bytes.length + 1
  | .lit _ => 1
  | .nil => 1
  | .ptr d => uptoBulk d + 1
  | .slice elems spare => uptoBulkAll elems + uptoBulkAll spare + 1
  | .agg parts => uptoBulkAll parts + 1
  | .iface _ d => uptoBulk d + 1
  | .map entries => uptoBulkEntries entries + 1
  | .held _ => 1
def uptoBulkAll {H : Type} : List (DataW H) → Nat
  | [] => 0
  | d :: r => uptoBulk d + uptoBulkAll r
def uptoBulkEntries {H : Type} : List (Lit × DataW H) → Nat
  | [] => 0
  | x :: r => uptoBulkEntry x + uptoBulkEntries r
def uptoBulkEntry {H : Type} : Lit × DataW H → Nat
  | (.string bytes, d) => bytes.length + uptoBulk d + 1
  | (_, d) => uptoBulk d + 1
 end
def uptoSmall : (H : Type) → List (DataW H) → Bool := fun _ ds => decide (uptoBulkAll ds ≤ 1048576)
def OpenSpec.upto (s : _root_.Go.ChangeSpec) : _root_.Go.OpenSpec := { _root_.Go.OpenSpec.ofChange s with cond := some uptoSmall }

/-- 'astragallaw22.PlanOrders', WHERE WHAT IT READS IS OF BULK AT MOST 1048576: true; the input reads as it did. -/
def planOrdersUptoRow : OpenClaim := { program := "ytfjdggcemfebpaa", sum := "33b2c0fe0514608a2bde04cf431f5cf1f2912e3ac801819d869b315d2a7699f3", func := "astragal/astragallaw22.PlanOrders", spec := "planOrders", unfollowed := true, recurses := true, apart := false, narrowed := true }
def PlanOrdersUptoSaid : Prop := planOrdersUptoRow.holds Try.pinned (OpenSpec.upto planOrdersSpec)

/-- 'astragallaw21.CostNumbers', WHERE WHAT IT READS IS OF BULK AT MOST 1048576: true; the input reads as it did. -/
def costNumbersUptoRow : OpenClaim := { program := "ytfjdggcemfebpaa", sum := "33b2c0fe0514608a2bde04cf431f5cf1f2912e3ac801819d869b315d2a7699f3", func := "astragal/astragallaw21.CostNumbers", spec := "costNumbers", inPlace := ["math/bits.Add64"], unfollowed := true, recurses := true, apart := false, narrowed := true }
def CostNumbersUptoSaid : Prop := costNumbersUptoRow.holds Try.pinned (OpenSpec.upto costNumbersSpec)

/-- 'astragallaw21.CostRules', WHERE WHAT IT READS IS OF BULK AT MOST 1048576: true; the input reads as it did. -/
def costRulesUptoRow : OpenClaim := { program := "ytfjdggcemfebpaa", sum := "33b2c0fe0514608a2bde04cf431f5cf1f2912e3ac801819d869b315d2a7699f3", func := "astragal/astragallaw21.CostRules", spec := "costRules", inPlace := ["math/bits.Add64"], unfollowed := true, recurses := true, apart := false, narrowed := true }
def CostRulesUptoSaid : Prop := costRulesUptoRow.holds Try.pinned (OpenSpec.upto costRulesSpec)

/-- 'astragallaw21.CostNeeds', WHERE WHAT IT READS IS OF BULK AT MOST 1048576: true; the input reads as it did. -/
def costNeedsUptoRow : OpenClaim := { program := "ytfjdggcemfebpaa", sum := "33b2c0fe0514608a2bde04cf431f5cf1f2912e3ac801819d869b315d2a7699f3", func := "astragal/astragallaw21.CostNeeds", spec := "costNeeds", inPlace := ["math/bits.Add64"], unfollowed := true, recurses := true, apart := false, narrowed := true }
def CostNeedsUptoSaid : Prop := costNeedsUptoRow.holds Try.pinned (OpenSpec.upto costNeedsSpec)

end Rows
end Go.Proofs.Ytfjdggcemfebpaa

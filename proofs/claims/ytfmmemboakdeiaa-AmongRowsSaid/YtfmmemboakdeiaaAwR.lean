/- From Does to the walk that a row asks for. -/
import Derived.Test.YtfmmemboakdeiaaAwS
namespace Go.Proofs.YtfmmemboakdeiaaAw
open Go.RowKit
set_option linter.unusedVariables false

theorem Rel.none {N : Addr → Prop} {w : World} (h : ∀ a, N a → ∃ v, w.cell? a = some v) : Rel [] (fun _ => none) N w where
  obj id o h := by simp at h
  inj i j B c c' hi := by simp at hi
  live := h
  apart a id B c ha hid := by simp at hid

/-- The law is true, and nothing that was has turned. -/
theorem Does.walk {P : Program} {f : FuncId} {fn : Func} {body : Code} (hf : P.funcs[f]? = some fn) (hn : (fn.name == "runtime.NumGoroutine") = false) (hb : fn.body = some body) {args : List AV}
    (h : Does P f args [] (.ok (.d (.v (.bool true)))) []) (N : Addr → Prop) (w : World) (vals : Array Value) (hN : ∀ a, N a → ∃ v, w.cell? a = some v) (hA : RAs [] (fun _ => none) N w args vals) :
    Calls P f vals w fun e w' => e = .returned (.bool true) ∧ Below w.heap.size w w' := by
  rcases h (fun _ => none) N w vals (Rel.none hN) hA with ⟨_, h⟩ | ⟨v, w', h, _⟩
  · refine h.mono ?_
    rintro e w' ⟨φ', N', hR, hS, hE⟩
    refine ⟨?_, hS.os, hS.tape, hS.output, hS.size, fun k hk => hS.keep k hk fun id c hid => by simp at hid⟩
    cases e with
    | returned v => rw [RA.closed hE]
    | _ => exact hE.elim
  · rw [enter_run hf hn (by rw [hb]; rfl)] at h
    cases h
theorem RAs.of_closed (H : AHeap) (φ : Phi) (N : Addr → Prop) (w : World) (xs : List Value) (h : ∀ x ∈ xs, x.oneCell' = true) : RAs H φ N w (xs.map fun v => .d (.v v)) xs.toArray := by
  refine ⟨by simp, fun i h1 h2 => ?_⟩
  simp only [List.getElem_map, List.getElem_toArray]
  exact .d (.v _ (h _ (List.getElem_mem _)))
end Go.Proofs.YtfmmemboakdeiaaAw

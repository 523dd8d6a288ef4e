/- Lists of numbers and of bytes. -/
import Derived.Test.YtcdnbefcccdaeaaBase
namespace Go.Proofs.Ytcdnbefcccdaeaa
open Go.Proofs.YtcdnbefcccdaeaaAw Go.RowKit
set_option linter.unusedVariables false
def us (l : List Nat) : List (List D) := l.map fun (n : Nat) => [.v (.int .u64 (n : Int))]
def bys (l : List Nat) : List (List D) := l.map fun (n : Nat) => [.v (.int .u8 (n : Int))]
theorem us_len (l : List Nat) : (us l).length = l.length := by simp [us]
theorem bys_len (l : List Nat) : (bys l).length = l.length := by simp [bys]
theorem us_nil : us [] = [] := rfl
theorem bys_nil : bys [] = [] := rfl
theorem us_get (l : List Nat) (k : Nat) (h : k < l.length) : (us l)[k]? = some [.v (.int .u64 (l[k] : Int))] := by simp [us, h]
theorem bys_get (l : List Nat) (k : Nat) (h : k < l.length) : (bys l)[k]? = some [.v (.int .u8 (l[k] : Int))] := by simp [bys, h]
theorem us_snoc (l : List Nat) (n : Nat) : us l ++ [[.v (.int .u64 (n : Int))]] = us (l ++ [n]) := by simp [us]
theorem bys_snoc (l : List Nat) (n : Nat) : bys l ++ [[.v (.int .u8 (n : Int))]] = bys (l ++ [n]) := by simp [bys]
theorem bys_app (l m : List Nat) : bys l ++ bys m = bys (l ++ m) := by simp [bys]
theorem bys_set (l : List Nat) (k n : Nat) : (bys l).set k [.v (.int .u8 (n : Int))] = bys (l.set k n) := by simp [bys, List.map_set]
theorem bys_one (l : List Nat) : (∀ c ∈ bys l, c.length = 1) = True := eq_true fun c hc => by obtain ⟨x, _, rfl⟩ := List.mem_map.1 hc; rfl
theorem us_one (l : List Nat) : (∀ c ∈ us l, c.length = 1) = True := eq_true fun c hc => by obtain ⟨x, _, rfl⟩ := List.mem_map.1 hc; rfl
end Go.Proofs.Ytcdnbefcccdaeaa

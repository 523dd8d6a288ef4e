/- What a function leaves may be frozen afterwards. -/
import Derived.Test.YtcdnbefcccdaeaaAwF
import Derived.Test.YtcdnbefcccdaeaaAwG
namespace Go.Proofs.YtcdnbefcccdaeaaAw
open Go.RowKit
set_option linter.unusedVariables false
theorem CallsV.mono {P : Program} {f : FuncId} {vals : Array Value} {w : World} {R R' : Ending → World → Prop} (h : CallsV P f vals w R) (hR : ∀ e w', R e w' → R' e w') : CallsV P f vals w R' := by
  rcases h with ⟨h1, h2⟩ | ⟨v, w', h1, h2⟩
  · exact .inl ⟨h1, h2.mono hR⟩
  · exact .inr ⟨v, w', h1, hR _ _ h2⟩
def sOne (r : AV) : Nat → AV := fun t => if t = 0 then r else .top
/-- A result may be weakened: forgotten, frozen. -/
theorem Does.weak {P : Program} {f : FuncId} {args : List AV} {H H1 H2 : AHeap} {r : AV} {s' : Nat → AV} (h : Does P f args H (.ok r) H1) (hW : Weak H (sOne r) H1 s' H2) : Does P f args H (.ok (s' 0)) H2 := by
  intro φ N w vals hR hA
  refine (h φ N w vals hR hA).mono ?_
  rintro e w' ⟨φ1, N1, hR1, hS1, hE⟩
  cases e with
  | returned v =>
    have hI : Inv H φ N w 1 (sOne r) H1 φ1 N1 { tmps := #[v], defers := [] } w' := by
      refine ⟨hR1, fun t => ?_, hS1, rfl, rfl⟩
      unfold sOne
      by_cases ht : t = 0
      · subst ht; exact hE
      · rw [if_neg ht]; exact .top _
    obtain ⟨φ2, N2, hI2⟩ := hW.ok hR hI
    exact ⟨φ2, N2, hI2.rel, hI2.since, hI2.tmps 0⟩
  | panicked _ => exact hE.elim
  | outgrown => exact hE.elim
theorem Does.drop {P : Program} {f : FuncId} {args : List AV} {H T : AHeap} {r : AV} (h : Does P f args H (.ok r) (H ++ T)) : Does P f args H (.ok (frz (H ++ T) H.length r)) H := h.weak (Weak.drop H T _)
theorem frz_new (H : AHeap) (e : TypeId) (k v n : Nat) (es : List (List D)) (h : es.length = n) : frz (H ++ [.arr e k v es]) H.length (.sl H.length v 0 n) = .d (.list false es) := by
  rw [frz_sl, frz0_sl, if_neg (Nat.lt_irrefl _), get_snoc_self]
  simp only [if_true, List.drop_zero]
  rw [take_len _ _ h]
/-- A new array that is left may be taken for a list that never changes. -/
theorem Does.list {P : Program} {f : FuncId} {args : List AV} {H : AHeap} {e : TypeId} {k v n : Nat} {es : List (List D)} (h : Does P f args H (.ok (.sl H.length v 0 n)) (H ++ [.arr e k v es])) (hn : es.length = n) : Does P f args H (.ok (.d (.list false es))) H := by
  have := h.drop
  rwa [frz_new _ _ _ _ _ _ hn] at this
theorem AEnd.ret' {rs : List Tmp} {H H' T : AHeap} {s : Nat → AV} {r : AV} (e : H' = H ++ T) (h : r = ares rs fun t => frz H' H.length (s t)) : AEnd rs H (.ok r) H .ret s H' := by subst e; exact AEnd.ret h
end Go.Proofs.YtcdnbefcccdaeaaAw

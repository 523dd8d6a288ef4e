/- The law AmongFinds: what it does. -/
import Derived.Test.YtmhmnmokmamnoaaSame19
namespace Go.Proofs.Ytmhmnmokmamnoaa
open Go.Proofs.YtmhmnmokmamnoaaAw Go.RowKit
set_option linter.unusedVariables false
set_option linter.unusedSimpArgs false
set_option maxRecDepth 10000 in
set_option maxHeartbeats 1000000 in
theorem amongFinds_walk (keys : List Val) (spans : List Span) (v : Val) (hl : keys.length ≤ 9223372036854775807) (hm : spans.length ≤ 9223372036854775807) (hs : ∀ k ∈ keys, k.s.size ≤ 9223372036854775807) (H : AHeap) :
    Does Try.prog 3 [.d (.list false (keys.map Val.enc)), .d (.list false (spans.map encS)), v.av] H (.ok (bA true)) H := by
  refine Does.of_awp (hint := (fun _ => false)) Try.func3 (by kernel_rfl) rfl [6] (by kernel_rfl) (by decide) (by simp [Try.ntmps3]) ?_
  rw [Try.ntmps3]
  simp (implicitDefEqProofs := false) only [↓reduceIte, go_sem, oread, owrite, Nat.reduceAdd, Nat.reduceSub, Nat.reduceMul, Nat.reduceLT, Nat.reduceLeDiff, Nat.reduceEqDiff, Nat.reduceBEq, Int.reduceLE, Int.reduceLT, Int.reduceEq, Int.reduceNe, Int.reduceAdd, Int.reduceSub, Int.reduceMul, Int.reduceNeg, Int.reduceToNat, Int.reduceNatCast, reduceCtorEq, eq_self]
  refine KCall.ok (shown19_does _) ?_
  simp (implicitDefEqProofs := false) only [↓reduceIte, go_sem, oread, owrite, Nat.reduceAdd, Nat.reduceSub, Nat.reduceMul, Nat.reduceLT, Nat.reduceLeDiff, Nat.reduceEqDiff, Nat.reduceBEq, Int.reduceLE, Int.reduceLT, Int.reduceEq, Int.reduceNe, Int.reduceAdd, Int.reduceSub, Int.reduceMul, Int.reduceNeg, Int.reduceToNat, Int.reduceNatCast, reduceCtorEq, eq_self]
  refine awp_draw K.mixed (by kernel_rfl) ?_
  simp (implicitDefEqProofs := false) only [↓reduceIte, go_sem, oread, owrite, Nat.reduceAdd, Nat.reduceSub, Nat.reduceMul, Nat.reduceLT, Nat.reduceLeDiff, Nat.reduceEqDiff, Nat.reduceBEq, Int.reduceLE, Int.reduceLT, Int.reduceEq, Int.reduceNe, Int.reduceAdd, Int.reduceSub, Int.reduceMul, Int.reduceNeg, Int.reduceToNat, Int.reduceNatCast, reduceCtorEq, eq_self]
  refine KCall.ok (in_does keys v false _ hl) ?_
  simp (implicitDefEqProofs := false) only [↓reduceIte, go_sem, oread, owrite, Nat.reduceAdd, Nat.reduceSub, Nat.reduceMul, Nat.reduceLT, Nat.reduceLeDiff, Nat.reduceEqDiff, Nat.reduceBEq, Int.reduceLE, Int.reduceLT, Int.reduceEq, Int.reduceNe, Int.reduceAdd, Int.reduceSub, Int.reduceMul, Int.reduceNeg, Int.reduceToNat, Int.reduceNatCast, reduceCtorEq, eq_self]
  refine KCall.ok (in19_does keys v false _ hl hs) ?_
  simp (implicitDefEqProofs := false) only [↓reduceIte, go_sem, oread, owrite, Nat.reduceAdd, Nat.reduceSub, Nat.reduceMul, Nat.reduceLT, Nat.reduceLeDiff, Nat.reduceEqDiff, Nat.reduceBEq, Int.reduceLE, Int.reduceLT, Int.reduceEq, Int.reduceNe, Int.reduceAdd, Int.reduceSub, Int.reduceMul, Int.reduceNeg, Int.reduceToNat, Int.reduceNatCast, reduceCtorEq, eq_self]
  refine KCall.ok (within_does spans v false _ hm) ?_
  simp (implicitDefEqProofs := false) only [↓reduceIte, go_sem, oread, owrite, Nat.reduceAdd, Nat.reduceSub, Nat.reduceMul, Nat.reduceLT, Nat.reduceLeDiff, Nat.reduceEqDiff, Nat.reduceBEq, Int.reduceLE, Int.reduceLT, Int.reduceEq, Int.reduceNe, Int.reduceAdd, Int.reduceSub, Int.reduceMul, Int.reduceNeg, Int.reduceToNat, Int.reduceNatCast, reduceCtorEq, eq_self]
  refine KCall.ok (within19_does spans v false _ hm) ?_
  simp (implicitDefEqProofs := false) only [↓reduceIte, go_sem, oread, owrite, Nat.reduceAdd, Nat.reduceSub, Nat.reduceMul, Nat.reduceLT, Nat.reduceLeDiff, Nat.reduceEqDiff, Nat.reduceBEq, Int.reduceLE, Int.reduceLT, Int.reduceEq, Int.reduceNe, Int.reduceAdd, Int.reduceSub, Int.reduceMul, Int.reduceNeg, Int.reduceToNat, Int.reduceNatCast, reduceCtorEq, eq_self]
  refine AEnd.ret ?_
  simp (implicitDefEqProofs := false) only [↓reduceIte, go_sem, oread, owrite, Nat.reduceAdd, Nat.reduceSub, Nat.reduceMul, Nat.reduceLT, Nat.reduceLeDiff, Nat.reduceEqDiff, Nat.reduceBEq, Int.reduceLE, Int.reduceLT, Int.reduceEq, Int.reduceNe, Int.reduceAdd, Int.reduceSub, Int.reduceMul, Int.reduceNeg, Int.reduceToNat, Int.reduceNatCast, reduceCtorEq, eq_self]
theorem span_inv {ds : List D} (h : FitsL [.int .i64, .int .i64] ds) : ∃ s : Span, ds = encS s ∧ True := by
  obtain ⟨x, xs, rfl, hx, h⟩ := FitsL.cons_inv h
  obtain ⟨y, xs, rfl, hy, h⟩ := FitsL.cons_inv h
  cases FitsL.nil_inv h
  obtain ⟨a, rfl, _⟩ := Fits.i64_inv hx
  obtain ⟨b, rfl, _⟩ := Fits.i64_inv hy
  exact ⟨(a, b), rfl, trivial⟩
theorem argSpans {x : AV} (h : ArgOk Try.prog 23 x) : ∃ l : List Span, x = .d (.list false (l.map encS)) ∧ l.length ≤ 9223372036854775807 := by
  obtain ⟨d, rfl, hf⟩ := arg_one h K.agB23 (sh := .slice 16 [.int .i64, .int .i64]) (by kernel_rfl)
  obtain ⟨l, rfl, h1, h2⟩ := Fits.slice_inv hf
  obtain ⟨la, rfl, _⟩ := map_inv (enc := encS) (p := fun _ => True) fun e he => span_inv (h2 e he)
  refine ⟨la, rfl, ?_⟩
  simp at h1
  omega
theorem argKeys {x : AV} (h : ArgOk Try.prog 22 x) : ∃ l : List Val, x = .d (.list false (l.map Val.enc)) ∧ l.length ≤ 9223372036854775807 ∧ ∀ a ∈ l, a.Ok := by
  obtain ⟨d, rfl, hf⟩ := arg_one h K.agB22 (sh := .slice 32 shVal) (by kernel_rfl)
  obtain ⟨l, rfl, hl, hn⟩ := vals_inv hf
  exact ⟨l, rfl, by omega, hn⟩
theorem argVal19 {x : AV} (h : ArgOk Try.prog 25 x) : ∃ v : Val, x = v.av := by
  obtain ⟨ds, rfl, hf⟩ := arg_agg h K.agB25 (shs := shVal) (by kernel_rfl)
  obtain ⟨v, rfl, hv⟩ := val_inv hf
  exact ⟨v, rfl⟩
theorem amongFinds_does (x0 : AV) (h0 : ArgOk Try.prog 22 x0) (x1 : AV) (h1 : ArgOk Try.prog 23 x1) (x2 : AV) (h2 : ArgOk Try.prog 25 x2) : Does Try.prog 3 [x0, x1, x2] [] (.ok (.d (.v (.bool true)))) [] := by
  obtain ⟨keys, rfl, hl, hk⟩ := argKeys h0
  obtain ⟨spans, rfl, hm⟩ := argSpans h1
  obtain ⟨v, rfl⟩ := argVal19 h2
  exact amongFinds_walk keys spans v hl hm (fun k h => by have := (hk k h).s; omega) []
end Go.Proofs.Ytmhmnmokmamnoaa

/- among.Filter: what it does. The laws of layer 19: what they share over rows. Spans of keys that rise: plain facts. Which rows stay: plain facts. Spans held against spans; the document's Same (layer 19): what it does. The law AmongKeys: what it does. The law AmongTwice: what it does. The row of the law astragal/astragallaw19.AmongTwice, printed by a small program of this session. -/
import Derived.ChangeKeysEq
import Derived.Test.YtfmmemboakdeiaaRows
import Derived.WalkKit
import Derived.ProofKit
import Derived.OpenShut
import Derived.ShutString
import Derived.ChangeOld
import Derived.Below
import Derived.SizedLaws
import Derived.Carry
import Derived.Test.YtfmmemboakdeiaaM05
namespace Go.Proofs.Ytfmmemboakdeiaa
open Go.Proofs.YtfmmemboakdeiaaAw Go.RowKit
set_option linter.unusedVariables false
set_option linter.unusedSimpArgs false
set_option maxRecDepth 10000 in
theorem filter1_does (keys : List Val) (v : Val) (n2 : Bool) (id : Nat) (H : AHeap) (hb : H[id]? = some (.box 28 1 0 1 [.d (.list n2 (keys.map Val.enc))])) (hl : keys.length ≤ 9223372036854775807) : Does Try.prog 39 [v.av, .ptr id 0 0 0] H (.ok (bA (inP keys v))) H := by
  have hlt : id < H.length := (List.getElem?_eq_some_iff.1 hb).1
  refine Does.of_awp (hint := (fun _ => false)) Try.func39 (by kernel_rfl) rfl [3] (by kernel_rfl) (by decide) (by simp [Try.ntmps39]) ?_
  rw [Try.ntmps39]
  simp (implicitDefEqProofs := false) only [↓reduceIte, go_sem, oread, owrite, Nat.reduceAdd, Nat.reduceSub, Nat.reduceMul, Nat.reduceLT, Nat.reduceLeDiff, Nat.reduceEqDiff, Nat.reduceBEq, Int.reduceLE, Int.reduceLT, Int.reduceEq, Int.reduceNe, Int.reduceAdd, Int.reduceSub, Int.reduceMul, Int.reduceNeg, Int.reduceToNat, Int.reduceNatCast, reduceCtorEq, eq_self, hb, List.getElem?_append_left hlt]
  refine KCall.ok (in_does keys v n2 _ hl) ?_
  simp (implicitDefEqProofs := false) only [↓reduceIte, go_sem, oread, owrite, Nat.reduceAdd, Nat.reduceSub, Nat.reduceMul, Nat.reduceLT, Nat.reduceLeDiff, Nat.reduceEqDiff, Nat.reduceBEq, Int.reduceLE, Int.reduceLT, Int.reduceEq, Int.reduceNe, Int.reduceAdd, Int.reduceSub, Int.reduceMul, Int.reduceNeg, Int.reduceToNat, Int.reduceNatCast, reduceCtorEq, eq_self]
  refine AEnd.ret ?_
  simp (implicitDefEqProofs := false) only [↓reduceIte, go_sem, oread, owrite, Nat.reduceAdd, Nat.reduceSub, Nat.reduceMul, Nat.reduceLT, Nat.reduceLeDiff, Nat.reduceEqDiff, Nat.reduceBEq, Int.reduceLE, Int.reduceLT, Int.reduceEq, Int.reduceNe, Int.reduceAdd, Int.reduceSub, Int.reduceMul, Int.reduceNeg, Int.reduceToNat, Int.reduceNatCast, reduceCtorEq, eq_self]
set_option maxRecDepth 10000 in
theorem filter2_does (S : List Span) (v : Val) (n2 : Bool) (id : Nat) (H : AHeap) (hb : H[id]? = some (.box 30 1 0 1 [.d (.list n2 (S.map encS))])) (hl : S.length ≤ 9223372036854775807) : Does Try.prog 40 [v.av, .ptr id 0 0 0] H (.ok (bA (withinP S v))) H := by
  have hlt : id < H.length := (List.getElem?_eq_some_iff.1 hb).1
  refine Does.of_awp (hint := (fun _ => false)) Try.func40 (by kernel_rfl) rfl [3] (by kernel_rfl) (by decide) (by simp [Try.ntmps40]) ?_
  rw [Try.ntmps40]
  simp (implicitDefEqProofs := false) only [↓reduceIte, go_sem, oread, owrite, Nat.reduceAdd, Nat.reduceSub, Nat.reduceMul, Nat.reduceLT, Nat.reduceLeDiff, Nat.reduceEqDiff, Nat.reduceBEq, Int.reduceLE, Int.reduceLT, Int.reduceEq, Int.reduceNe, Int.reduceAdd, Int.reduceSub, Int.reduceMul, Int.reduceNeg, Int.reduceToNat, Int.reduceNatCast, reduceCtorEq, eq_self, hb, List.getElem?_append_left hlt]
  refine KCall.ok (within_does S v n2 _ hl) ?_
  simp (implicitDefEqProofs := false) only [↓reduceIte, go_sem, oread, owrite, Nat.reduceAdd, Nat.reduceSub, Nat.reduceMul, Nat.reduceLT, Nat.reduceLeDiff, Nat.reduceEqDiff, Nat.reduceBEq, Int.reduceLE, Int.reduceLT, Int.reduceEq, Int.reduceNe, Int.reduceAdd, Int.reduceSub, Int.reduceMul, Int.reduceNeg, Int.reduceToNat, Int.reduceNatCast, reduceCtorEq, eq_self]
  refine AEnd.ret ?_
  simp (implicitDefEqProofs := false) only [↓reduceIte, go_sem, oread, owrite, Nat.reduceAdd, Nat.reduceSub, Nat.reduceMul, Nat.reduceLT, Nat.reduceLeDiff, Nat.reduceEqDiff, Nat.reduceBEq, Int.reduceLE, Int.reduceLT, Int.reduceEq, Int.reduceNe, Int.reduceAdd, Int.reduceSub, Int.reduceMul, Int.reduceNeg, Int.reduceToNat, Int.reduceNatCast, reduceCtorEq, eq_self]
set_option maxRecDepth 10000 in
set_option maxHeartbeats 4000000 in
theorem filter_does (R : List (List Val)) (c : Int) (keys : List Val) (ranges : Bool) (n1 n2 : Bool) (hR : R.length ≤ 1000000000) (hr : ∀ r ∈ R, r.length ≤ 1000000000000) (hk : keys.length ≤ 1000000000000) (hok : ∀ k ∈ keys, I64 k.i) (H : AHeap) :
    Does Try.prog 21 [.d (.list n1 (rowsD R)), iA c, .d (.list n2 (keys.map Val.enc)), bA ranges] H (.ok (.d (.list false (rowsD (filterP R c keys ranges))))) H := by
  have hsl := spansK_le keys keys.length
  have hsp := fun H => spans_does keys n2 H hk hok
  have hst : ∀ v, staysP keys ranges v = if allNum keys && ranges then withinP (spansK keys keys.length) v else inP keys v := fun _ => rfl
  have hsr : spansR keys = if allNum keys then .tup [.d (.list false ((spansK keys keys.length).map encS)), bA true] else .tup [.d (.v (.slice none 0 0)), bA false] := rfl
  generalize spansK keys keys.length = S at *
  obtain ⟨x9, hx9⟩ : ∃ x9 : AV, spansR keys = .tup [x9, bA (allNum keys)] ∧ (allNum keys = true → x9 = .d (.list false (S.map encS))) ∧ (allNum keys = false → x9 = .d (.v (.slice none 0 0))) := by
    rw [hsr]
    cases allNum keys with
    | true => exact ⟨_, rfl, fun _ => rfl, fun h => (by cases h)⟩
    | false => exact ⟨_, rfl, fun h => (by cases h), fun _ => rfl⟩
  obtain ⟨hx9, hx9t, hx9f⟩ := hx9
  rw [hx9] at hsp
  clear hsr hx9
  generalize allNum keys = an at *
  obtain ⟨z, hz⟩ : ∃ z : D, x9 = .d z := by cases an with | true => exact ⟨_, hx9t rfl⟩ | false => exact ⟨_, hx9f rfl⟩
  subst hz
  obtain ⟨B1, hB1⟩ : ∃ B1 : AObj, B1 = .box 28 1 0 1 [.d (.list n2 (keys.map Val.enc))] := ⟨_, rfl⟩
  obtain ⟨B2, hB2⟩ : ∃ B2 : AObj, B2 = .box 30 1 0 1 [.d z] := ⟨_, rfl⟩
  obtain ⟨g, id, hg, hid, hcall⟩ : ∃ (g : FuncId) (id : Nat), (g = if an && ranges then 40 else 39) ∧ (id = if an && ranges then H.length + 1 else H.length) ∧
      ∀ v T, Does Try.prog g [v.av, .ptr id 0 0 0] (H ++ B1 :: B2 :: T) (.ok (bA (staysP keys ranges v))) (H ++ B1 :: B2 :: T) := by
    refine ⟨_, _, rfl, rfl, fun v T => ?_⟩
    rw [hst v]
    by_cases h : (an && ranges) = true
    · rw [if_pos h, if_pos h, if_pos h]
      have han : an = true := by cases an; simp at h; rfl
      have := hx9t han
      cases this
      exact filter2_does S v false _ _ (by rw [hB2]; simp) (by omega)
    · rw [if_neg h, if_neg h, if_neg h]
      exact filter1_does keys v n2 _ _ (by rw [hB1]; simp) (by omega)
  have hsl2 : (someP R c).length = R.length := by simp [someP]
  obtain ⟨fk, f0, fS, fl, fle⟩ : ∃ fk : Nat → List (List Val), fk 0 = [] ∧ (∀ k (h : k < R.length), fk (k + 1) = if staysP keys ranges (atP R[k] c) then fk k ++ [R[k]] else fk k) ∧ fk R.length = filterP R c keys ranges ∧ ∀ k, (fk k).length ≤ k := by
    refine ⟨fun k => filterP (R.take k) c keys ranges, rfl, fun k h => ?_, by show filterP (R.take R.length) c keys ranges = _; rw [List.take_length], fun k => Nat.le_trans (filterP_le _ c keys ranges) (by rw [List.length_take]; omega)⟩
    show filterP (R.take (k + 1)) c keys ranges = _
    rw [List.take_succ_eq_append_getElem h]
    exact filterP_snoc ..
  rw [← fl]
  clear hst fl
  generalize staysP keys ranges = st at *
  cases an
  all_goals
    cases ranges
    all_goals
      simp only [Bool.and_true, Bool.and_false, Bool.true_and, Bool.false_and, Bool.false_eq_true, if_true, if_false] at hg hid
      refine Does.of_awp (hint := (fun _ => false)) Try.func21 (by kernel_rfl) rfl [8] (by kernel_rfl) (by decide) (by simp [Try.ntmps21]) ?_
      rw [Try.ntmps21]
      simp (implicitDefEqProofs := false) only [↓reduceIte, go_sem, oread, owrite, Nat.reduceAdd, Nat.reduceSub, Nat.reduceMul, Nat.reduceLT, Nat.reduceLeDiff, Nat.reduceEqDiff, Nat.reduceBEq, Int.reduceLE, Int.reduceLT, Int.reduceEq, Int.reduceNe, Int.reduceAdd, Int.reduceSub, Int.reduceMul, Int.reduceNeg, Int.reduceToNat, Int.reduceNatCast, reduceCtorEq, eq_self]
      refine KCall.ok (hsp _) ?_
      simp (implicitDefEqProofs := false) only [↓reduceIte, go_sem, oread, owrite, Nat.reduceAdd, Nat.reduceSub, Nat.reduceMul, Nat.reduceLT, Nat.reduceLeDiff, Nat.reduceEqDiff, Nat.reduceBEq, Int.reduceLE, Int.reduceLT, Int.reduceEq, Int.reduceNe, Int.reduceAdd, Int.reduceSub, Int.reduceMul, Int.reduceNeg, Int.reduceToNat, Int.reduceNatCast, reduceCtorEq, eq_self, ← hB1, ← hB2]
      refine KCall.ok (some_does R c n1 (by omega) hr _) ?_
      simp (implicitDefEqProofs := false) only [↓reduceIte, go_sem, oread, owrite, Nat.reduceAdd, Nat.reduceSub, Nat.reduceMul, Nat.reduceLT, Nat.reduceLeDiff, Nat.reduceEqDiff, Nat.reduceBEq, Int.reduceLE, Int.reduceLT, Int.reduceEq, Int.reduceNe, Int.reduceAdd, Int.reduceSub, Int.reduceMul, Int.reduceNeg, Int.reduceToNat, Int.reduceNatCast, reduceCtorEq, eq_self, List.length_map, hsl2]
      refine awp_for (fun k s H' => H' = H ++ [B1, B2, .arr 28 1 (fk k).length (rowsD (fk k))] ∧ s 0 = .d (.list n1 (rowsD R)) ∧ s 9 = .fn g [.ptr id 0 0 0] ∧ s 12 = .sl (H.length + 2) (fk k).length 0 (fk k).length ∧ s 28 = .d (.list false ((someP R c).map Val.enc)) ∧ s 29 = iA R.length ∧ s 30 = iA k) R.length (by omega) (Weak.virt1 _ _ 12 28 1 (by decide) (by simp (implicitDefEqProofs := false) only [↓reduceIte, go_sem, oread, owrite, Nat.reduceAdd, Nat.reduceSub, Nat.reduceMul, Nat.reduceLT, Nat.reduceLeDiff, Nat.reduceEqDiff, Nat.reduceBEq, Int.reduceLE, Int.reduceLT, Int.reduceEq, Int.reduceNe, Int.reduceAdd, Int.reduceSub, Int.reduceMul, Int.reduceNeg, Int.reduceToNat, Int.reduceNatCast, reduceCtorEq, eq_self]) _) ?_ ?_ ?_
      · rw [f0]
        refine ⟨?_, ?_⟩
        · simp (implicitDefEqProofs := false) only [↓reduceIte, go_sem, oread, owrite, Nat.reduceAdd, Nat.reduceSub, Nat.reduceMul, Nat.reduceLT, Nat.reduceLeDiff, Nat.reduceEqDiff, Nat.reduceBEq, Int.reduceLE, Int.reduceLT, Int.reduceEq, Int.reduceNe, Int.reduceAdd, Int.reduceSub, Int.reduceMul, Int.reduceNeg, Int.reduceToNat, Int.reduceNatCast, reduceCtorEq, eq_self, List.length_nil]
          rfl
        · simp (implicitDefEqProofs := false) only [↓reduceIte, go_sem, oread, owrite, Nat.reduceAdd, Nat.reduceSub, Nat.reduceMul, Nat.reduceLT, Nat.reduceLeDiff, Nat.reduceEqDiff, Nat.reduceBEq, Int.reduceLE, Int.reduceLT, Int.reduceEq, Int.reduceNe, Int.reduceAdd, Int.reduceSub, Int.reduceMul, Int.reduceNeg, Int.reduceToNat, Int.reduceNatCast, reduceCtorEq, eq_self, hg, hid, List.length_nil]
      · rintro k s H' hk2 hw ⟨rfl, t0, t9, t12, t28, t29, t30⟩
        have hx := rowsD_get R k hk2
        have hv : ((someP R c).map Val.enc)[k]? = some (atP R[k] c).enc := by simp [someP, hk2]
        have hF := fS k hk2
        have hFl := fle k
        have hrl := hr _ (List.getElem_mem hk2)
        have hlt2 : k < (someP R c).length := by omega
        rw [hF]
        generalize fk k = F at *
        generalize R[k] = r at *
        generalize atP r c = v at *
        have q := rowsD_snoc F r
        have hcl := fun H => (SV.clone_does r false H hrl).list (by simp)
        simp only [Val.enc] at hv
        have hid3 : (id < H.length + 3) = True := eq_true (by omega)
        have hcv := hcall v [.arr 28 1 F.length (rowsD F), .box 26 3 0 1 [iA v.kind, iA v.i, sA v.s]]
        simp (implicitDefEqProofs := false) only [↓reduceIte, go_sem, oread, owrite, Nat.reduceAdd, Nat.reduceSub, Nat.reduceMul, Nat.reduceLT, Nat.reduceLeDiff, Nat.reduceEqDiff, Nat.reduceBEq, Int.reduceLE, Int.reduceLT, Int.reduceEq, Int.reduceNe, Int.reduceAdd, Int.reduceSub, Int.reduceMul, Int.reduceNeg, Int.reduceToNat, Int.reduceNatCast, reduceCtorEq, eq_self, t9, t28, t29, t30, hk2, hlt2, hv, List.length_map, hsl2]
        refine KCall.ok hcv ?_
        cases st v with
        | true =>
          simp (implicitDefEqProofs := false) only [↓reduceIte, go_sem, oread, owrite, Nat.reduceAdd, Nat.reduceSub, Nat.reduceMul, Nat.reduceLT, Nat.reduceLeDiff, Nat.reduceEqDiff, Nat.reduceBEq, Int.reduceLE, Int.reduceLT, Int.reduceEq, Int.reduceNe, Int.reduceAdd, Int.reduceSub, Int.reduceMul, Int.reduceNeg, Int.reduceToNat, Int.reduceNatCast, reduceCtorEq, eq_self, t0, t12, rowsD_len, hk2, hx]
          refine KCall.ok (hcl _) ?_
          simp (implicitDefEqProofs := false) only [↓reduceIte, go_sem, oread, owrite, Nat.reduceAdd, Nat.reduceSub, Nat.reduceMul, Nat.reduceLT, Nat.reduceLeDiff, Nat.reduceEqDiff, Nat.reduceBEq, Int.reduceLE, Int.reduceLT, Int.reduceEq, Int.reduceNe, Int.reduceAdd, Int.reduceSub, Int.reduceMul, Int.reduceNeg, Int.reduceToNat, Int.reduceNatCast, reduceCtorEq, eq_self, t12, rowsD_len, q]
          refine ⟨by omega, by omega, ?_⟩
          simp (implicitDefEqProofs := false) only [↓reduceIte, go_sem, oread, owrite, Nat.reduceAdd, Nat.reduceSub, Nat.reduceMul, Nat.reduceLT, Nat.reduceLeDiff, Nat.reduceEqDiff, Nat.reduceBEq, Int.reduceLE, Int.reduceLT, Int.reduceEq, Int.reduceNe, Int.reduceAdd, Int.reduceSub, Int.reduceMul, Int.reduceNeg, Int.reduceToNat, Int.reduceNatCast, reduceCtorEq, eq_self, t30]
          refine Rnd.cut [B1, B2, .arr 28 1 (F.length + 1) (rowsD (F ++ [r]))] [.box 26 3 0 1 [iA v.kind, iA v.i, sA v.s]] 3 rfl rfl (by rw [hB1, hB2]; simp (implicitDefEqProofs := false) only [↓reduceIte, go_sem, oread, owrite, Nat.reduceAdd, Nat.reduceSub, Nat.reduceMul, Nat.reduceLT, Nat.reduceLeDiff, Nat.reduceEqDiff, Nat.reduceBEq, Int.reduceLE, Int.reduceLT, Int.reduceEq, Int.reduceNe, Int.reduceAdd, Int.reduceSub, Int.reduceMul, Int.reduceNeg, Int.reduceToNat, Int.reduceNatCast, reduceCtorEq, eq_self]) ?_
          refine ⟨by simp (implicitDefEqProofs := false) only [↓reduceIte, go_sem, oread, owrite, Nat.reduceAdd, Nat.reduceSub, Nat.reduceMul, Nat.reduceLT, Nat.reduceLeDiff, Nat.reduceEqDiff, Nat.reduceBEq, Int.reduceLE, Int.reduceLT, Int.reduceEq, Int.reduceNe, Int.reduceAdd, Int.reduceSub, Int.reduceMul, Int.reduceNeg, Int.reduceToNat, Int.reduceNatCast, reduceCtorEq, eq_self, List.length_append, List.length_singleton], ?_⟩
          simp (implicitDefEqProofs := false) only [↓reduceIte, go_sem, oread, owrite, Nat.reduceAdd, Nat.reduceSub, Nat.reduceMul, Nat.reduceLT, Nat.reduceLeDiff, Nat.reduceEqDiff, Nat.reduceBEq, Int.reduceLE, Int.reduceLT, Int.reduceEq, Int.reduceNe, Int.reduceAdd, Int.reduceSub, Int.reduceMul, Int.reduceNeg, Int.reduceToNat, Int.reduceNatCast, reduceCtorEq, eq_self, t0, t9, t28, t29, hw, hid3, List.length_append, List.length_singleton]
        | false =>
          simp (implicitDefEqProofs := false) only [↓reduceIte, go_sem, oread, owrite, Nat.reduceAdd, Nat.reduceSub, Nat.reduceMul, Nat.reduceLT, Nat.reduceLeDiff, Nat.reduceEqDiff, Nat.reduceBEq, Int.reduceLE, Int.reduceLT, Int.reduceEq, Int.reduceNe, Int.reduceAdd, Int.reduceSub, Int.reduceMul, Int.reduceNeg, Int.reduceToNat, Int.reduceNatCast, reduceCtorEq, eq_self, t30]
          refine Rnd.cut [B1, B2, .arr 28 1 F.length (rowsD F)] [.box 26 3 0 1 [iA v.kind, iA v.i, sA v.s]] 3 rfl rfl (by rw [hB1, hB2]; simp (implicitDefEqProofs := false) only [↓reduceIte, go_sem, oread, owrite, Nat.reduceAdd, Nat.reduceSub, Nat.reduceMul, Nat.reduceLT, Nat.reduceLeDiff, Nat.reduceEqDiff, Nat.reduceBEq, Int.reduceLE, Int.reduceLT, Int.reduceEq, Int.reduceNe, Int.reduceAdd, Int.reduceSub, Int.reduceMul, Int.reduceNeg, Int.reduceToNat, Int.reduceNatCast, reduceCtorEq, eq_self]) ?_
          refine ⟨rfl, ?_⟩
          simp (implicitDefEqProofs := false) only [↓reduceIte, go_sem, oread, owrite, Nat.reduceAdd, Nat.reduceSub, Nat.reduceMul, Nat.reduceLT, Nat.reduceLeDiff, Nat.reduceEqDiff, Nat.reduceBEq, Int.reduceLE, Int.reduceLT, Int.reduceEq, Int.reduceNe, Int.reduceAdd, Int.reduceSub, Int.reduceMul, Int.reduceNeg, Int.reduceToNat, Int.reduceNatCast, reduceCtorEq, eq_self, t0, t9, t12, t28, t29, hw, hid3]
      · rintro s H' ⟨rfl, t0, t9, t12, t28, t29, t30⟩
        simp (implicitDefEqProofs := false) only [↓reduceIte, go_sem, oread, owrite, Nat.reduceAdd, Nat.reduceSub, Nat.reduceMul, Nat.reduceLT, Nat.reduceLeDiff, Nat.reduceEqDiff, Nat.reduceBEq, Int.reduceLE, Int.reduceLT, Int.reduceEq, Int.reduceNe, Int.reduceAdd, Int.reduceSub, Int.reduceMul, Int.reduceNeg, Int.reduceToNat, Int.reduceNatCast, reduceCtorEq, eq_self, t0, t12, t29, t30]
        refine AEnd.ret ?_
        simp (implicitDefEqProofs := false) only [↓reduceIte, go_sem, oread, owrite, Nat.reduceAdd, Nat.reduceSub, Nat.reduceMul, Nat.reduceLT, Nat.reduceLeDiff, Nat.reduceEqDiff, Nat.reduceBEq, Int.reduceLE, Int.reduceLT, Int.reduceEq, Int.reduceNe, Int.reduceAdd, Int.reduceSub, Int.reduceMul, Int.reduceNeg, Int.reduceToNat, Int.reduceNatCast, reduceCtorEq, eq_self, take_len2 (rowsD (fk R.length)) _ (rowsD_len _)]
end Go.Proofs.Ytfmmemboakdeiaa
namespace Go.Proofs.Ytfmmemboakdeiaa
open Go.Proofs.YtfmmemboakdeiaaAw Go.RowKit
set_option linter.unusedVariables false
set_option linter.unusedSimpArgs false
def few19P (R : List (List Val)) : List (List Val) := (R.take 200).map fun r => r.take 9
theorem enc3r (l : List Val) : (∀ c ∈ l.map Val.enc, c.length = 3) = True := eq_true fun c hc => by obtain ⟨a, _, rfl⟩ := List.mem_map.1 hc; rfl
set_option maxRecDepth 10000 in
set_option maxHeartbeats 1000000 in
theorem few19_does (R : List (List Val)) (nn : Bool) (hR : R.length ≤ 140737488351232) (hr : ∀ r ∈ R, r.length ≤ 140737488351232) (H : AHeap) :
    Does Try.prog 13 [.d (.list nn (rowsD R))] H (.ok (.d (.list false (rowsD (few19P R))))) H := by
  refine Does.of_awp (hint := (fun _ => false)) Try.func13 (by kernel_rfl) rfl [2] (by kernel_rfl) (by decide) (by simp [Try.ntmps13]) ?_
  rw [Try.ntmps13]
  simp (implicitDefEqProofs := false) only [↓reduceIte, go_sem, oread, owrite, Nat.reduceAdd, Nat.reduceSub, Nat.reduceMul, Nat.reduceLT, Nat.reduceLeDiff, Nat.reduceEqDiff, Nat.reduceBEq, Int.reduceLE, Int.reduceLT, Int.reduceEq, Int.reduceNe, Int.reduceAdd, Int.reduceSub, Int.reduceMul, Int.reduceNeg, Int.reduceToNat, Int.reduceNatCast, reduceCtorEq, eq_self]
  refine awp_for3 (fun k s H' => H' = H ++ [.arr 28 1 k (rowsD ((R.take k).map fun r => r.take 9))] ∧ s 0 = .d (.list nn (rowsD R)) ∧ s 3 = .sl H.length k 0 k ∧ s 4 = iA k) (min R.length 200) (by omega) (Weak.virt1 _ _ 3 28 1 (by decide) (by simp (implicitDefEqProofs := false) only [↓reduceIte, go_sem, oread, owrite, Nat.reduceAdd, Nat.reduceSub, Nat.reduceMul, Nat.reduceLT, Nat.reduceLeDiff, Nat.reduceEqDiff, Nat.reduceBEq, Int.reduceLE, Int.reduceLT, Int.reduceEq, Int.reduceNe, Int.reduceAdd, Int.reduceSub, Int.reduceMul, Int.reduceNeg, Int.reduceToNat, Int.reduceNatCast, reduceCtorEq, eq_self]) _) ?_ ?_ ?_
  · refine ⟨rfl, ?_⟩
    simp (implicitDefEqProofs := false) only [↓reduceIte, go_sem, oread, owrite, Nat.reduceAdd, Nat.reduceSub, Nat.reduceMul, Nat.reduceLT, Nat.reduceLeDiff, Nat.reduceEqDiff, Nat.reduceBEq, Int.reduceLE, Int.reduceLT, Int.reduceEq, Int.reduceNe, Int.reduceAdd, Int.reduceSub, Int.reduceMul, Int.reduceNeg, Int.reduceToNat, Int.reduceNatCast, reduceCtorEq, eq_self]
  · rintro k s H' hk hw ⟨rfl, t0, t3, t4⟩
    have hk1 : k < R.length := by omega
    have hk2 : ((k : Int) < 200) = True := eq_true (by omega)
    have hx := rowsD_get R k hk1
    have e1 : (R.take (k + 1)).map (fun r => r.take 9) = (R.take k).map (fun r => r.take 9) ++ [R[k].take 9] := by rw [List.take_succ_eq_append_getElem hk1, List.map_append]; rfl
    have el : ((R.take k).map (fun r => r.take 9)).length = k := by simp; omega
    have hrl := hr _ (List.getElem_mem hk1)
    rw [e1]
    generalize (R.take k).map (fun r => r.take 9) = O at *
    generalize R[k] = r at *
    by_cases h9 : 9 < r.length
    · have h9' : ((9 : Int) < (r.length : Int)) = True := eq_true (by omega)
      have q := rowsD_snoc O (r.take 9)
      rw [List.map_take] at q
      simp (implicitDefEqProofs := false) only [↓reduceIte, go_sem, oread, owrite, Nat.reduceAdd, Nat.reduceSub, Nat.reduceMul, Nat.reduceLT, Nat.reduceLeDiff, Nat.reduceEqDiff, Nat.reduceBEq, Int.reduceLE, Int.reduceLT, Int.reduceEq, Int.reduceNe, Int.reduceAdd, Int.reduceSub, Int.reduceMul, Int.reduceNeg, Int.reduceToNat, Int.reduceNatCast, reduceCtorEq, eq_self, t0, t3, t4, rowsD_len, hk1, hk2, hx, List.length_map, h9', enc3r, el, q]
      refine ⟨by omega, by omega, by omega, Rnd.same ⟨rfl, ?_⟩⟩
      simp (implicitDefEqProofs := false) only [↓reduceIte, go_sem, oread, owrite, Nat.reduceAdd, Nat.reduceSub, Nat.reduceMul, Nat.reduceLT, Nat.reduceLeDiff, Nat.reduceEqDiff, Nat.reduceBEq, Int.reduceLE, Int.reduceLT, Int.reduceEq, Int.reduceNe, Int.reduceAdd, Int.reduceSub, Int.reduceMul, Int.reduceNeg, Int.reduceToNat, Int.reduceNatCast, reduceCtorEq, eq_self, t0, hw]
    · have h9' : ((9 : Int) < (r.length : Int)) = False := eq_false (by omega)
      have q := rowsD_snoc O r
      rw [show r.take 9 = r from List.take_of_length_le (by omega)]
      simp (implicitDefEqProofs := false) only [↓reduceIte, go_sem, oread, owrite, Nat.reduceAdd, Nat.reduceSub, Nat.reduceMul, Nat.reduceLT, Nat.reduceLeDiff, Nat.reduceEqDiff, Nat.reduceBEq, Int.reduceLE, Int.reduceLT, Int.reduceEq, Int.reduceNe, Int.reduceAdd, Int.reduceSub, Int.reduceMul, Int.reduceNeg, Int.reduceToNat, Int.reduceNatCast, reduceCtorEq, eq_self, t0, t3, t4, rowsD_len, hk1, hk2, hx, List.length_map, h9', el, q]
      refine ⟨by omega, by omega, Rnd.same ⟨rfl, ?_⟩⟩
      simp (implicitDefEqProofs := false) only [↓reduceIte, go_sem, oread, owrite, Nat.reduceAdd, Nat.reduceSub, Nat.reduceMul, Nat.reduceLT, Nat.reduceLeDiff, Nat.reduceEqDiff, Nat.reduceBEq, Int.reduceLE, Int.reduceLT, Int.reduceEq, Int.reduceNe, Int.reduceAdd, Int.reduceSub, Int.reduceMul, Int.reduceNeg, Int.reduceToNat, Int.reduceNatCast, reduceCtorEq, eq_self, t0, hw]
  · rintro s H' ⟨rfl, t0, t3, t4⟩
    have ht : R.take (min R.length 200) = R.take 200 := by
      by_cases h : R.length ≤ 200
      · rw [Nat.min_eq_left h, List.take_length, List.take_of_length_le h]
      · rw [Nat.min_eq_right (by omega)]
    have hl : (few19P R).length = min R.length 200 := by simp [few19P]; omega
    rw [show (R.take (min R.length 200)).map (fun r => r.take 9) = few19P R from by rw [ht]; rfl]
    generalize few19P R = F at *
    generalize hm : min R.length 200 = m at *
    by_cases h : m < R.length
    · have h1 : ((m : Int) < (R.length : Int)) = True := eq_true (by omega)
      have h2 : ((m : Int) < 200) = False := eq_false (by omega)
      simp (implicitDefEqProofs := false) only [↓reduceIte, go_sem, oread, owrite, Nat.reduceAdd, Nat.reduceSub, Nat.reduceMul, Nat.reduceLT, Nat.reduceLeDiff, Nat.reduceEqDiff, Nat.reduceBEq, Int.reduceLE, Int.reduceLT, Int.reduceEq, Int.reduceNe, Int.reduceAdd, Int.reduceSub, Int.reduceMul, Int.reduceNeg, Int.reduceToNat, Int.reduceNatCast, reduceCtorEq, eq_self, t0, t3, t4, rowsD_len, h, h1, h2]
      refine AEnd.ret ?_
      simp (implicitDefEqProofs := false) only [↓reduceIte, go_sem, oread, owrite, Nat.reduceAdd, Nat.reduceSub, Nat.reduceMul, Nat.reduceLT, Nat.reduceLeDiff, Nat.reduceEqDiff, Nat.reduceBEq, Int.reduceLE, Int.reduceLT, Int.reduceEq, Int.reduceNe, Int.reduceAdd, Int.reduceSub, Int.reduceMul, Int.reduceNeg, Int.reduceToNat, Int.reduceNatCast, reduceCtorEq, eq_self, take_len2 (rowsD F) m (by rw [rowsD_len, hl])]
    · have h1 : ((m : Int) < (R.length : Int)) = False := eq_false (by omega)
      simp (implicitDefEqProofs := false) only [↓reduceIte, go_sem, oread, owrite, Nat.reduceAdd, Nat.reduceSub, Nat.reduceMul, Nat.reduceLT, Nat.reduceLeDiff, Nat.reduceEqDiff, Nat.reduceBEq, Int.reduceLE, Int.reduceLT, Int.reduceEq, Int.reduceNe, Int.reduceAdd, Int.reduceSub, Int.reduceMul, Int.reduceNeg, Int.reduceToNat, Int.reduceNatCast, reduceCtorEq, eq_self, t0, t3, t4, rowsD_len, h, h1]
      refine AEnd.ret ?_
      simp (implicitDefEqProofs := false) only [↓reduceIte, go_sem, oread, owrite, Nat.reduceAdd, Nat.reduceSub, Nat.reduceMul, Nat.reduceLT, Nat.reduceLeDiff, Nat.reduceEqDiff, Nat.reduceBEq, Int.reduceLE, Int.reduceLT, Int.reduceEq, Int.reduceNe, Int.reduceAdd, Int.reduceSub, Int.reduceMul, Int.reduceNeg, Int.reduceToNat, Int.reduceNatCast, reduceCtorEq, eq_self, take_len2 (rowsD F) m (by rw [rowsD_len, hl])]
/-! ### Arguments -/
theorem rows_inv {b c : Nat} {d : D} (hc : 0 < c) (h : Fits (.slice b [.slice c shVal]) d) : ∃ R : List (List Val), d = .list false (rowsD R) ∧ R.length * b ≤ 140737488351232 ∧ ∀ r ∈ R, r.length * c ≤ 140737488351232 ∧ ∀ v ∈ r, v.Ok := by
  obtain ⟨l, rfl, h1, h2⟩ := Fits.slice_inv h
  obtain ⟨la, rfl, h3⟩ := map_inv (enc := rowD) (p := fun r => r.length * c ≤ 140737488351232 ∧ ∀ v ∈ r, v.Ok) fun e he => by
    obtain ⟨x, xs, rfl, hx, h⟩ := FitsL.cons_inv (h2 e he)
    cases FitsL.nil_inv h
    obtain ⟨r, rfl, hl, hr⟩ := vals_inv hx
    exact ⟨r, rfl, hl, hr⟩
  exact ⟨la, rfl, by simpa using h1, h3⟩
structure RowsOk (R : List (List Val)) : Prop where
  len : R.length ≤ 100000000000000
  row : ∀ r ∈ R, r.length ≤ 100000000000000
  val : ∀ r ∈ R, ∀ v ∈ r, v.Ok
theorem argRows19 {x : AV} (h : ArgOk Try.prog 24 x) : ∃ R : List (List Val), x = .d (.list false (rowsD R)) ∧ RowsOk R := by
  obtain ⟨d, rfl, hf⟩ := arg_one h K.agB24 (sh := .slice 24 [.slice 32 shVal]) (by kernel_rfl)
  obtain ⟨R, rfl, hl, hn⟩ := rows_inv (by decide) hf
  exact ⟨R, rfl, by omega, fun r hr => by have := (hn r hr).1; omega, fun r hr => (hn r hr).2⟩
theorem argAtoms19 {x : AV} (h : ArgOk Try.prog 36 x) : ∃ l : List Atom, x = .d (.list false (l.map Atom.enc)) ∧ l.length ≤ 1000000000000000 ∧ ∀ a ∈ l, a.Ok := by
  obtain ⟨d, rfl, hf⟩ := arg_one h K.agB36 (sh := .slice 48 shAtom) (by kernel_rfl)
  obtain ⟨l, rfl, hl, hn⟩ := atoms_inv hf
  exact ⟨l, rfl, by omega, hn⟩
theorem argInt19 {x : AV} (h : ArgOk Try.prog 3 x) : ∃ n : Int, x = iA n ∧ I64 n := by
  obtain ⟨d, rfl, hf⟩ := arg_one h K.agB3 (sh := .int .i64) (by kernel_rfl)
  obtain ⟨n, rfl, hn⟩ := Fits.i64_inv hf
  exact ⟨n, rfl, hn⟩
theorem few19_len (R : List (List Val)) : (few19P R).length ≤ 200 := by simp [few19P]; omega
theorem few19_row {R : List (List Val)} {r : List Val} (h : r ∈ few19P R) : r.length ≤ 9 ∧ ∃ r' ∈ R, ∀ v ∈ r, v ∈ r' := by
  obtain ⟨r', hr, rfl⟩ := List.mem_map.1 h
  exact ⟨by simp; omega, r', List.mem_of_mem_take hr, fun v hv => List.mem_of_mem_take hv⟩
theorem few19_ok {R : List (List Val)} (h : RowsOk R) : RowsOk (few19P R) := by
  refine ⟨by have := few19_len R; omega, fun r hr => by have := (few19_row hr).1; omega, fun r hr v hv => ?_⟩
  obtain ⟨_, r', hr', hs⟩ := few19_row hr
  exact h.val r' hr' v (hs v hv)
/-! ### Keys, plainly -/
theorem atP_mem {r : List Val} {c : Int} (h : ¬ (atP r c).kind = 0) : atP r c ∈ r := by
  unfold atP at h ⊢
  split
  · rename_i h1; rw [if_pos h1] at h; exact absurd rfl h
  · rename_i h1
    rw [if_neg h1] at h
    rcases Nat.lt_or_ge c.toNat r.length with h2 | h2
    · rw [List.getD_eq_getElem?_getD, List.getElem?_eq_getElem h2]; exact List.getElem_mem h2
    · rw [List.getD_eq_getElem?_getD, List.getElem?_eq_none h2] at h; exact absurd rfl h
theorem keyF_iff {R : List (List Val)} {c : Int} {l : List Atom} {v : Val} : v ∈ keyF R c l ↔ ∃ r ∈ R, (¬ (atP r c).kind = 0 ∧ allP l r = true) ∧ atP r c = v := by
  unfold keyF
  simp only [List.mem_map, List.mem_filter, Bool.and_eq_true, Bool.not_eq_true', decide_eq_false_iff_not]
  exact ⟨fun ⟨r, ⟨h1, h2⟩, h3⟩ => ⟨r, h1, h2, h3⟩, fun ⟨r, h1, h2, h3⟩ => ⟨r, ⟨h1, h2⟩, h3⟩⟩
theorem keys_kind {R : List (List Val)} {c : Int} {l : List Atom} {v : Val} (h : v ∈ keysP R c l) : ¬ v.kind = 0 := by
  obtain ⟨r, _, ⟨h1, _⟩, rfl⟩ := keyF_iff.1 (words_mem cmpV_tri h)
  exact h1
theorem keys_ok {R : List (List Val)} (hR : RowsOk R) {c : Int} {l : List Atom} {v : Val} (h : v ∈ keysP R c l) : v.Ok := by
  obtain ⟨r, h0, ⟨h1, _⟩, rfl⟩ := keyF_iff.1 (words_mem cmpV_tri h)
  exact hR.val r h0 _ (atP_mem h1)
theorem keys_has {R : List (List Val)} {c : Int} {l : List Atom} {v : Val} (h : v ∈ keyF R c l) : ∃ y ∈ keysP R c l, cmpV v y = 0 := words_has cmpV_tri h
theorem keys_rise (R : List (List Val)) (c : Int) (l : List Atom) : (keysP R c l).Pairwise (fun x y => cmpV x y < 0) := (words_rise cmpV_tri (keyF R c l)).imp fun h => by simpa [ltT] using h
theorem allP_nil (r : List Val) : allP [] r = true := rfl
theorem keyF_app {R R' : List (List Val)} {c : Int} {v : Val} : v ∈ keyF (R ++ R') c [] ↔ v ∈ keyF R c [] ∨ v ∈ keyF R' c [] := by
  simp only [keyF_iff, List.mem_append]
  constructor
  · rintro ⟨r, h | h, g⟩
    · exact .inl ⟨r, h, g⟩
    · exact .inr ⟨r, h, g⟩
  · rintro (⟨r, h, g⟩ | ⟨r, h, g⟩)
    · exact ⟨r, .inl h, g⟩
    · exact ⟨r, .inr h, g⟩
theorem keyF_all {R : List (List Val)} {c : Int} {l : List Atom} {v : Val} (h : v ∈ keyF R c l) : v ∈ keyF R c [] := by
  obtain ⟨r, h0, ⟨h1, _⟩, h2⟩ := keyF_iff.1 h
  exact keyF_iff.2 ⟨r, h0, ⟨h1, rfl⟩, h2⟩
theorem inP_of {K : List Val} {v : Val} (h0 : ¬ v.kind = 0) (h : ∃ y ∈ K, cmpV v y = 0) : inP K v = true := by
  obtain ⟨y, hy, hc⟩ := h
  unfold inP
  simp only [h0, decide_false, Bool.not_false, Bool.true_and, List.any_eq_true, decide_eq_true_eq]
  exact ⟨y, hy, (cmpV_tri.zero v y).1 hc⟩
/-- Distinct ones, each like one of others, are no more than these. -/
theorem distinct_le {X : List Val} : ∀ {Y : List Val}, X.Pairwise (fun x y => cmpV x y < 0) → (∀ x ∈ X, ∃ y ∈ Y, cmpV x y = 0) → X.length ≤ Y.length := by
  induction X with
  | nil => intros; simp
  | cons x X ih =>
    intro Y hp hy
    obtain ⟨y, hyY, hxy⟩ := hy x (by simp)
    obtain ⟨Y1, Y2, rfl⟩ := List.append_of_mem hyY
    rw [List.pairwise_cons] at hp
    have := ih (Y := Y1 ++ Y2) hp.2 fun x' hx' => by
      obtain ⟨y', hy', hc⟩ := hy x' (by simp [hx'])
      refine ⟨y', ?_, hc⟩
      simp only [List.mem_append, List.mem_cons] at hy' ⊢
      rcases hy' with h | h | h
      · exact .inl h
      · exfalso
        subst h
        have h1 := hp.1 x' hx'
        rcases cmpV_tri.ntrans x y' x' h1 with h2 | h2
        · omega
        · have := (cmpV_tri.zero x' y').1 hc
          omega
      · exact .inr h
    simp at this ⊢
    omega
theorem keys_le (R : List (List Val)) (c : Int) (l : List Atom) : (keysP R c l).length ≤ (keysP R c []).length :=
  distinct_le (keys_rise R c l) fun x hx => keys_has (keyF_all (words_mem cmpV_tri hx))
theorem keys_app_le (R R' : List (List Val)) (c : Int) : (keysP (R ++ R') c []).length ≤ (keysP R' c []).length + (keysP R c []).length := by
  rw [← List.length_append]
  refine distinct_le (keys_rise _ c []) fun x hx => ?_
  rcases keyF_app.1 (words_mem cmpV_tri hx) with h | h
  · obtain ⟨y, h1, h2⟩ := keys_has h
    exact ⟨y, by simp [h1], h2⟩
  · obtain ⟨y, h1, h2⟩ := keys_has h
    exact ⟨y, by simp [h1], h2⟩
theorem keys_inL {R R' : List (List Val)} {c : Int} {l : List Atom} {v : Val} (h : v ∈ keysP R c l) : inP (keysP (R ++ R') c []) v = true :=
  inP_of (keys_kind h) (keys_has (keyF_app.2 (.inl (keyF_all (words_mem cmpV_tri h)))))
theorem keys_inR {R R' : List (List Val)} {c : Int} {l : List Atom} {v : Val} (h : v ∈ keysP R' c l) : inP (keysP (R ++ R') c []) v = true :=
  inP_of (keys_kind h) (keys_has (keyF_app.2 (.inr (keyF_all (words_mem cmpV_tri h)))))
theorem keysP_len (R : List (List Val)) (c : Int) (l : List Atom) : (keysP R c l).length ≤ R.length := Nat.le_trans (wordsP_len _ _) (keyF_le R c l)
end Go.Proofs.Ytfmmemboakdeiaa
namespace Go.Proofs.Ytfmmemboakdeiaa
open Go.Proofs.YtfmmemboakdeiaaAw Go.RowKit
set_option linter.unusedVariables false
set_option linter.unusedSimpArgs false
theorem longer_last (L : List Span) (a e n : Int) : longer (L ++ [(a, e)]) n = L ++ [(a, n)] := by
  unfold longer
  simp
structure SpanI (keys : List Val) (k : Nat) (L : List Span) (a e : Int) : Prop where
  eq : spansK keys k = L ++ [(a, e)]
  le : a ≤ e
  all : ∀ s ∈ L, s.1 ≤ s.2 ∧ s.2 + 1 < a
  gap : L.Pairwise fun s t => s.2 + 1 < t.1
  has : ∀ n : Int, (∃ s ∈ L ++ [(a, e)], s.1 ≤ n ∧ n ≤ s.2) ↔ ∃ i v, i < k ∧ keys[i]? = some v ∧ v.i = n
theorem spanI (keys : List Val) (hr : ∀ i v w, keys[i]? = some v → keys[i + 1]? = some w → v.i < w.i) : ∀ k v, keys[k]? = some v → ∃ L a, SpanI keys (k + 1) L a v.i := by
  intro k
  induction k with
  | zero =>
    intro v hv
    refine ⟨[], v.i, by rw [spansK_succ hv]; rfl, Int.le_refl _, fun s hs => by simp at hs, .nil, fun n => ?_⟩
    constructor
    · rintro ⟨s, hs, h1, h2⟩
      simp at hs
      subst hs
      exact ⟨0, v, by omega, hv, by simp only at h1 h2; omega⟩
    · rintro ⟨i, w, hi, hw, rfl⟩
      have : i = 0 := by omega
      subst this
      rw [hv] at hw; cases hw
      exact ⟨(v.i, v.i), by simp, Int.le_refl _, Int.le_refl _⟩
  | succ k ih =>
    intro v hv
    have hlt := (List.getElem?_eq_some_iff.1 hv).1
    obtain ⟨u, hu⟩ : ∃ u, keys[k]? = some u := ⟨_, List.getElem?_eq_getElem (by omega)⟩
    obtain ⟨L, a, hI⟩ := ih u hu
    have huv := hr k u v hu hv
    have hs := spansK_succ hv
    rw [if_neg (by omega), show k + 1 - 1 = k from rfl, hu, hI.eq] at hs
    have hspl : ∀ n : Int, (∃ i w, i < k + 1 + 1 ∧ keys[i]? = some w ∧ w.i = n) ↔ ((∃ i w, i < k + 1 ∧ keys[i]? = some w ∧ w.i = n) ∨ v.i = n) := by
      intro n
      constructor
      · rintro ⟨i, w, hi, hw, h⟩
        by_cases h1 : i < k + 1
        · exact .inl ⟨i, w, h1, hw, h⟩
        · have : i = k + 1 := by omega
          subst this
          rw [hv] at hw; cases hw
          exact .inr h
      · rintro (⟨i, w, hi, hw, h⟩ | h)
        · exact ⟨i, w, by omega, hw, h⟩
        · exact ⟨k + 1, v, by omega, hv, h⟩
    by_cases hj : v.i - 1 = u.i
    · have e : stepS (L ++ [(a, u.i)]) (some u) v.i = L ++ [(a, v.i)] := by
        simp only [stepS, joins, huv, hj, decide_true, Bool.and_self, if_true]
        exact longer_last L a u.i v.i
      rw [e] at hs
      refine ⟨L, a, hs, by have := hI.le; omega, hI.all, hI.gap, fun n => ?_⟩
      rw [hspl, ← hI.has n]
      simp only [List.mem_append, List.mem_singleton]
      constructor
      · rintro ⟨s, hs | rfl, h1, h2⟩
        · exact .inl ⟨s, .inl hs, h1, h2⟩
        · simp only at h1 h2
          by_cases hn : n ≤ u.i
          · exact .inl ⟨_, .inr rfl, h1, hn⟩
          · exact .inr (by omega)
      · rintro (⟨s, hs | rfl, h1, h2⟩ | h)
        · exact ⟨s, .inl hs, h1, h2⟩
        · exact ⟨_, .inr rfl, h1, by simp only at h2 ⊢; omega⟩
        · exact ⟨_, .inr rfl, by have := hI.le; simp only; omega, by simp only; omega⟩
    · have e : stepS (L ++ [(a, u.i)]) (some u) v.i = (L ++ [(a, u.i)]) ++ [(v.i, v.i)] := by
        simp [stepS, joins, hj]
      rw [e] at hs
      refine ⟨L ++ [(a, u.i)], v.i, hs, Int.le_refl _, ?_, ?_, fun n => ?_⟩
      · intro s hs
        rcases List.mem_append.1 hs with h | h
        · have := hI.all s h; have := hI.le; omega
        · simp at h; subst h; exact ⟨hI.le, by simp only; omega⟩
      · rw [List.pairwise_append]
        exact ⟨hI.gap, List.pairwise_singleton _ _, fun s h t ht => by simp at ht; subst ht; exact (hI.all s h).2⟩
      · rw [hspl, ← hI.has n]
        simp only [List.mem_append, List.mem_singleton]
        constructor
        · rintro ⟨s, h | rfl, h1, h2⟩
          · exact .inl ⟨s, h, h1, h2⟩
          · exact .inr (by simp only at h1 h2; omega)
        · rintro (⟨s, h, h1, h2⟩ | h)
          · exact ⟨s, .inl h, h1, h2⟩
          · exact ⟨_, .inr rfl, by simp only; omega, by simp only; omega⟩
end Go.Proofs.Ytfmmemboakdeiaa
namespace Go.Proofs.Ytfmmemboakdeiaa
open Go.Proofs.YtfmmemboakdeiaaAw Go.RowKit
set_option linter.unusedVariables false
set_option linter.unusedSimpArgs false
theorem cmpV_num {a b : Val} (ha : a.kind = 1) : cmpV a b = 0 ↔ b.kind = 1 ∧ a.i = b.i := by
  have h1 := cmpV_eq a b
  have h2 := @cmpI_zero a.kind b.kind
  have h3 : cmpK a.kind a b = cmpI a.i b.i := by unfold cmpK; rw [if_pos ha]
  have h4 := @cmpI_zero a.i b.i
  by_cases h : cmpI a.kind b.kind = 0
  · rw [if_neg (fun h0 => h0 h), h3] at h1
    rw [h1, h4, ← h2.1 h]
    exact ⟨fun h => ⟨ha, h⟩, fun h => h.2⟩
  · rw [if_pos h] at h1
    rw [h1]
    exact ⟨fun h0 => absurd h0 h, fun h0 => absurd (h2.2 (by rw [ha, h0.1])) h⟩
theorem cmpV_num_lt {a b : Val} (ha : a.kind = 1) (hb : b.kind = 1) (h : cmpV a b < 0) : a.i < b.i := by
  have h1 := cmpV_eq a b
  have h2 := @cmpI_zero a.kind b.kind
  have h3 : cmpK a.kind a b = cmpI a.i b.i := by unfold cmpK; rw [if_pos ha]
  have h4 := @cmpI_neg a.i b.i
  rw [if_neg (fun h0 => h0 (h2.2 (by rw [ha, hb]))), h3] at h1
  exact h4.1 (by omega)
theorem within_in {K : List Val} (hr : K.Pairwise fun x y => cmpV x y < 0) (hn : allNum K = true) (v : Val) : withinP (spansK K K.length) v = inP K v := by
  have hk : ∀ k ∈ K, k.kind = 1 := fun k hk => by
    unfold allNum at hn
    rw [List.all_eq_true] at hn
    simpa using hn k hk
  have hrise : ∀ i v w, K[i]? = some v → K[i + 1]? = some w → v.i < w.i := by
    intro i v w hv hw
    obtain ⟨h1, e1⟩ := List.getElem?_eq_some_iff.1 hv
    obtain ⟨h2, e2⟩ := List.getElem?_eq_some_iff.1 hw
    have := List.pairwise_iff_getElem.1 hr i (i + 1) h1 h2 (by omega)
    rw [e1, e2] at this
    exact cmpV_num_lt (hk v (List.mem_of_getElem? hv)) (hk w (List.mem_of_getElem? hw)) this
  have hiff : ∀ n : Int, (∃ s ∈ spansK K K.length, s.1 ≤ n ∧ n ≤ s.2) ↔ ∃ k ∈ K, k.i = n := by
    intro n
    rcases Nat.eq_zero_or_pos K.length with h0 | h0
    · have hK0 : K = [] := List.length_eq_zero_iff.1 h0
      subst hK0
      simp [spansK]
    · obtain ⟨u, hu⟩ : ∃ u, K[K.length - 1]? = some u := ⟨_, List.getElem?_eq_getElem (by omega)⟩
      obtain ⟨L, a, hI⟩ := spanI K hrise (K.length - 1) u hu
      have e1 : K.length - 1 + 1 = K.length := by omega
      rw [e1] at hI
      rw [hI.eq, hI.has n]
      constructor
      · rintro ⟨i, w, _, hw, rfl⟩; exact ⟨w, List.mem_of_getElem? hw, rfl⟩
      · rintro ⟨k, hk, rfl⟩
        obtain ⟨i, hi, e⟩ := List.mem_iff_getElem.1 hk
        exact ⟨i, k, hi, by rw [List.getElem?_eq_getElem hi, e], rfl⟩
  unfold withinP inP
  rw [Bool.eq_iff_iff]
  simp only [Bool.and_eq_true, List.any_eq_true, decide_eq_true_eq, Bool.not_eq_true', decide_eq_false_iff_not]
  rw [hiff v.i]
  constructor
  · rintro ⟨h1, k, h2, h3⟩
    exact ⟨by omega, k, h2, (cmpV_num (hk k h2)).2 ⟨h1, h3⟩⟩
  · rintro ⟨h1, k, h2, h3⟩
    have := (cmpV_num (hk k h2)).1 h3
    exact ⟨this.1, k, h2, this.2⟩
theorem stays_in (R : List (List Val)) (c : Int) (l : List Atom) (ranges : Bool) (v : Val) : staysP (keysP R c l) ranges v = inP (keysP R c l) v := by
  unfold staysP
  split
  · rename_i h
    rw [Bool.and_eq_true] at h
    exact within_in (keys_rise R c l) h.1 v
  · rfl
theorem filterP_idem (R : List (List Val)) (c : Int) (K : List Val) (ranges : Bool) : filterP (filterP R c K ranges) c K ranges = filterP R c K ranges := by
  unfold filterP
  rw [List.filter_filter]
  congr 1
  funext r
  exact Bool.and_self _
theorem filterP_none (R : List (List Val)) (c : Int) (ranges : Bool) : filterP R c [] ranges = [] := by
  unfold filterP
  rw [List.filter_eq_nil_iff]
  intro r _
  unfold staysP
  cases ranges <;> simp [inP, withinP, spansK]
def isSome (R : List (List Val)) (c : Int) : Nat := R.countP fun r => !decide ((atP r c).kind = 0)
theorem filterP_own (R : List (List Val)) (c : Int) (ranges : Bool) : (filterP R c (keysP R c []) ranges).length = isSome R c := by
  unfold filterP isSome
  rw [← List.countP_eq_length_filter]
  refine List.countP_congr fun r hr => ?_
  rw [stays_in]
  by_cases h : (atP r c).kind = 0
  · simp [inP, h]
  · have := inP_of h (keys_has (keyF_iff.2 ⟨r, hr, ⟨h, rfl⟩, rfl⟩) : ∃ y ∈ keysP R c [], cmpV (atP r c) y = 0)
    simp [this, h]
theorem isSome_snoc (R : List (List Val)) (r : List Val) (c : Int) : isSome (R ++ [r]) c = if (atP r c).kind = 0 then isSome R c else isSome R c + 1 := by
  unfold isSome
  rw [List.countP_append]
  by_cases h : (atP r c).kind = 0 <;> simp [h]
theorem isSome_le (R : List (List Val)) (c : Int) : isSome R c ≤ R.length := List.countP_le_length
theorem filterP_mem {R : List (List Val)} {c : Int} {K : List Val} {ranges : Bool} {r : List Val} (h : r ∈ filterP R c K ranges) : r ∈ R := (List.mem_filter.1 h).1
/-! ### Spans, as a list -/
def spansL (keys : List Val) : List Span := if allNum keys then spansK keys keys.length else []
theorem spansL_does {f : FuncId} (keys : List Val) (args : List AV) (H : AHeap) (h : Does Try.prog f args H (.ok (spansR keys)) H) : Does Try.prog f args H (.ok (.tup [.d (.list false ((spansL keys).map encS)), bA (allNum keys)])) H := by
  unfold spansR at h
  unfold spansL
  by_cases hn : allNum keys = true
  · rw [if_pos hn] at h ⊢; rw [hn]; exact h
  · rw [if_neg hn] at h ⊢
    rw [show allNum keys = false by simpa using hn]
    exact h.subT (.cons .nil (.cons (.refl _) .nil))
theorem spansL_len (keys : List Val) : (spansL keys).length ≤ keys.length := by
  unfold spansL
  split
  · exact spansK_le keys keys.length
  · simp
end Go.Proofs.Ytfmmemboakdeiaa
namespace Go.Proofs.Ytfmmemboakdeiaa
open Go.Proofs.YtfmmemboakdeiaaAw Go.RowKit
set_option linter.unusedVariables false
set_option linter.unusedSimpArgs false
theorem eqI_step {P : Program} {w : World} {d c i : Nat} {e : TypeId} {xs ys : Array Value} {is : List Nat} {a b : Value} {q r : Bool} (ha : (part e xs (i * c)).run P w = .ok a w) (hb : (part e ys (i * c)).run P w = .ok b w) (he : (Op.equalIn d e a b).run P w = .ok q w)
    (hr : (Op.eqItems d e c xs ys is).run P w = .ok r w) : (Op.eqItems d e c xs ys (i :: is)).run P w = .ok (q && r) w := by
  simp only [Op.eqItems, Sem.run_bind, ha, hb, he, Result.andThen_ok]
  cases q
  · simp
  · simpa using hr
theorem eqI_span (w : World) (a b a' b' : Int) : (Op.eqItems 9999 2 1 #[.int .i64 a, .int .i64 b] #[.int .i64 a', .int .i64 b'] [0, 1]).run Try.prog w = .ok ((a == a') && ((b == b') && true)) w :=
  eqI_step (part_one K.agB2 rfl) (part_one K.agB2 rfl) (run_equalIn_int w 9998 _ _ _ a a' (UK.get K.UK2))
    (eqI_step (part_one K.agB2 rfl) (part_one K.agB2 rfl) (run_equalIn_int w 9998 _ _ _ b b' (UK.get K.UK2)) rfl)
theorem eqA_span (w : World) (a b a' b' : Int) : (Op.equalIn 10000 33 (.agg #[.int .i64 a, .int .i64 b]) (.agg #[.int .i64 a', .int .i64 b'])).run Try.prog w = .ok ((a == a') && ((b == b') && true)) w := by
  obtain ⟨i, hi⟩ := info_of_underlying (P := Try.prog) (UK.get K.UK2)
  rw [run_equalIn_array w 9999 _ _ (t := 33) (e := 2) (n := 2) (by kernel_rfl) hi, show (Try.prog).cellsOf 2 = 1 from by kernel_rfl]
  exact eqI_span w a b a' b'
theorem pb_span (a b a' b' : Int) : PureBin Try.prog .eql 33 (.agg #[.int .i64 a, .int .i64 b]) (.agg #[.int .i64 a', .int .i64 b']) (.bool ((a == a') && ((b == b') && true))) ∧
    PureBin Try.prog .neq 33 (.agg #[.int .i64 a, .int .i64 b]) (.agg #[.int .i64 a', .int .i64 b']) (.bool !((a == a') && ((b == b') && true))) := by
  refine ⟨fun x y w => ?_, fun x y w => ?_⟩
  · rw [Sem.run_bind, run_eqGuard_agg _ _ _ _ _ _ _ (by kernel_rfl)]
    simp only [Result.andThen_ok, run_eql_struct]
    rw [eqA_span]
    rfl
  · rw [Sem.run_bind, run_eqGuard_agg _ _ _ _ _ _ _ (by kernel_rfl)]
    simp only [Result.andThen_ok, run_neq_struct]
    rw [eqA_span]
    rfl
theorem span_eq (s t : Span) : ((s.1 == t.1) && ((s.2 == t.2) && true)) = decide (s = t) := by
  rw [Bool.eq_iff_iff]
  cases s; cases t
  simp
theorem bk_neq_span (s t : Span) (K : Value → Prop) : binK Try.prog .neq 33 (.agg #[.int .i64 s.1, .int .i64 s.2]) (.agg #[.int .i64 t.1, .int .i64 t.2]) K = K (.bool !(decide (s = t))) := by
  rw [← span_eq]; exact binK_agg (pb_span ..).2 K
set_option maxRecDepth 10000 in
set_option maxHeartbeats 1000000 in
theorem same19_does (l m : List Span) (n1 n2 : Bool) (H : AHeap) (hl : l.length ≤ 9223372036854775807) :
    Does Try.prog 19 [.d (.list n1 (l.map encS)), .d (.list n2 (m.map encS))] H (.ok (bA (decide (l = m)))) H := by
  refine Does.of_awp (hint := (fun _ => false)) Try.func19 (by kernel_rfl) rfl [4] (by kernel_rfl) (by decide) (by simp [Try.ntmps19]) ?_
  rw [Try.ntmps19]
  simp (implicitDefEqProofs := false) only [↓reduceIte, go_sem, oread, owrite, Nat.reduceAdd, Nat.reduceSub, Nat.reduceMul, Nat.reduceLT, Nat.reduceLeDiff, Nat.reduceEqDiff, Nat.reduceBEq, Int.reduceLE, Int.reduceLT, Int.reduceEq, Int.reduceNe, Int.reduceAdd, Int.reduceSub, Int.reduceMul, Int.reduceNeg, Int.reduceToNat, Int.reduceNatCast, reduceCtorEq, eq_self]
  by_cases hlm : l.length = m.length
  · refine awp_F (by simp (implicitDefEqProofs := false) only [↓reduceIte, go_sem, oread, owrite, Nat.reduceAdd, Nat.reduceSub, Nat.reduceMul, Nat.reduceLT, Nat.reduceLeDiff, Nat.reduceEqDiff, Nat.reduceBEq, Int.reduceLE, Int.reduceLT, Int.reduceEq, Int.reduceNe, Int.reduceAdd, Int.reduceSub, Int.reduceMul, Int.reduceNeg, Int.reduceToNat, Int.reduceNatCast, reduceCtorEq, eq_self, hlm]) ?_
    simp (implicitDefEqProofs := false) only [↓reduceIte, go_sem, oread, owrite, Nat.reduceAdd, Nat.reduceSub, Nat.reduceMul, Nat.reduceLT, Nat.reduceLeDiff, Nat.reduceEqDiff, Nat.reduceBEq, Int.reduceLE, Int.reduceLT, Int.reduceEq, Int.reduceNe, Int.reduceAdd, Int.reduceSub, Int.reduceMul, Int.reduceNeg, Int.reduceToNat, Int.reduceNatCast, reduceCtorEq, eq_self]
    refine awp_for3 (fun k s H' => H' = H ∧ l.take k = m.take k ∧ s 0 = .d (.list n1 (l.map encS)) ∧ s 1 = .d (.list n2 (m.map encS)) ∧ s 5 = iA k) l.length (by omega) (Weak.refl _ _) ?_ ?_ ?_
    · simp (implicitDefEqProofs := false) only [↓reduceIte, go_sem, oread, owrite, Nat.reduceAdd, Nat.reduceSub, Nat.reduceMul, Nat.reduceLT, Nat.reduceLeDiff, Nat.reduceEqDiff, Nat.reduceBEq, Int.reduceLE, Int.reduceLT, Int.reduceEq, Int.reduceNe, Int.reduceAdd, Int.reduceSub, Int.reduceMul, Int.reduceNeg, Int.reduceToNat, Int.reduceNatCast, reduceCtorEq, eq_self, List.take_zero]
    · rintro k s H' hk hw ⟨rfl, hp, h0, h1, h5⟩
      have hx := List.getElem?_eq_getElem hk
      have hy := List.getElem?_eq_getElem (show k < m.length by omega)
      have e1 := List.take_succ_eq_append_getElem hk
      have e2 := List.take_succ_eq_append_getElem (show k < m.length by omega)
      have e3 : ∀ (g : l = m), l[k] = m[k]'(by omega) := by intro g; subst g; rfl
      generalize l[k] = x at hx e1 e3
      generalize m[k]'(by omega) = y at hy e2 e3
      simp (implicitDefEqProofs := false) only [↓reduceIte, go_sem, oread, owrite, Nat.reduceAdd, Nat.reduceSub, Nat.reduceMul, Nat.reduceLT, Nat.reduceLeDiff, Nat.reduceEqDiff, Nat.reduceBEq, Int.reduceLE, Int.reduceLT, Int.reduceEq, Int.reduceNe, Int.reduceAdd, Int.reduceSub, Int.reduceMul, Int.reduceNeg, Int.reduceToNat, Int.reduceNatCast, reduceCtorEq, eq_self, h0, h1, h5, hk]
      refine awp_draw K.mixed (by kernel_rfl) ?_
      simp (implicitDefEqProofs := false) only [↓reduceIte, go_sem, oread, owrite, Nat.reduceAdd, Nat.reduceSub, Nat.reduceMul, Nat.reduceLT, Nat.reduceLeDiff, Nat.reduceEqDiff, Nat.reduceBEq, Int.reduceLE, Int.reduceLT, Int.reduceEq, Int.reduceNe, Int.reduceAdd, Int.reduceSub, Int.reduceMul, Int.reduceNeg, Int.reduceToNat, Int.reduceNatCast, reduceCtorEq, eq_self, h0, h1, h5, hx, hy, encS, bk_neq_span]
      by_cases hxy : x = y
      · refine awp_F (by simp (implicitDefEqProofs := false) only [↓reduceIte, go_sem, oread, owrite, Nat.reduceAdd, Nat.reduceSub, Nat.reduceMul, Nat.reduceLT, Nat.reduceLeDiff, Nat.reduceEqDiff, Nat.reduceBEq, Int.reduceLE, Int.reduceLT, Int.reduceEq, Int.reduceNe, Int.reduceAdd, Int.reduceSub, Int.reduceMul, Int.reduceNeg, Int.reduceToNat, Int.reduceNatCast, reduceCtorEq, eq_self, hxy]) ?_
        simp (implicitDefEqProofs := false) only [↓reduceIte, go_sem, oread, owrite, Nat.reduceAdd, Nat.reduceSub, Nat.reduceMul, Nat.reduceLT, Nat.reduceLeDiff, Nat.reduceEqDiff, Nat.reduceBEq, Int.reduceLE, Int.reduceLT, Int.reduceEq, Int.reduceNe, Int.reduceAdd, Int.reduceSub, Int.reduceMul, Int.reduceNeg, Int.reduceToNat, Int.reduceNatCast, reduceCtorEq, eq_self, h5]
        refine Rnd.same ⟨rfl, by rw [e1, e2, hp, hxy], ?_⟩
        simp (implicitDefEqProofs := false) only [↓reduceIte, go_sem, oread, owrite, Nat.reduceAdd, Nat.reduceSub, Nat.reduceMul, Nat.reduceLT, Nat.reduceLeDiff, Nat.reduceEqDiff, Nat.reduceBEq, Int.reduceLE, Int.reduceLT, Int.reduceEq, Int.reduceNe, Int.reduceAdd, Int.reduceSub, Int.reduceMul, Int.reduceNeg, Int.reduceToNat, Int.reduceNatCast, reduceCtorEq, eq_self, h0, h1, h5, hw]
      · refine awp_T (by simp (implicitDefEqProofs := false) only [↓reduceIte, go_sem, oread, owrite, Nat.reduceAdd, Nat.reduceSub, Nat.reduceMul, Nat.reduceLT, Nat.reduceLeDiff, Nat.reduceEqDiff, Nat.reduceBEq, Int.reduceLE, Int.reduceLT, Int.reduceEq, Int.reduceNe, Int.reduceAdd, Int.reduceSub, Int.reduceMul, Int.reduceNeg, Int.reduceToNat, Int.reduceNatCast, reduceCtorEq, eq_self, hxy]) ?_
        simp (implicitDefEqProofs := false) only [↓reduceIte, go_sem, oread, owrite, Nat.reduceAdd, Nat.reduceSub, Nat.reduceMul, Nat.reduceLT, Nat.reduceLeDiff, Nat.reduceEqDiff, Nat.reduceBEq, Int.reduceLE, Int.reduceLT, Int.reduceEq, Int.reduceNe, Int.reduceAdd, Int.reduceSub, Int.reduceMul, Int.reduceNeg, Int.reduceToNat, Int.reduceNatCast, reduceCtorEq, eq_self]
        refine AEnd.ret0 ?_
        simp (implicitDefEqProofs := false) only [↓reduceIte, go_sem, oread, owrite, Nat.reduceAdd, Nat.reduceSub, Nat.reduceMul, Nat.reduceLT, Nat.reduceLeDiff, Nat.reduceEqDiff, Nat.reduceBEq, Int.reduceLE, Int.reduceLT, Int.reduceEq, Int.reduceNe, Int.reduceAdd, Int.reduceSub, Int.reduceMul, Int.reduceNeg, Int.reduceToNat, Int.reduceNatCast, reduceCtorEq, eq_self, show ¬ l = m from fun g => hxy (e3 g)]
    · rintro s H' ⟨rfl, hp, h0, h1, h5⟩
      simp (implicitDefEqProofs := false) only [↓reduceIte, go_sem, oread, owrite, Nat.reduceAdd, Nat.reduceSub, Nat.reduceMul, Nat.reduceLT, Nat.reduceLeDiff, Nat.reduceEqDiff, Nat.reduceBEq, Int.reduceLE, Int.reduceLT, Int.reduceEq, Int.reduceNe, Int.reduceAdd, Int.reduceSub, Int.reduceMul, Int.reduceNeg, Int.reduceToNat, Int.reduceNatCast, reduceCtorEq, eq_self, h0, h1, h5]
      refine AEnd.ret0 ?_
      rw [List.take_length, hlm, List.take_length] at hp
      simp (implicitDefEqProofs := false) only [↓reduceIte, go_sem, oread, owrite, Nat.reduceAdd, Nat.reduceSub, Nat.reduceMul, Nat.reduceLT, Nat.reduceLeDiff, Nat.reduceEqDiff, Nat.reduceBEq, Int.reduceLE, Int.reduceLT, Int.reduceEq, Int.reduceNe, Int.reduceAdd, Int.reduceSub, Int.reduceMul, Int.reduceNeg, Int.reduceToNat, Int.reduceNatCast, reduceCtorEq, eq_self, hp]
  · simp (implicitDefEqProofs := false) only [↓reduceIte, go_sem, oread, owrite, Nat.reduceAdd, Nat.reduceSub, Nat.reduceMul, Nat.reduceLT, Nat.reduceLeDiff, Nat.reduceEqDiff, Nat.reduceBEq, Int.reduceLE, Int.reduceLT, Int.reduceEq, Int.reduceNe, Int.reduceAdd, Int.reduceSub, Int.reduceMul, Int.reduceNeg, Int.reduceToNat, Int.reduceNatCast, reduceCtorEq, eq_self, hlm, show ((l.length : Int) = (m.length : Int)) = False from eq_false (by omega)]
    refine AEnd.ret0 ?_
    simp (implicitDefEqProofs := false) only [↓reduceIte, go_sem, oread, owrite, Nat.reduceAdd, Nat.reduceSub, Nat.reduceMul, Nat.reduceLT, Nat.reduceLeDiff, Nat.reduceEqDiff, Nat.reduceBEq, Int.reduceLE, Int.reduceLT, Int.reduceEq, Int.reduceNe, Int.reduceAdd, Int.reduceSub, Int.reduceMul, Int.reduceNeg, Int.reduceToNat, Int.reduceNatCast, reduceCtorEq, eq_self, show ¬ l = m from fun g => hlm (by rw [g])]
set_option maxRecDepth 10000 in
theorem num19_does (n : Int) (H : AHeap) : Does Try.prog 9 [iA n] H (.ok (.agg [iA 1, iA n, sA ⟨#[]⟩])) H := by
  refine Does.of_awpC (hint := fun _ => false) Try.func9 (by kernel_rfl) rfl [.cell 2 26] (by kernel_rfl) (by simp [Try.ntmps9]) ?_
  rw [Try.ntmps9]
  simp (implicitDefEqProofs := false) only [↓reduceIte, go_sem, oread, owrite, Nat.reduceAdd, Nat.reduceSub, Nat.reduceMul, Nat.reduceLT, Nat.reduceLeDiff, Nat.reduceEqDiff, Nat.reduceBEq, Int.reduceLE, Int.reduceLT, Int.reduceEq, Int.reduceNe, Int.reduceAdd, Int.reduceSub, Int.reduceMul, Int.reduceNeg, Int.reduceToNat, Int.reduceNatCast, reduceCtorEq, eq_self]
  refine AEndC.ret ?_
  simp (implicitDefEqProofs := false) only [↓reduceIte, go_sem, oread, owrite, Nat.reduceAdd, Nat.reduceSub, Nat.reduceMul, Nat.reduceLT, Nat.reduceLeDiff, Nat.reduceEqDiff, Nat.reduceBEq, Int.reduceLE, Int.reduceLT, Int.reduceEq, Int.reduceNe, Int.reduceAdd, Int.reduceSub, Int.reduceMul, Int.reduceNeg, Int.reduceToNat, Int.reduceNatCast, reduceCtorEq, eq_self, resAll, resAV]
def keys19 : List Val := [⟨1, 3, ⟨#[]⟩⟩, ⟨1, 4, ⟨#[]⟩⟩, ⟨1, 5, ⟨#[]⟩⟩, ⟨1, 9, ⟨#[]⟩⟩]
theorem keys19_spans : spansR keys19 = .tup [.d (.list false ([(3, 5), (9, 9)].map encS)), bA true] := by
  have h1 : allNum keys19 = true := by decide
  have h2 : spansK keys19 keys19.length = [(3, 5), (9, 9)] := by decide
  simp only [spansR, h1, h2, if_true]
set_option maxRecDepth 10000 in
set_option maxHeartbeats 1000000 in
theorem shown19_does (H : AHeap) : Does Try.prog 8 [] H (.ok (bA true)) H := by
  refine Does.of_awp (hint := (fun _ => false)) Try.func8 (by kernel_rfl) rfl [0] (by kernel_rfl) (by decide) (by simp [Try.ntmps8]) ?_
  rw [Try.ntmps8]
  simp (implicitDefEqProofs := false) only [↓reduceIte, go_sem, oread, owrite, Nat.reduceAdd, Nat.reduceSub, Nat.reduceMul, Nat.reduceLT, Nat.reduceLeDiff, Nat.reduceEqDiff, Nat.reduceBEq, Int.reduceLE, Int.reduceLT, Int.reduceEq, Int.reduceNe, Int.reduceAdd, Int.reduceSub, Int.reduceMul, Int.reduceNeg, Int.reduceToNat, Int.reduceNatCast, reduceCtorEq, eq_self]
  refine KCall.ok (num19_does _ _) ?_
  simp (implicitDefEqProofs := false) only [↓reduceIte, go_sem, oread, owrite, Nat.reduceAdd, Nat.reduceSub, Nat.reduceMul, Nat.reduceLT, Nat.reduceLeDiff, Nat.reduceEqDiff, Nat.reduceBEq, Int.reduceLE, Int.reduceLT, Int.reduceEq, Int.reduceNe, Int.reduceAdd, Int.reduceSub, Int.reduceMul, Int.reduceNeg, Int.reduceToNat, Int.reduceNatCast, reduceCtorEq, eq_self]
  refine KCall.ok (num19_does _ _) ?_
  simp (implicitDefEqProofs := false) only [↓reduceIte, go_sem, oread, owrite, Nat.reduceAdd, Nat.reduceSub, Nat.reduceMul, Nat.reduceLT, Nat.reduceLeDiff, Nat.reduceEqDiff, Nat.reduceBEq, Int.reduceLE, Int.reduceLT, Int.reduceEq, Int.reduceNe, Int.reduceAdd, Int.reduceSub, Int.reduceMul, Int.reduceNeg, Int.reduceToNat, Int.reduceNatCast, reduceCtorEq, eq_self]
  refine KCall.ok (num19_does _ _) ?_
  simp (implicitDefEqProofs := false) only [↓reduceIte, go_sem, oread, owrite, Nat.reduceAdd, Nat.reduceSub, Nat.reduceMul, Nat.reduceLT, Nat.reduceLeDiff, Nat.reduceEqDiff, Nat.reduceBEq, Int.reduceLE, Int.reduceLT, Int.reduceEq, Int.reduceNe, Int.reduceAdd, Int.reduceSub, Int.reduceMul, Int.reduceNeg, Int.reduceToNat, Int.reduceNatCast, reduceCtorEq, eq_self]
  refine KCall.ok (num19_does _ _) ?_
  simp (implicitDefEqProofs := false) only [↓reduceIte, go_sem, oread, owrite, Nat.reduceAdd, Nat.reduceSub, Nat.reduceMul, Nat.reduceLT, Nat.reduceLeDiff, Nat.reduceEqDiff, Nat.reduceBEq, Int.reduceLE, Int.reduceLT, Int.reduceEq, Int.reduceNe, Int.reduceAdd, Int.reduceSub, Int.reduceMul, Int.reduceNeg, Int.reduceToNat, Int.reduceNatCast, reduceCtorEq, eq_self]
  refine KCall.ok (spans_does keys19 true H (by decide) (by unfold I64; decide)) ?_
  rw [keys19_spans]
  simp (implicitDefEqProofs := false) only [↓reduceIte, go_sem, oread, owrite, Nat.reduceAdd, Nat.reduceSub, Nat.reduceMul, Nat.reduceLT, Nat.reduceLeDiff, Nat.reduceEqDiff, Nat.reduceBEq, Int.reduceLE, Int.reduceLT, Int.reduceEq, Int.reduceNe, Int.reduceAdd, Int.reduceSub, Int.reduceMul, Int.reduceNeg, Int.reduceToNat, Int.reduceNatCast, reduceCtorEq, eq_self]
  refine KCall.ok (same19_does [(3, 5), (9, 9)] [(3, 5), (9, 9)] false true H (by decide)) ?_
  simp (implicitDefEqProofs := false) only [↓reduceIte, go_sem, oread, owrite, Nat.reduceAdd, Nat.reduceSub, Nat.reduceMul, Nat.reduceLT, Nat.reduceLeDiff, Nat.reduceEqDiff, Nat.reduceBEq, Int.reduceLE, Int.reduceLT, Int.reduceEq, Int.reduceNe, Int.reduceAdd, Int.reduceSub, Int.reduceMul, Int.reduceNeg, Int.reduceToNat, Int.reduceNatCast, reduceCtorEq, eq_self]
  refine KCall.ok (num19_does _ _) ?_
  simp (implicitDefEqProofs := false) only [↓reduceIte, go_sem, oread, owrite, Nat.reduceAdd, Nat.reduceSub, Nat.reduceMul, Nat.reduceLT, Nat.reduceLeDiff, Nat.reduceEqDiff, Nat.reduceBEq, Int.reduceLE, Int.reduceLT, Int.reduceEq, Int.reduceNe, Int.reduceAdd, Int.reduceSub, Int.reduceMul, Int.reduceNeg, Int.reduceToNat, Int.reduceNatCast, reduceCtorEq, eq_self]
  refine KCall.ok (within_does [(3, 5), (9, 9)] ⟨1, 4, ⟨#[]⟩⟩ false H (by decide)) ?_
  rw [show withinP [(3, 5), (9, 9)] ⟨1, 4, ⟨#[]⟩⟩ = true from by decide]
  simp (implicitDefEqProofs := false) only [↓reduceIte, go_sem, oread, owrite, Nat.reduceAdd, Nat.reduceSub, Nat.reduceMul, Nat.reduceLT, Nat.reduceLeDiff, Nat.reduceEqDiff, Nat.reduceBEq, Int.reduceLE, Int.reduceLT, Int.reduceEq, Int.reduceNe, Int.reduceAdd, Int.reduceSub, Int.reduceMul, Int.reduceNeg, Int.reduceToNat, Int.reduceNatCast, reduceCtorEq, eq_self]
  refine KCall.ok (num19_does _ _) ?_
  simp (implicitDefEqProofs := false) only [↓reduceIte, go_sem, oread, owrite, Nat.reduceAdd, Nat.reduceSub, Nat.reduceMul, Nat.reduceLT, Nat.reduceLeDiff, Nat.reduceEqDiff, Nat.reduceBEq, Int.reduceLE, Int.reduceLT, Int.reduceEq, Int.reduceNe, Int.reduceAdd, Int.reduceSub, Int.reduceMul, Int.reduceNeg, Int.reduceToNat, Int.reduceNatCast, reduceCtorEq, eq_self]
  refine KCall.ok (within_does [(3, 5), (9, 9)] ⟨1, 6, ⟨#[]⟩⟩ false H (by decide)) ?_
  rw [show withinP [(3, 5), (9, 9)] ⟨1, 6, ⟨#[]⟩⟩ = false from by decide]
  simp (implicitDefEqProofs := false) only [↓reduceIte, go_sem, oread, owrite, Nat.reduceAdd, Nat.reduceSub, Nat.reduceMul, Nat.reduceLT, Nat.reduceLeDiff, Nat.reduceEqDiff, Nat.reduceBEq, Int.reduceLE, Int.reduceLT, Int.reduceEq, Int.reduceNe, Int.reduceAdd, Int.reduceSub, Int.reduceMul, Int.reduceNeg, Int.reduceToNat, Int.reduceNatCast, reduceCtorEq, eq_self]
  refine KCall.ok (num19_does _ _) ?_
  simp (implicitDefEqProofs := false) only [↓reduceIte, go_sem, oread, owrite, Nat.reduceAdd, Nat.reduceSub, Nat.reduceMul, Nat.reduceLT, Nat.reduceLeDiff, Nat.reduceEqDiff, Nat.reduceBEq, Int.reduceLE, Int.reduceLT, Int.reduceEq, Int.reduceNe, Int.reduceAdd, Int.reduceSub, Int.reduceMul, Int.reduceNeg, Int.reduceToNat, Int.reduceNatCast, reduceCtorEq, eq_self]
  refine KCall.ok (num19_does _ _) ?_
  simp (implicitDefEqProofs := false) only [↓reduceIte, go_sem, oread, owrite, Nat.reduceAdd, Nat.reduceSub, Nat.reduceMul, Nat.reduceLT, Nat.reduceLeDiff, Nat.reduceEqDiff, Nat.reduceBEq, Int.reduceLE, Int.reduceLT, Int.reduceEq, Int.reduceNe, Int.reduceAdd, Int.reduceSub, Int.reduceMul, Int.reduceNeg, Int.reduceToNat, Int.reduceNatCast, reduceCtorEq, eq_self]
  refine KCall.ok (in_does [⟨1, 3, ⟨#[]⟩⟩] ⟨1, 3, ⟨#[]⟩⟩ true H (by decide)) ?_
  rw [show inP [⟨1, 3, ⟨#[]⟩⟩] ⟨1, 3, ⟨#[]⟩⟩ = true from by decide]
  simp (implicitDefEqProofs := false) only [↓reduceIte, go_sem, oread, owrite, Nat.reduceAdd, Nat.reduceSub, Nat.reduceMul, Nat.reduceLT, Nat.reduceLeDiff, Nat.reduceEqDiff, Nat.reduceBEq, Int.reduceLE, Int.reduceLT, Int.reduceEq, Int.reduceNe, Int.reduceAdd, Int.reduceSub, Int.reduceMul, Int.reduceNeg, Int.reduceToNat, Int.reduceNatCast, reduceCtorEq, eq_self]
  refine AEnd.ret0 ?_
  simp (implicitDefEqProofs := false) only [↓reduceIte, go_sem, oread, owrite, Nat.reduceAdd, Nat.reduceSub, Nat.reduceMul, Nat.reduceLT, Nat.reduceLeDiff, Nat.reduceEqDiff, Nat.reduceBEq, Int.reduceLE, Int.reduceLT, Int.reduceEq, Int.reduceNe, Int.reduceAdd, Int.reduceSub, Int.reduceMul, Int.reduceNeg, Int.reduceToNat, Int.reduceNatCast, reduceCtorEq, eq_self]
end Go.Proofs.Ytfmmemboakdeiaa
namespace Go.Proofs.Ytfmmemboakdeiaa
open Go.Proofs.YtfmmemboakdeiaaAw Go.RowKit
set_option linter.unusedVariables false
set_option linter.unusedSimpArgs false
set_option maxRecDepth 10000 in
set_option maxHeartbeats 2000000 in
theorem amongKeys_walk (R : List (List Val)) (c : Int) (l : List Atom) (keys : List Val) (ranges : Bool) (hR : RowsOk R) (hl : l.length ≤ 1000000000000000) (hkl : keys.length ≤ 1000000000000000) (hk : ∀ k ∈ keys, k.Ok) (H : AHeap) :
    Does Try.prog 5 [.d (.list false (rowsD R)), iA c, .d (.list false (l.map Atom.enc)), .d (.list false (keys.map Val.enc)), bA ranges] H (.ok (bA true)) H := by
  refine Does.of_awp (hint := (fun _ => false)) Try.func5 (by kernel_rfl) rfl [10] (by kernel_rfl) (by decide) (by simp [Try.ntmps5]) ?_
  rw [Try.ntmps5]
  simp (implicitDefEqProofs := false) only [↓reduceIte, go_sem, oread, owrite, Nat.reduceAdd, Nat.reduceSub, Nat.reduceMul, Nat.reduceLT, Nat.reduceLeDiff, Nat.reduceEqDiff, Nat.reduceBEq, Int.reduceLE, Int.reduceLT, Int.reduceEq, Int.reduceNe, Int.reduceAdd, Int.reduceSub, Int.reduceMul, Int.reduceNeg, Int.reduceToNat, Int.reduceNatCast, reduceCtorEq, eq_self]
  refine KCall.ok (shown19_does _) ?_
  simp (implicitDefEqProofs := false) only [↓reduceIte, go_sem, oread, owrite, Nat.reduceAdd, Nat.reduceSub, Nat.reduceMul, Nat.reduceLT, Nat.reduceLeDiff, Nat.reduceEqDiff, Nat.reduceBEq, Int.reduceLE, Int.reduceLT, Int.reduceEq, Int.reduceNe, Int.reduceAdd, Int.reduceSub, Int.reduceMul, Int.reduceNeg, Int.reduceToNat, Int.reduceNatCast, reduceCtorEq, eq_self]
  refine KCall.ok (few19_does R false (by have := hR.len; omega) (fun r hr => by have := hR.row r hr; omega) _) ?_
  have ha := few19_ok hR
  have hal := few19_len R
  have har : ∀ r ∈ few19P R, r.length ≤ 9 := fun r hr => (few19_row hr).1
  clear hR
  generalize few19P R = a at *
  by_cases h1 : 20 < l.length
  · simp (implicitDefEqProofs := false) only [↓reduceIte, go_sem, oread, owrite, Nat.reduceAdd, Nat.reduceSub, Nat.reduceMul, Nat.reduceLT, Nat.reduceLeDiff, Nat.reduceEqDiff, Nat.reduceBEq, Int.reduceLE, Int.reduceLT, Int.reduceEq, Int.reduceNe, Int.reduceAdd, Int.reduceSub, Int.reduceMul, Int.reduceNeg, Int.reduceToNat, Int.reduceNatCast, reduceCtorEq, eq_self, List.length_map, show ((20 : Int) < (l.length : Int)) = True from eq_true (by omega)]
    refine AEnd.ret0 ?_
    simp (implicitDefEqProofs := false) only [↓reduceIte, go_sem, oread, owrite, Nat.reduceAdd, Nat.reduceSub, Nat.reduceMul, Nat.reduceLT, Nat.reduceLeDiff, Nat.reduceEqDiff, Nat.reduceBEq, Int.reduceLE, Int.reduceLT, Int.reduceEq, Int.reduceNe, Int.reduceAdd, Int.reduceSub, Int.reduceMul, Int.reduceNeg, Int.reduceToNat, Int.reduceNatCast, reduceCtorEq, eq_self]
  by_cases h2 : 200 < keys.length
  · simp (implicitDefEqProofs := false) only [↓reduceIte, go_sem, oread, owrite, Nat.reduceAdd, Nat.reduceSub, Nat.reduceMul, Nat.reduceLT, Nat.reduceLeDiff, Nat.reduceEqDiff, Nat.reduceBEq, Int.reduceLE, Int.reduceLT, Int.reduceEq, Int.reduceNe, Int.reduceAdd, Int.reduceSub, Int.reduceMul, Int.reduceNeg, Int.reduceToNat, Int.reduceNatCast, reduceCtorEq, eq_self, List.length_map, show ((20 : Int) < (l.length : Int)) = False from eq_false (by omega), show ((200 : Int) < (keys.length : Int)) = True from eq_true (by omega)]
    refine AEnd.ret0 ?_
    simp (implicitDefEqProofs := false) only [↓reduceIte, go_sem, oread, owrite, Nat.reduceAdd, Nat.reduceSub, Nat.reduceMul, Nat.reduceLT, Nat.reduceLeDiff, Nat.reduceEqDiff, Nat.reduceBEq, Int.reduceLE, Int.reduceLT, Int.reduceEq, Int.reduceNe, Int.reduceAdd, Int.reduceSub, Int.reduceMul, Int.reduceNeg, Int.reduceToNat, Int.reduceNatCast, reduceCtorEq, eq_self]
  simp (implicitDefEqProofs := false) only [↓reduceIte, go_sem, oread, owrite, Nat.reduceAdd, Nat.reduceSub, Nat.reduceMul, Nat.reduceLT, Nat.reduceLeDiff, Nat.reduceEqDiff, Nat.reduceBEq, Int.reduceLE, Int.reduceLT, Int.reduceEq, Int.reduceNe, Int.reduceAdd, Int.reduceSub, Int.reduceMul, Int.reduceNeg, Int.reduceToNat, Int.reduceNatCast, reduceCtorEq, eq_self, List.length_map, show ((20 : Int) < (l.length : Int)) = False from eq_false (by omega), show ((200 : Int) < (keys.length : Int)) = False from eq_false (by omega)]
  have hki : ∀ k ∈ keys, I64 k.i := fun k hkk => (hk k hkk).i
  have hks : ∀ k ∈ keys, k.s.size ≤ 9223372036854775807 := fun k hkk => by have := (hk k hkk).s; omega
  have hsl := spansL_len keys
  refine KCall.ok (spansL_does keys _ _ (spans_does keys false _ (by omega) hki)) ?_
  simp (implicitDefEqProofs := false) only [↓reduceIte, go_sem, oread, owrite, Nat.reduceAdd, Nat.reduceSub, Nat.reduceMul, Nat.reduceLT, Nat.reduceLeDiff, Nat.reduceEqDiff, Nat.reduceBEq, Int.reduceLE, Int.reduceLT, Int.reduceEq, Int.reduceNe, Int.reduceAdd, Int.reduceSub, Int.reduceMul, Int.reduceNeg, Int.reduceToNat, Int.reduceNatCast, reduceCtorEq, eq_self]
  refine KCall.ok (spansL_does keys _ _ (rspans_does keys false (by omega) hki _)) ?_
  generalize allNum keys = an
  generalize spansL keys = S at *
  have hkl2 := keysP_len a c l
  have hfl := filterP_le a c keys ranges
  have hfm : ∀ r ∈ filterP a c keys ranges, r.length ≤ 1000000000000 := fun r hr => by have := har r (filterP_mem hr); omega
  simp (implicitDefEqProofs := false) only [↓reduceIte, go_sem, oread, owrite, Nat.reduceAdd, Nat.reduceSub, Nat.reduceMul, Nat.reduceLT, Nat.reduceLeDiff, Nat.reduceEqDiff, Nat.reduceBEq, Int.reduceLE, Int.reduceLT, Int.reduceEq, Int.reduceNe, Int.reduceAdd, Int.reduceSub, Int.reduceMul, Int.reduceNeg, Int.reduceToNat, Int.reduceNatCast, reduceCtorEq, eq_self]
  refine KCall.ok (keys_does a c l false false (by omega) (fun r hr => by have := har r hr; omega) (by omega) _) ?_
  simp (implicitDefEqProofs := false) only [↓reduceIte, go_sem, oread, owrite, Nat.reduceAdd, Nat.reduceSub, Nat.reduceMul, Nat.reduceLT, Nat.reduceLeDiff, Nat.reduceEqDiff, Nat.reduceBEq, Int.reduceLE, Int.reduceLT, Int.reduceEq, Int.reduceNe, Int.reduceAdd, Int.reduceSub, Int.reduceMul, Int.reduceNeg, Int.reduceToNat, Int.reduceNatCast, reduceCtorEq, eq_self]
  refine KCall.ok (rkeys_does a c l false false (by omega) (fun r hr => by have := har r hr; omega) (fun r hr v hv => by have := (ha.val r hr v hv).s; omega) (by omega) _) ?_
  simp (implicitDefEqProofs := false) only [↓reduceIte, go_sem, oread, owrite, Nat.reduceAdd, Nat.reduceSub, Nat.reduceMul, Nat.reduceLT, Nat.reduceLeDiff, Nat.reduceEqDiff, Nat.reduceBEq, Int.reduceLE, Int.reduceLT, Int.reduceEq, Int.reduceNe, Int.reduceAdd, Int.reduceSub, Int.reduceMul, Int.reduceNeg, Int.reduceToNat, Int.reduceNatCast, reduceCtorEq, eq_self]
  refine KCall.ok (same05_does (keysP a c l) (keysP a c l) false false _ (by omega)) ?_
  simp (implicitDefEqProofs := false) only [↓reduceIte, go_sem, oread, owrite, Nat.reduceAdd, Nat.reduceSub, Nat.reduceMul, Nat.reduceLT, Nat.reduceLeDiff, Nat.reduceEqDiff, Nat.reduceBEq, Int.reduceLE, Int.reduceLT, Int.reduceEq, Int.reduceNe, Int.reduceAdd, Int.reduceSub, Int.reduceMul, Int.reduceNeg, Int.reduceToNat, Int.reduceNatCast, reduceCtorEq, eq_self, decide_true, beq_self_eq_true]
  refine KCall.ok (same19_does S S false false _ (by omega)) ?_
  simp (implicitDefEqProofs := false) only [↓reduceIte, go_sem, oread, owrite, Nat.reduceAdd, Nat.reduceSub, Nat.reduceMul, Nat.reduceLT, Nat.reduceLeDiff, Nat.reduceEqDiff, Nat.reduceBEq, Int.reduceLE, Int.reduceLT, Int.reduceEq, Int.reduceNe, Int.reduceAdd, Int.reduceSub, Int.reduceMul, Int.reduceNeg, Int.reduceToNat, Int.reduceNatCast, reduceCtorEq, eq_self, decide_true]
  refine KCall.ok (filter_does a c keys ranges false false (by omega) (fun r hr => by have := har r hr; omega) (by omega) hki _) ?_
  simp (implicitDefEqProofs := false) only [↓reduceIte, go_sem, oread, owrite, Nat.reduceAdd, Nat.reduceSub, Nat.reduceMul, Nat.reduceLT, Nat.reduceLeDiff, Nat.reduceEqDiff, Nat.reduceBEq, Int.reduceLE, Int.reduceLT, Int.reduceEq, Int.reduceNe, Int.reduceAdd, Int.reduceSub, Int.reduceMul, Int.reduceNeg, Int.reduceToNat, Int.reduceNatCast, reduceCtorEq, eq_self]
  refine KCall.ok (rfilter_does a c keys ranges false false (by omega) (fun r hr => by have := har r hr; omega) (by omega) hki hks _) ?_
  generalize filterP a c keys ranges = F at *
  simp (implicitDefEqProofs := false) only [↓reduceIte, go_sem, oread, owrite, Nat.reduceAdd, Nat.reduceSub, Nat.reduceMul, Nat.reduceLT, Nat.reduceLeDiff, Nat.reduceEqDiff, Nat.reduceBEq, Int.reduceLE, Int.reduceLT, Int.reduceEq, Int.reduceNe, Int.reduceAdd, Int.reduceSub, Int.reduceMul, Int.reduceNeg, Int.reduceToNat, Int.reduceNatCast, reduceCtorEq, eq_self]
  refine KCall.ok (lists05_does F F false false _ (by omega) hfm) ?_
  simp (implicitDefEqProofs := false) only [↓reduceIte, go_sem, oread, owrite, Nat.reduceAdd, Nat.reduceSub, Nat.reduceMul, Nat.reduceLT, Nat.reduceLeDiff, Nat.reduceEqDiff, Nat.reduceBEq, Int.reduceLE, Int.reduceLT, Int.reduceEq, Int.reduceNe, Int.reduceAdd, Int.reduceSub, Int.reduceMul, Int.reduceNeg, Int.reduceToNat, Int.reduceNatCast, reduceCtorEq, eq_self, decide_true]
  refine AEnd.ret0 ?_
  simp (implicitDefEqProofs := false) only [↓reduceIte, go_sem, oread, owrite, Nat.reduceAdd, Nat.reduceSub, Nat.reduceMul, Nat.reduceLT, Nat.reduceLeDiff, Nat.reduceEqDiff, Nat.reduceBEq, Int.reduceLE, Int.reduceLT, Int.reduceEq, Int.reduceNe, Int.reduceAdd, Int.reduceSub, Int.reduceMul, Int.reduceNeg, Int.reduceToNat, Int.reduceNatCast, reduceCtorEq, eq_self]
theorem argKeys19 {x : AV} (h : ArgOk Try.prog 28 x) : ∃ l : List Val, x = .d (.list false (l.map Val.enc)) ∧ l.length ≤ 1000000000000000 ∧ ∀ a ∈ l, a.Ok := by
  obtain ⟨d, rfl, hf⟩ := arg_one h K.agB28 (sh := .slice 32 shVal) (by kernel_rfl)
  obtain ⟨l, rfl, hl, hn⟩ := vals_inv hf
  exact ⟨l, rfl, by omega, hn⟩
theorem argBool19 {x : AV} (h : ArgOk Try.prog 4 x) : ∃ b : Bool, x = bA b := by
  obtain ⟨d, rfl, hf⟩ := arg_one h K.agB4 (sh := .bool) (by kernel_rfl)
  obtain ⟨b, rfl⟩ := Fits.bool_inv hf
  exact ⟨b, rfl⟩
theorem amongKeys_does (x0 : AV) (h0 : ArgOk Try.prog 24 x0) (x1 : AV) (h1 : ArgOk Try.prog 3 x1) (x2 : AV) (h2 : ArgOk Try.prog 36 x2) (x3 : AV) (h3 : ArgOk Try.prog 28 x3) (x4 : AV) (h4 : ArgOk Try.prog 4 x4) :
    Does Try.prog 5 [x0, x1, x2, x3, x4] [] (.ok (.d (.v (.bool true)))) [] := by
  obtain ⟨R, rfl, hR⟩ := argRows19 h0
  obtain ⟨c, rfl, hc⟩ := argInt19 h1
  obtain ⟨l, rfl, hl, _⟩ := argAtoms19 h2
  obtain ⟨keys, rfl, hkl, hk⟩ := argKeys19 h3
  obtain ⟨b, rfl⟩ := argBool19 h4
  exact amongKeys_walk R c l keys b hR hl hkl hk []
end Go.Proofs.Ytfmmemboakdeiaa
namespace Go.Proofs.Ytfmmemboakdeiaa
open Go.Proofs.YtfmmemboakdeiaaAw Go.RowKit
set_option linter.unusedVariables false
set_option linter.unusedSimpArgs false
set_option maxRecDepth 10000 in
set_option maxHeartbeats 2000000 in
theorem amongTwice_walk (R : List (List Val)) (c : Int) (keys : List Val) (ranges : Bool) (hR : RowsOk R) (hkl : keys.length ≤ 1000000000000000) (hk : ∀ k ∈ keys, k.Ok) (H : AHeap) :
    Does Try.prog 7 [.d (.list false (rowsD R)), iA c, .d (.list false (keys.map Val.enc)), bA ranges] H (.ok (bA true)) H := by
  refine Does.of_awp (hint := (fun _ => false)) Try.func7 (by kernel_rfl) rfl [8] (by kernel_rfl) (by decide) (by simp [Try.ntmps7]) ?_
  rw [Try.ntmps7]
  simp (implicitDefEqProofs := false) only [↓reduceIte, go_sem, oread, owrite, Nat.reduceAdd, Nat.reduceSub, Nat.reduceMul, Nat.reduceLT, Nat.reduceLeDiff, Nat.reduceEqDiff, Nat.reduceBEq, Int.reduceLE, Int.reduceLT, Int.reduceEq, Int.reduceNe, Int.reduceAdd, Int.reduceSub, Int.reduceMul, Int.reduceNeg, Int.reduceToNat, Int.reduceNatCast, reduceCtorEq, eq_self]
  refine KCall.ok (shown19_does _) ?_
  simp (implicitDefEqProofs := false) only [↓reduceIte, go_sem, oread, owrite, Nat.reduceAdd, Nat.reduceSub, Nat.reduceMul, Nat.reduceLT, Nat.reduceLeDiff, Nat.reduceEqDiff, Nat.reduceBEq, Int.reduceLE, Int.reduceLT, Int.reduceEq, Int.reduceNe, Int.reduceAdd, Int.reduceSub, Int.reduceMul, Int.reduceNeg, Int.reduceToNat, Int.reduceNatCast, reduceCtorEq, eq_self]
  refine KCall.ok (few19_does R false (by have := hR.len; omega) (fun r hr => by have := hR.row r hr; omega) _) ?_
  have ha := few19_ok hR
  have hal := few19_len R
  have har : ∀ r ∈ few19P R, r.length ≤ 9 := fun r hr => (few19_row hr).1
  clear hR
  generalize few19P R = a at *
  by_cases h2 : 200 < keys.length
  · simp (implicitDefEqProofs := false) only [↓reduceIte, go_sem, oread, owrite, Nat.reduceAdd, Nat.reduceSub, Nat.reduceMul, Nat.reduceLT, Nat.reduceLeDiff, Nat.reduceEqDiff, Nat.reduceBEq, Int.reduceLE, Int.reduceLT, Int.reduceEq, Int.reduceNe, Int.reduceAdd, Int.reduceSub, Int.reduceMul, Int.reduceNeg, Int.reduceToNat, Int.reduceNatCast, reduceCtorEq, eq_self, List.length_map, show ((200 : Int) < (keys.length : Int)) = True from eq_true (by omega)]
    refine AEnd.ret0 ?_
    simp (implicitDefEqProofs := false) only [↓reduceIte, go_sem, oread, owrite, Nat.reduceAdd, Nat.reduceSub, Nat.reduceMul, Nat.reduceLT, Nat.reduceLeDiff, Nat.reduceEqDiff, Nat.reduceBEq, Int.reduceLE, Int.reduceLT, Int.reduceEq, Int.reduceNe, Int.reduceAdd, Int.reduceSub, Int.reduceMul, Int.reduceNeg, Int.reduceToNat, Int.reduceNatCast, reduceCtorEq, eq_self]
  have hki : ∀ k ∈ keys, I64 k.i := fun k hkk => (hk k hkk).i
  have hown := filterP_own a c ranges
  have hkown := keysP_len a c []
  have hoi : ∀ k ∈ keysP a c [], I64 k.i := fun k hkk => (keys_ok ha hkk).i
  have hfl := filterP_le a c keys ranges
  have hfm : ∀ r ∈ filterP a c keys ranges, r.length ≤ 1000000000000 := fun r hr => by have := har r (filterP_mem hr); omega
  have hidem := filterP_idem a c keys ranges
  have hnone := filterP_none a c ranges
  have d1 := fun H => filter_does a c keys ranges false false (by omega) (fun r hr => by have := har r hr; omega) (by omega) hki H
  have d2 := fun H => filter_does a c (keysP a c []) ranges false false (by omega) (fun r hr => by have := har r hr; omega) (by omega) hoi H
  have d3 := fun H => filter_does (filterP a c keys ranges) c keys ranges false false (by omega) hfm (by omega) hki H
  have d4 := fun H => filter_does a c [] ranges false false (by omega) (fun r hr => by have := har r hr; omega) (by simp) (fun k h => by simp at h) H
  have d5 := fun H => keys_does a c [] false false (by omega) (fun r hr => by have := har r hr; omega) (by simp) H
  rw [hidem] at d3
  rw [hnone] at d4
  simp (implicitDefEqProofs := false) only [↓reduceIte, go_sem, oread, owrite, Nat.reduceAdd, Nat.reduceSub, Nat.reduceMul, Nat.reduceLT, Nat.reduceLeDiff, Nat.reduceEqDiff, Nat.reduceBEq, Int.reduceLE, Int.reduceLT, Int.reduceEq, Int.reduceNe, Int.reduceAdd, Int.reduceSub, Int.reduceMul, Int.reduceNeg, Int.reduceToNat, Int.reduceNatCast, reduceCtorEq, eq_self, List.length_map, show ((200 : Int) < (keys.length : Int)) = False from eq_false (by omega)]
  generalize filterP a c (keysP a c []) ranges = W at *
  generalize keysP a c [] = K2 at *
  generalize filterP a c keys ranges = F at *
  refine KCall.ok (d1 _) ?_
  simp (implicitDefEqProofs := false) only [↓reduceIte, go_sem, oread, owrite, Nat.reduceAdd, Nat.reduceSub, Nat.reduceMul, Nat.reduceLT, Nat.reduceLeDiff, Nat.reduceEqDiff, Nat.reduceBEq, Int.reduceLE, Int.reduceLT, Int.reduceEq, Int.reduceNe, Int.reduceAdd, Int.reduceSub, Int.reduceMul, Int.reduceNeg, Int.reduceToNat, Int.reduceNatCast, reduceCtorEq, eq_self]
  refine KCall.sub (.cons (.refl _) (.cons (.refl _) (.cons .nil .nil))) (d5 _) ?_
  simp (implicitDefEqProofs := false) only [↓reduceIte, go_sem, oread, owrite, Nat.reduceAdd, Nat.reduceSub, Nat.reduceMul, Nat.reduceLT, Nat.reduceLeDiff, Nat.reduceEqDiff, Nat.reduceBEq, Int.reduceLE, Int.reduceLT, Int.reduceEq, Int.reduceNe, Int.reduceAdd, Int.reduceSub, Int.reduceMul, Int.reduceNeg, Int.reduceToNat, Int.reduceNatCast, reduceCtorEq, eq_self]
  refine KCall.ok (d2 _) ?_
  simp (implicitDefEqProofs := false) only [↓reduceIte, go_sem, oread, owrite, Nat.reduceAdd, Nat.reduceSub, Nat.reduceMul, Nat.reduceLT, Nat.reduceLeDiff, Nat.reduceEqDiff, Nat.reduceBEq, Int.reduceLE, Int.reduceLT, Int.reduceEq, Int.reduceNe, Int.reduceAdd, Int.reduceSub, Int.reduceMul, Int.reduceNeg, Int.reduceToNat, Int.reduceNatCast, reduceCtorEq, eq_self]
  refine awp_for3 (fun k s H' => H' = H ∧ s 1 = iA c ∧ s 2 = .d (.list false (keys.map Val.enc)) ∧ s 3 = bA ranges ∧ s 9 = bA true ∧ s 10 = .d (.list false (rowsD a)) ∧ s 11 = .d (.list false (rowsD F)) ∧ s 12 = .d (.list false (rowsD W)) ∧ s 13 = iA (isSome (a.take k) c) ∧ s 14 = iA k) a.length (by omega) (Weak.refl _ _) ?_ ?_ ?_
  · refine ⟨rfl, ?_⟩
    simp (implicitDefEqProofs := false) only [↓reduceIte, go_sem, oread, owrite, Nat.reduceAdd, Nat.reduceSub, Nat.reduceMul, Nat.reduceLT, Nat.reduceLeDiff, Nat.reduceEqDiff, Nat.reduceBEq, Int.reduceLE, Int.reduceLT, Int.reduceEq, Int.reduceNe, Int.reduceAdd, Int.reduceSub, Int.reduceMul, Int.reduceNeg, Int.reduceToNat, Int.reduceNatCast, reduceCtorEq, eq_self]
    rfl
  · rintro k s H' hk2 hw ⟨rfl, t1, t2, t3, t9, t10, t11, t12, t13, t14⟩
    have hx := rowsD_get a k hk2
    have hS := isSome_snoc (a.take k) a[k] c
    rw [← List.take_succ_eq_append_getElem hk2] at hS
    have hsle := isSome_le (a.take k) c
    rw [List.length_take] at hsle
    rw [hS]
    generalize isSome (a.take k) c = m at *
    generalize a[k] = r at *
    have hwm : IntKind.i64.wrap ((m : Int) + 1) = ((m + 1 : Nat) : Int) := by rw [wrap64_in _ (by omega) (by omega)]; omega
    by_cases h0 : c < 0
    · have e : (atP r c).kind = 0 := by unfold atP; rw [if_pos h0]
      rw [if_pos e]
      simp (implicitDefEqProofs := false) only [↓reduceIte, go_sem, oread, owrite, Nat.reduceAdd, Nat.reduceSub, Nat.reduceMul, Nat.reduceLT, Nat.reduceLeDiff, Nat.reduceEqDiff, Nat.reduceBEq, Int.reduceLE, Int.reduceLT, Int.reduceEq, Int.reduceNe, Int.reduceAdd, Int.reduceSub, Int.reduceMul, Int.reduceNeg, Int.reduceToNat, Int.reduceNatCast, reduceCtorEq, eq_self, t1, t10, t14, rowsD_len, hk2, show (0 ≤ c) = False from eq_false (by omega)]
      refine Rnd.same ⟨rfl, ?_⟩
      simp (implicitDefEqProofs := false) only [↓reduceIte, go_sem, oread, owrite, Nat.reduceAdd, Nat.reduceSub, Nat.reduceMul, Nat.reduceLT, Nat.reduceLeDiff, Nat.reduceEqDiff, Nat.reduceBEq, Int.reduceLE, Int.reduceLT, Int.reduceEq, Int.reduceNe, Int.reduceAdd, Int.reduceSub, Int.reduceMul, Int.reduceNeg, Int.reduceToNat, Int.reduceNatCast, reduceCtorEq, eq_self, t1, t2, t3, t9, t10, t11, t12, t13, hw]
    by_cases h1 : c < (r.length : Int)
    · obtain ⟨n, rfl⟩ := Int.eq_ofNat_of_zero_le (show 0 ≤ c by omega)
      have hn : n < r.length := by omega
      have hv := List.getElem?_eq_getElem hn
      have e : atP r (n : Int) = r[n] := by unfold atP; rw [if_neg h0]; simp [List.getD, hn]
      rw [e]
      generalize r[n] = v at *
      by_cases hv0 : v.kind = 0
      · rw [if_pos hv0]
        simp (implicitDefEqProofs := false) only [↓reduceIte, go_sem, oread, owrite, Nat.reduceAdd, Nat.reduceSub, Nat.reduceMul, Nat.reduceLT, Nat.reduceLeDiff, Nat.reduceEqDiff, Nat.reduceBEq, Int.reduceLE, Int.reduceLT, Int.reduceEq, Int.reduceNe, Int.reduceAdd, Int.reduceSub, Int.reduceMul, Int.reduceNeg, Int.reduceToNat, Int.reduceNatCast, reduceCtorEq, eq_self, t1, t10, t14, rowsD_len, hk2, hx, List.length_map, show (0 ≤ (n : Int)) = True from eq_true (by omega), hn, hv, Val.enc, eq_true hv0]
        refine Rnd.same ⟨rfl, ?_⟩
        simp (implicitDefEqProofs := false) only [↓reduceIte, go_sem, oread, owrite, Nat.reduceAdd, Nat.reduceSub, Nat.reduceMul, Nat.reduceLT, Nat.reduceLeDiff, Nat.reduceEqDiff, Nat.reduceBEq, Int.reduceLE, Int.reduceLT, Int.reduceEq, Int.reduceNe, Int.reduceAdd, Int.reduceSub, Int.reduceMul, Int.reduceNeg, Int.reduceToNat, Int.reduceNatCast, reduceCtorEq, eq_self, t1, t2, t3, t9, t10, t11, t12, t13, hw]
      · rw [if_neg hv0]
        simp (implicitDefEqProofs := false) only [↓reduceIte, go_sem, oread, owrite, Nat.reduceAdd, Nat.reduceSub, Nat.reduceMul, Nat.reduceLT, Nat.reduceLeDiff, Nat.reduceEqDiff, Nat.reduceBEq, Int.reduceLE, Int.reduceLT, Int.reduceEq, Int.reduceNe, Int.reduceAdd, Int.reduceSub, Int.reduceMul, Int.reduceNeg, Int.reduceToNat, Int.reduceNatCast, reduceCtorEq, eq_self, t1, t10, t13, t14, rowsD_len, hk2, hx, List.length_map, show (0 ≤ (n : Int)) = True from eq_true (by omega), hn, hv, Val.enc, hv0, hwm]
        refine Rnd.same ⟨rfl, ?_⟩
        simp (implicitDefEqProofs := false) only [↓reduceIte, go_sem, oread, owrite, Nat.reduceAdd, Nat.reduceSub, Nat.reduceMul, Nat.reduceLT, Nat.reduceLeDiff, Nat.reduceEqDiff, Nat.reduceBEq, Int.reduceLE, Int.reduceLT, Int.reduceEq, Int.reduceNe, Int.reduceAdd, Int.reduceSub, Int.reduceMul, Int.reduceNeg, Int.reduceToNat, Int.reduceNatCast, reduceCtorEq, eq_self, t1, t2, t3, t9, t10, t11, t12, hw]
    · have e : (atP r c).kind = 0 := by unfold atP; rw [if_neg h0, List.getD_eq_getElem?_getD, List.getElem?_eq_none (by omega)]; rfl
      rw [if_pos e]
      simp (implicitDefEqProofs := false) only [↓reduceIte, go_sem, oread, owrite, Nat.reduceAdd, Nat.reduceSub, Nat.reduceMul, Nat.reduceLT, Nat.reduceLeDiff, Nat.reduceEqDiff, Nat.reduceBEq, Int.reduceLE, Int.reduceLT, Int.reduceEq, Int.reduceNe, Int.reduceAdd, Int.reduceSub, Int.reduceMul, Int.reduceNeg, Int.reduceToNat, Int.reduceNatCast, reduceCtorEq, eq_self, t1, t10, t14, rowsD_len, hk2, hx, List.length_map, show (0 ≤ c) = True from eq_true (by omega), h1]
      refine Rnd.same ⟨rfl, ?_⟩
      simp (implicitDefEqProofs := false) only [↓reduceIte, go_sem, oread, owrite, Nat.reduceAdd, Nat.reduceSub, Nat.reduceMul, Nat.reduceLT, Nat.reduceLeDiff, Nat.reduceEqDiff, Nat.reduceBEq, Int.reduceLE, Int.reduceLT, Int.reduceEq, Int.reduceNe, Int.reduceAdd, Int.reduceSub, Int.reduceMul, Int.reduceNeg, Int.reduceToNat, Int.reduceNatCast, reduceCtorEq, eq_self, t1, t2, t3, t9, t10, t11, t12, t13, hw]
  · rintro s H' ⟨rfl, t1, t2, t3, t9, t10, t11, t12, t13, t14⟩
    rw [show a.take a.length = a from List.take_length] at *
    simp (implicitDefEqProofs := false) only [↓reduceIte, go_sem, oread, owrite, Nat.reduceAdd, Nat.reduceSub, Nat.reduceMul, Nat.reduceLT, Nat.reduceLeDiff, Nat.reduceEqDiff, Nat.reduceBEq, Int.reduceLE, Int.reduceLT, Int.reduceEq, Int.reduceNe, Int.reduceAdd, Int.reduceSub, Int.reduceMul, Int.reduceNeg, Int.reduceToNat, Int.reduceNatCast, reduceCtorEq, eq_self, t1, t2, t3, t9, t10, t11, t12, t13, t14, rowsD_len]
    refine KCall.ok (d3 _) ?_
    simp (implicitDefEqProofs := false) only [↓reduceIte, go_sem, oread, owrite, Nat.reduceAdd, Nat.reduceSub, Nat.reduceMul, Nat.reduceLT, Nat.reduceLeDiff, Nat.reduceEqDiff, Nat.reduceBEq, Int.reduceLE, Int.reduceLT, Int.reduceEq, Int.reduceNe, Int.reduceAdd, Int.reduceSub, Int.reduceMul, Int.reduceNeg, Int.reduceToNat, Int.reduceNatCast, reduceCtorEq, eq_self, t11]
    refine KCall.ok (lists05_does F F false false _ (by omega) hfm) ?_
    simp (implicitDefEqProofs := false) only [↓reduceIte, go_sem, oread, owrite, Nat.reduceAdd, Nat.reduceSub, Nat.reduceMul, Nat.reduceLT, Nat.reduceLeDiff, Nat.reduceEqDiff, Nat.reduceBEq, Int.reduceLE, Int.reduceLT, Int.reduceEq, Int.reduceNe, Int.reduceAdd, Int.reduceSub, Int.reduceMul, Int.reduceNeg, Int.reduceToNat, Int.reduceNatCast, reduceCtorEq, eq_self, decide_true, t1, t3, t10]
    refine KCall.sub (.cons (.refl _) (.cons (.refl _) (.cons .nil (.cons (.refl _) .nil)))) (d4 _) ?_
    simp (implicitDefEqProofs := false) only [↓reduceIte, go_sem, oread, owrite, Nat.reduceAdd, Nat.reduceSub, Nat.reduceMul, Nat.reduceLT, Nat.reduceLeDiff, Nat.reduceEqDiff, Nat.reduceBEq, Int.reduceLE, Int.reduceLT, Int.reduceEq, Int.reduceNe, Int.reduceAdd, Int.reduceSub, Int.reduceMul, Int.reduceNeg, Int.reduceToNat, Int.reduceNatCast, reduceCtorEq, eq_self, show rowsD [] = [] from rfl, List.length_nil, t12, t13, rowsD_len, hown]
    refine AEnd.ret0 ?_
    simp (implicitDefEqProofs := false) only [↓reduceIte, go_sem, oread, owrite, Nat.reduceAdd, Nat.reduceSub, Nat.reduceMul, Nat.reduceLT, Nat.reduceLeDiff, Nat.reduceEqDiff, Nat.reduceBEq, Int.reduceLE, Int.reduceLT, Int.reduceEq, Int.reduceNe, Int.reduceAdd, Int.reduceSub, Int.reduceMul, Int.reduceNeg, Int.reduceToNat, Int.reduceNatCast, reduceCtorEq, eq_self]
theorem amongTwice_does (x0 : AV) (h0 : ArgOk Try.prog 24 x0) (x1 : AV) (h1 : ArgOk Try.prog 3 x1) (x2 : AV) (h2 : ArgOk Try.prog 28 x2) (x3 : AV) (h3 : ArgOk Try.prog 4 x3) :
    Does Try.prog 7 [x0, x1, x2, x3] [] (.ok (.d (.v (.bool true)))) [] := by
  obtain ⟨R, rfl, hR⟩ := argRows19 h0
  obtain ⟨c, rfl, hc⟩ := argInt19 h1
  obtain ⟨keys, rfl, hkl, hk⟩ := argKeys19 h2
  obtain ⟨b, rfl⟩ := argBool19 h3
  exact amongTwice_walk R c keys b hR hkl hk []
end Go.Proofs.Ytfmmemboakdeiaa
namespace Go.Proofs.Ytfmmemboakdeiaa.amongTwice
open Go.ChangeShapes Go.WideShapes Go.ChangeAt Go.RowKit Go.Proofs.YtfmmemboakdeiaaAw
set_option linter.unusedVariables false
theorem own : ownKnob Try.prog.godebug = none := by kernel_rfl
theorem laid : laidOutB Try.prog = true := by kernel_rfl
set_option maxRecDepth 100000 in
theorem lifted (os : Os) (started : os.Started) (H : Type) (enc : TypeId × Value → H) :
    ReturnsInHanded {} Try.checked os 7 .any (Rows.amongTwiceSpec.pre6 enc Try.prog Try.f7 Rows.amongTwiceRow.domain false) (Rows.amongTwiceSpec.post enc Try.prog Try.f7 false true false false) := by
  refine returnsInHanded_of_change_sized (C := Try.checked) own started (by kernel_rfl) Try.func7
    (ChangeSpec.witness6 (enc := enc) (C := Try.checked) false ⟨#[], #[(.slice none 0 0 : Value), (.int .i64 0 : Value), (.slice none 0 0 : Value), (.bool false : Value)], []⟩ 8 (by kernel_rfl) (by kernel_rfl) (by kernel_rfl) (by kernel_rfl)) ?_
  intro W base args ds gs before hval0 hW hcnd hsz0 _
  have hval : ∀ (j : Nat) t v, Try.f7.params[j]? = some t → args[j]? = some v → Value.okWide Try.prog W .any 0 t v := hval0
  have hW' := hW
  obtain ⟨p, q, hA0, hV, rfl, hfz, hnd⟩ := hW
  have hA : DataW.TrodAll enc Try.prog W 0 (fun _ => true) true Try.f7.params.toList args.toList ds p := hA0
  rw [Try.params7] at hA hval hsz0
  obtain ⟨v0, vs0, d0, ds0, p0, q0, hargs, rfl, rfl, h0, r0⟩ := trodAll_cons hA
  obtain ⟨v1, vs1, d1, ds1, p1, q1, rfl, rfl, rfl, h1, r1⟩ := trodAll_cons r0
  obtain ⟨v2, vs2, d2, ds2, p2, q2, rfl, rfl, rfl, h2, r2⟩ := trodAll_cons r1
  obtain ⟨v3, vs3, d3, ds3, p3, q3, rfl, rfl, rfl, h3, r3⟩ := trodAll_cons r2
  obtain ⟨rfl, rfl, rfl⟩ := trodAll_nil r3
  obtain rfl : args = #[v0, v1, v2, v3] := by cases args; simp_all
  obtain ⟨rfl, rfl⟩ := trodVars_none hV
  rw [List.all_eq_true] at hsz0
  obtain ⟨x0, ok0, ra0⟩ := arg_in' (P := Try.prog) (t := 24) (by kernel_rfl) (by kernel_rfl) (hval 0 24 v0 rfl rfl) h0 (fun m hm => by have := hsz0 m (DataW.weights_mem_each (j := 0) (t := 24) (d := d0) rfl rfl m hm); simpa using this)
  have hlt0 : ∀ x ∈ p0, x.block < W.heap.size := fun x hx => by have := hW'.lt x (by simp [hx]); simpa using this
  obtain ⟨x1, ok1, ra1⟩ := arg_in' (P := Try.prog) (t := 3) (by kernel_rfl) (by kernel_rfl) (hval 1 3 v1 rfl rfl) h1 (fun m hm => by have := hsz0 m (DataW.weights_mem_each (j := 1) (t := 3) (d := d1) rfl rfl m hm); simpa using this)
  have hlt1 : ∀ x ∈ p1, x.block < W.heap.size := fun x hx => by have := hW'.lt x (by simp [hx]); simpa using this
  obtain ⟨x2, ok2, ra2⟩ := arg_in' (P := Try.prog) (t := 28) (by kernel_rfl) (by kernel_rfl) (hval 2 28 v2 rfl rfl) h2 (fun m hm => by have := hsz0 m (DataW.weights_mem_each (j := 2) (t := 28) (d := d2) rfl rfl m hm); simpa using this)
  have hlt2 : ∀ x ∈ p2, x.block < W.heap.size := fun x hx => by have := hW'.lt x (by simp [hx]); simpa using this
  obtain ⟨x3, ok3, ra3⟩ := arg_in' (P := Try.prog) (t := 4) (by kernel_rfl) (by kernel_rfl) (hval 3 4 v3 rfl rfl) h3 (fun m hm => by have := hsz0 m (DataW.weights_mem_each (j := 3) (t := 4) (d := d3) rfl rfl m hm); simpa using this)
  have hlt3 : ∀ x ∈ p3, x.block < W.heap.size := fun x hx => by have := hW'.lt x (by simp [hx]); simpa using this
  clear hA0 hval0 hsz0
  refine ((amongTwice_does x0 ok0 x1 ok1 x2 ok2 x3 ok3).walk (fn := Try.f7) Try.func7 (by kernel_rfl) rfl (Live W) W #[v0, v1, v2, v3] (fun _ h => h) (RAL.cons ra0 (RAL.cons ra1 (RAL.cons ra2 (RAL.cons ra3 RAL.nil)))).ras).mono fun e W' ⟨he, bel⟩ => ?_
  subst he
  exact ⟨_, rfl, _, _, _, [], _, [], hW', trodAll_mk1 (shut_bool Try.underlying4 _), (trodAll_cons_mk (Below.trod laid (by kernel_rfl) (of_decide_eq_true (by kernel_rfl)) h0 bel hlt0) (trodAll_cons_mk (Below.trod laid (by kernel_rfl) (of_decide_eq_true (by kernel_rfl)) h1 bel hlt1) (trodAll_cons_mk (Below.trod laid (by kernel_rfl) (of_decide_eq_true (by kernel_rfl)) h2 bel hlt2) (trodAll_cons_mk (Below.trod laid (by kernel_rfl) (of_decide_eq_true (by kernel_rfl)) h3 bel hlt3) trodAll_mk0)))), rfl, bel.frame _, fun h => by cases h⟩
theorem over : Rows.amongTwiceRow.holds Try.pinned (OpenSpec.ofChange Rows.amongTwiceSpec) :=
  OpenClaim.holds_of_wide 7 Try.f7 rfl rfl rfl rfl rfl rfl rfl ⟨rfl, rfl, rfl, rfl, rfl⟩ rfl rfl rfl rfl rfl (by kernel_rfl) Try.func7 (by kernel_rfl)
    (of_decide_eq_true (by kernel_rfl)) (by unfold Func.isWrapper; first | (rw [if_pos (by decide +kernel)]; kernel_rfl) | (rw [if_neg (by decide +kernel)]; exact ⟨rfl, rfl⟩))
    (fun os started H enc _ => lifted os started H enc)
theorem proved : Rows.AmongTwiceSaid := over
#print axioms proved
end Go.Proofs.Ytfmmemboakdeiaa.amongTwice
namespace Go.Proofs.Ytfmmemboakdeiaa
/-- The row, under a short name, for the claim. -/
theorem amongTwice_holds : Rows.AmongTwiceSaid := amongTwice.proved
end Go.Proofs.Ytfmmemboakdeiaa

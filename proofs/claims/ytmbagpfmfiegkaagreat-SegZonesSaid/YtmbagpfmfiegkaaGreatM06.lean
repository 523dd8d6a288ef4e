/- delta.Steps, delta.Sorted, delta.Bytes: what they do. delta.Sorted, delta.Bytes: what they do. seg.Body, best: what they do. null.Count, Of, Bytes: what they do. A range over a function, as it is walked. Arguments: bytes and numbers. null.some, its iterator; slices.AppendSeq, Collect; null.Split, Join. slices.AppendSeq, Collect of values. null.Split, Join: what they do. seg.Make: what it does. rle.next: what it does. rle.ToRuns: what it does. math/bits.Mul64: what it does. math/bits.Mul; slices.Repeat of one value: what they do. rle.Spread, Of; the codec's reader: what they do. delta.Of: what it does. Drawn regions in which a variable is laid down at any time: its place is kept ahead of the region. seg.Seg.Vals: what it does. What is laid down is read, and the other way round: plain facts about bytes. Zig and zag. Wrapping as a step of whole rounds. Values' bytes: what is laid down is read, and the other way round (plain). Dict's bytes: what is laid down is read, and the other way round (plain). Steps and sums; what is laid down is read, and the other way round. What a segment's reader answers, in plain terms: good values. seg.numbers: what it does. -/
import Derived.Laws.Bits64b
import Derived.Lib.Mul64
import Derived.Test.YtmbagpfmfiegkaaGreatM05
namespace Go.Proofs.YtmbagpfmfiegkaaGreat
open Go.Proofs.YtmbagpfmfiegkaaGreatAw Go.RowKit
set_option linter.unusedVariables false
set_option linter.unusedSimpArgs false
def diffP (a b : Val) : Nat := zigP (IntKind.i64.wrap (b.i - a.i))
def stepsP (l : List Val) : List Nat := List.zipWith diffP l l.tail
theorem stepsP_len (l : List Val) : (stepsP l).length = l.length - 1 := by simp [stepsP]
theorem stepsP_get (l : List Val) (k : Nat) (h : k + 1 < l.length) : (stepsP l)[k]? = some (diffP l[k] l[k + 1]) := by
  simp [stepsP, List.getElem?_zipWith, List.getElem?_tail, h, show k < l.length by omega]
theorem diffP_lt (a b : Val) : diffP a b < 18446744073709551616 := zigP_lt (wrap64_rng _).1 (wrap64_rng _).2
theorem stepsP_lt (l : List Val) : ∀ n ∈ stepsP l, n < 18446744073709551616 := by
  intro n hn
  obtain ⟨k, hk⟩ := List.getElem?_of_mem hn
  have hlt := (List.getElem?_eq_some_iff.1 hk).1
  rw [stepsP_len] at hlt
  rw [stepsP_get l k (by omega)] at hk
  cases hk
  exact diffP_lt _ _
theorem take_steps (l : List Val) (k : Nat) (h : k + 1 < l.length) : (stepsP l).take (k + 1) = (stepsP l).take k ++ [diffP l[k] l[k + 1]] := by
  rw [List.take_add_one, stepsP_get l k h]; rfl
set_option maxRecDepth 10000 in
set_option maxHeartbeats 1000000 in
theorem steps_does (l : List Val) (nn : Bool) (H : AHeap) (hl : l.length ≤ 1000000000000) : Does Tryz.prog 124 [.d (.list nn (l.map Val.enc))] H (.ok (.d (.list false (us (stepsP l))))) H := by
  have hsl := stepsP_len l
  refine Does.of_awp (hint := (fun _ => false)) Tryz.func124 (by kernel_rfl) rfl [2] (by kernel_rfl) (by decide) (by simp [Tryz.ntmps124]) ?_
  rw [Tryz.ntmps124]
  simp (implicitDefEqProofs := false) only [go_sem]
  refine awp_for3 (fun k s H' => H' = H ++ [.arr 49 1 k (us ((stepsP l).take k))] ∧ s 0 = .d (.list nn (l.map Val.enc)) ∧ s 3 = .sl H.length k 0 k ∧ s 4 = iA ((k : Int) + 1)) (l.length - 1) (by omega) (Weak.virt1 _ _ 3 49 1 (by decide) (by simp (implicitDefEqProofs := false) only [↓reduceIte, go_sem, Nat.reduceLT, Nat.reduceEqDiff, eq_self]) _) ?_ ?_ ?_
  · refine ⟨?_, ?_⟩
    · simp (implicitDefEqProofs := false) only [go_sem, eq_self, List.take_zero, us_nil]
    · simp (implicitDefEqProofs := false) only [↓reduceIte, go_sem, Nat.reduceLT, Nat.reduceEqDiff, Int.reduceAdd, reduceCtorEq, eq_self]
  · rintro k s H' hk hw ⟨rfl, t0, t3, t4⟩
    have hk1 : k < l.length := by omega
    have hk2 : k + 1 < l.length := by omega
    have hx := List.getElem?_eq_getElem hk1
    have hy := List.getElem?_eq_getElem hk2
    have hs := take_steps l k hk2
    generalize l[k] = x at hx hs
    generalize l[k + 1] = y at hy hs
    have hlen : ((stepsP l).take k).length = k := by simp; omega
    have hw2 : IntKind.i64.wrap ((k : Int) + 1 - 1) = (k : Int) := by rw [wrap64_in _ (by omega) (by omega)]; omega
    have hw3 : IntKind.i64.wrap ((k : Int) + 1 + 1) = (k : Int) + 1 + 1 := wrap64_in _ (by omega) (by omega)
    have hc : ((k : Int) + 1 < (l.length : Int)) = True := eq_true (by omega)
    have ht : ((k : Int) + 1).toNat = k + 1 := by omega
    have hp : (0 ≤ (k : Int) + 1) = True := eq_true (by omega)
    generalize (stepsP l).take k = L at hs hlen
    simp (implicitDefEqProofs := false) only [↓reduceIte, go_sem, Nat.reduceLT, Nat.reduceEqDiff, reduceCtorEq, eq_self, t0, t4, hc]
    refine awp_drawK 15 K.mixed (by kernel_rfl) (by kernel_rfl) ?_
    simp (implicitDefEqProofs := false) only [↓reduceIte, go_sem, Nat.reduceAdd, Nat.reduceLT, Nat.reduceLeDiff, Nat.reduceEqDiff, reduceCtorEq, eq_self, t0, t3, t4, hw2, hx, hy, ht, hp, Val.enc]
    refine KCall.ok (zig_does _ (wrap64_rng _).1 (wrap64_rng _).2 _) ?_
    simp (implicitDefEqProofs := false) only [↓reduceIte, go_sem, Nat.reduceLT, Nat.reduceLeDiff, Nat.reduceEqDiff, eq_self, us_len, hlen, t4, us_snoc]
    refine ⟨by omega, by omega, Rnd.same ⟨?_, ?_⟩⟩
    · rw [hs]; rfl
    · simp (implicitDefEqProofs := false) only [↓reduceIte, go_sem, Nat.reduceLT, Nat.reduceEqDiff, reduceCtorEq, eq_self, t0, hw3]
      trace_state
  · rintro s H' ⟨rfl, t0, t3, t4⟩
    have hc : (((l.length - 1 : Nat) : Int) + 1 < (l.length : Int)) = False := eq_false (by omega)
    simp (implicitDefEqProofs := false) only [↓reduceIte, go_sem, Nat.reduceLT, Nat.reduceEqDiff, reduceCtorEq, eq_self, t0, t3, t4, hc]
    refine AEnd.ret ?_
    simp (implicitDefEqProofs := false) only [↓reduceIte, go_sem, Nat.reduceLT, eq_self, take_len, us_len, hsl]
end Go.Proofs.YtmbagpfmfiegkaaGreat
namespace Go.Proofs.YtmbagpfmfiegkaaGreat
open Go.Proofs.YtmbagpfmfiegkaaGreatAw Go.RowKit
set_option linter.unusedVariables false
set_option linter.unusedSimpArgs false
def bytesD (l : List Val) : List Nat := match l with
  | [] => []
  | v :: _ => putP (zigP v.i) ++ putP (widthP (stepsP l)) ++ packP (stepsP l) (widthP (stepsP l))
def deltaR (l : List Val) : AV := if plainP l 1 = 0 ∧ l ≠ [] then .tup [.d (.list false (bys (bytesD l))), iA 0] else .tup [.d (.v (.slice none 0 0)), iA (plainP l 1)]
set_option maxRecDepth 10000 in
set_option maxHeartbeats 1000000 in
theorem dbytes_does (l : List Val) (hok : ∀ v ∈ l, I64 v.i) (nn : Bool) (H : AHeap) (hl : l.length ≤ 1000000000000) : Does Tryz.prog 87 [.d (.list nn (l.map Val.enc))] H (.ok (deltaR l)) H := by
  have hbad : ∀ b : Bool, b = true ∨ b = false := by decide
  refine Does.of_awp (hint := (fun _ => false)) Tryz.func87 (by kernel_rfl) rfl [2, 3] (by kernel_rfl) (by decide) (by simp [Tryz.ntmps87]) ?_
  rw [Tryz.ntmps87]
  simp (implicitDefEqProofs := false) only [↓reduceIte, go_sem, Nat.reduceLT, reduceCtorEq, eq_self]
  refine KCall.ok (plain_does l 1 nn _ (by omega)) ?_
  by_cases h1 : plainP l 1 = 0
  · cases l with
    | nil =>
      simp (implicitDefEqProofs := false) only [↓reduceIte, go_sem, Nat.reduceLT, Nat.reduceEqDiff, reduceCtorEq, eq_self, h1]
      refine AEnd.ret0 ?_
      simp (implicitDefEqProofs := false) only [↓reduceIte, go_sem, Nat.reduceLT, Nat.reduceEqDiff, eq_self, deltaR, h1, Ne, not_true, and_false]
    | cons v r =>
      have hs := stepsP_len (v :: r)
      have h4 := plainP_len h1
      have hl0 : (((v :: r).length : Nat) : Int) = 0 ↔ False := by simp; omega
      have hll := hok v (by simp)
      have hss := stepsP_lt (v :: r)
      simp (implicitDefEqProofs := false) only [↓reduceIte, go_sem, Nat.reduceLT, Nat.reduceEqDiff, reduceCtorEq, eq_self, h1, show (((r.length : Nat) : Int) + 1 = 0) = False from eq_false (by omega)]
      refine KCall.ok (steps_does (v :: r) nn _ hl) ?_
      simp (implicitDefEqProofs := false) only [↓reduceIte, go_sem, Nat.reduceLT, eq_self]
      refine KCall.ok (width_does _ false _ (by omega) hss) ?_
      have hw64 := widthP_le hss
      have hfit := widthP_fits (l := stepsP (v :: r))
      have hzl := zigP_lt hll.1 hll.2
      have hb : bytesD (v :: r) = putP (zigP v.i) ++ putP (widthP (stepsP (v :: r))) ++ packP (stepsP (v :: r)) (widthP (stepsP (v :: r))) := rfl
      generalize widthP (stepsP (v :: r)) = w at *
      generalize stepsP (v :: r) = S at *
      simp (implicitDefEqProofs := false) only [↓reduceIte, go_sem, Nat.reduceAdd, Nat.reduceLT, Nat.reduceLeDiff, Int.reduceLE, Int.reduceToNat, reduceCtorEq, eq_self, Val.enc]
      refine KCall.ok (zig_does _ hll.1 hll.2 _) ?_
      simp (implicitDefEqProofs := false) only [↓reduceIte, go_sem, Nat.reduceLT, eq_self]
      refine KCall.ok (putOwn_does _ hzl _) ?_
      simp (implicitDefEqProofs := false) only [↓reduceIte, go_sem, Nat.reduceLT, Nat.reduceEqDiff, eq_self, wrapU64N w (by omega)]
      refine KCall.ok (put_does w (by omega) _) ?_
      have l1 := putP_len 10 (zigP v.i) (by omega)
      have l2 := putP_len 10 w (by omega)
      simp (implicitDefEqProofs := false) only [↓reduceIte, go_sem, Nat.reduceLT, Nat.reduceEqDiff, eq_self, bys_one, bys_len, bys_app]
      refine ⟨by omega, by omega, ?_⟩
      refine KCall.ok (pack_does S w hw64 hfit (by omega) false _) ?_
      simp (implicitDefEqProofs := false) only [↓reduceIte, go_sem, Nat.reduceLT, Nat.reduceEqDiff, eq_self, bys_one, bys_len, bys_app, List.length_append]
      have l3 : (packP S w).length ≤ 100000 := by
        rw [packP, packB_len, bitsL_len]
        have : S.length * w ≤ 4096 * 64 := Nat.mul_le_mul (by omega) hw64
        omega
      refine ⟨by omega, by omega, AEnd.ret ?_⟩
      have ht : (bys (putP (zigP v.i) ++ (putP w ++ packP S w))).take ((putP (zigP v.i)).length + (putP w).length + (packP S w).length) = bys (putP (zigP v.i) ++ (putP w ++ packP S w)) := take_len _ _ (by rw [bys_len, List.length_append, List.length_append]; omega)
      simp (implicitDefEqProofs := false) only [↓reduceIte, go_sem, Nat.reduceLT, Nat.reduceEqDiff, reduceCtorEq, eq_self, deltaR, h1, hb, ht, Ne, not_false_eq_true, and_self]
  · simp (implicitDefEqProofs := false) only [↓reduceIte, go_sem, Nat.reduceLT, Nat.reduceEqDiff, eq_self, h1]
    refine AEnd.ret0 ?_
    simp (implicitDefEqProofs := false) only [↓reduceIte, go_sem, Nat.reduceLT, Nat.reduceEqDiff, eq_self, deltaR, h1, false_and]
end Go.Proofs.YtmbagpfmfiegkaaGreat
namespace Go.Proofs.YtmbagpfmfiegkaaGreat
open Go.Proofs.YtmbagpfmfiegkaaGreatAw Go.RowKit
set_option linter.unusedVariables false
set_option linter.unusedSimpArgs false
def deltaB (l : List Val) : List Nat := if plainP l 1 = 0 ∧ l ≠ [] then bytesD l else []
/-- Values, laid down by a codec. -/
def bodyP (l : List Val) (k w : Int) : List Nat × Int :=
  if w = 1 then (plainL l k, plainP l k) else if w = 2 then (rleL l k, plainP l k) else if w = 3 then (dictL l k, plainP l k)
  else if w = 4 ∧ k = 1 then (deltaB l, plainP l 1) else ([], 1)
theorem dbytes2_does (l : List Val) (hok : ∀ v ∈ l, I64 v.i) (nn : Bool) (H : AHeap) (hl : l.length ≤ 1000000000000) : Does Tryz.prog 87 [.d (.list nn (l.map Val.enc))] H (.ok (.tup [.d (.list false (bys (deltaB l))), iA (plainP l 1)])) H := by
  have h := dbytes_does l hok nn H hl
  unfold deltaR at h
  unfold deltaB
  by_cases c : plainP l 1 = 0 ∧ l ≠ []
  · rw [if_pos c] at h ⊢
    rw [c.1]
    exact h
  · rw [if_neg c] at h ⊢
    exact Does.subT h (.cons .nil (.cons (.refl _) .nil))
/-- What a kind's codecs are. -/
def codecA (id : Nat) (k w : Int) : Option AV :=
  if w = 1 then some (.agg [.fn 75 [.ptr id 0 0 0], .fn 77 [.ptr id 0 0 0]])
  else if w = 2 then some (.agg [.fn 79 [.ptr id 0 0 0], .fn 81 [.ptr id 0 0 0]])
  else if w = 3 then some (.agg [.fn 83 [.ptr id 0 0 0], .fn 85 [.ptr id 0 0 0]])
  else if w = 4 ∧ k = 1 then some (.agg [.fn 87 [], .fn 88 []]) else none
theorem codecM_get (id : Nat) (k w : Int) : mpGet w (codecM id k) = codecA id k w := by
  unfold codecM codecA
  by_cases h1 : w = 1
  · subst h1; rfl
  by_cases h2 : w = 2
  · subst h2; rfl
  by_cases h3 : w = 3
  · subst h3; rfl
  rw [if_neg h1, if_neg h2, if_neg h3]
  by_cases hk : k = 1
  · subst hk
    by_cases h4 : w = 4
    · subst h4; rfl
    · simp [mpGet, mpIdx, h1, h2, h3, h4]
  · rw [if_neg hk, if_neg (fun h => hk h.2)]
    simp [mpGet, mpIdx, h1, h2, h3]
set_option maxRecDepth 10000 in
set_option maxHeartbeats 2000000 in
theorem body_does (l : List Val) (k w : Int) (hok : ∀ v ∈ l, I64 v.i) (hl : l.length ≤ 1000000000) (H : AHeap) :
    Does Tryz.prog 31 [.d (.list false (l.map Val.enc)), iA k, iA w] H (.ok (.tup [.d (.list false (bys (bodyP l k w).1)), iA (bodyP l k w).2])) H := by
  have hg := fun id => codecM_get id k w
  unfold codecA at hg
  unfold bodyP
  have hk : ∀ T : AHeap, ((H ++ kB k :: T) : AHeap)[H.length]? = some (kB k) := fun T => by simp
  by_cases h1 : w = 1
  · subst h1
    simp only [if_true] at hg ⊢
    refine Does.of_awp (hint := (fun _ => false)) Tryz.func31 (by kernel_rfl) rfl [6, 7] (by kernel_rfl) (by decide) (by simp [Tryz.ntmps31]) ?_
    rw [Tryz.ntmps31]
    simp (implicitDefEqProofs := false) only [↓reduceIte, go_sem, Nat.reduceLT, Nat.reduceEqDiff, eq_self]
    refine KCall.ok (codecs_does k _) ?_
    simp (implicitDefEqProofs := false) only [↓reduceIte, go_sem, oread, owrite, Nat.reduceAdd, Nat.reduceLT, Nat.reduceLeDiff, Nat.reduceEqDiff, reduceCtorEq, eq_self, hg, Option.getD_some, Option.isSome_some]
    refine KCall.ok (putPlain_does l k hok hl _ H.length (hk _)) ?_
    simp (implicitDefEqProofs := false) only [↓reduceIte, go_sem, Nat.reduceLT, Nat.reduceEqDiff, eq_self]
    refine AEnd.ret ?_
    simp (implicitDefEqProofs := false) only [↓reduceIte, go_sem, Nat.reduceLT, Nat.reduceEqDiff, eq_self]
  rw [if_neg h1] at ⊢
  simp only [if_neg h1] at hg
  by_cases h2 : w = 2
  · subst h2
    simp only [if_true] at hg ⊢
    refine Does.of_awp (hint := (fun _ => false)) Tryz.func31 (by kernel_rfl) rfl [6, 7] (by kernel_rfl) (by decide) (by simp [Tryz.ntmps31]) ?_
    rw [Tryz.ntmps31]
    simp (implicitDefEqProofs := false) only [↓reduceIte, go_sem, Nat.reduceLT, Nat.reduceEqDiff, eq_self]
    refine KCall.ok (codecs_does k _) ?_
    simp (implicitDefEqProofs := false) only [↓reduceIte, go_sem, oread, owrite, Nat.reduceAdd, Nat.reduceLT, Nat.reduceLeDiff, Nat.reduceEqDiff, reduceCtorEq, eq_self, hg, Option.getD_some, Option.isSome_some]
    refine KCall.ok (putRle_does l k hok hl _ H.length (hk _)) ?_
    simp (implicitDefEqProofs := false) only [↓reduceIte, go_sem, Nat.reduceLT, Nat.reduceEqDiff, eq_self]
    refine AEnd.ret ?_
    simp (implicitDefEqProofs := false) only [↓reduceIte, go_sem, Nat.reduceLT, Nat.reduceEqDiff, eq_self]
  rw [if_neg h2] at ⊢
  simp only [if_neg h2] at hg
  by_cases h3 : w = 3
  · subst h3
    simp only [if_true] at hg ⊢
    refine Does.of_awp (hint := (fun _ => false)) Tryz.func31 (by kernel_rfl) rfl [6, 7] (by kernel_rfl) (by decide) (by simp [Tryz.ntmps31]) ?_
    rw [Tryz.ntmps31]
    simp (implicitDefEqProofs := false) only [↓reduceIte, go_sem, Nat.reduceLT, Nat.reduceEqDiff, eq_self]
    refine KCall.ok (codecs_does k _) ?_
    simp (implicitDefEqProofs := false) only [↓reduceIte, go_sem, oread, owrite, Nat.reduceAdd, Nat.reduceLT, Nat.reduceLeDiff, Nat.reduceEqDiff, reduceCtorEq, eq_self, hg, Option.getD_some, Option.isSome_some]
    refine KCall.ok (putDict_does l k hok hl _ H.length (hk _)) ?_
    simp (implicitDefEqProofs := false) only [↓reduceIte, go_sem, Nat.reduceLT, Nat.reduceEqDiff, eq_self]
    refine AEnd.ret ?_
    simp (implicitDefEqProofs := false) only [↓reduceIte, go_sem, Nat.reduceLT, Nat.reduceEqDiff, eq_self]
  rw [if_neg h3] at ⊢
  simp only [if_neg h3] at hg
  by_cases h4 : w = 4 ∧ k = 1
  · simp only [if_pos h4] at hg ⊢
    refine Does.of_awp (hint := (fun _ => false)) Tryz.func31 (by kernel_rfl) rfl [6, 7] (by kernel_rfl) (by decide) (by simp [Tryz.ntmps31]) ?_
    rw [Tryz.ntmps31]
    simp (implicitDefEqProofs := false) only [↓reduceIte, go_sem, Nat.reduceLT, Nat.reduceEqDiff, eq_self]
    refine KCall.ok (codecs_does k _) ?_
    simp (implicitDefEqProofs := false) only [↓reduceIte, go_sem, oread, owrite, Nat.reduceAdd, Nat.reduceLT, Nat.reduceLeDiff, Nat.reduceEqDiff, reduceCtorEq, eq_self, hg, Option.getD_some, Option.isSome_some]
    refine KCall.ok (dbytes2_does l hok false _ (by omega)) ?_
    simp (implicitDefEqProofs := false) only [↓reduceIte, go_sem, Nat.reduceLT, Nat.reduceEqDiff, eq_self]
    refine AEnd.ret ?_
    simp (implicitDefEqProofs := false) only [↓reduceIte, go_sem, Nat.reduceLT, Nat.reduceEqDiff, eq_self]
  simp only [if_neg h4] at hg ⊢
  refine Does.subT (cs := [.d (.v (.slice none 0 0)), iA 1]) ?_ (.cons .nil (.cons (.refl _) .nil))
  refine Does.of_awp (hint := (fun _ => false)) Tryz.func31 (by kernel_rfl) rfl [6, 7] (by kernel_rfl) (by decide) (by simp [Tryz.ntmps31]) ?_
  rw [Tryz.ntmps31]
  simp (implicitDefEqProofs := false) only [↓reduceIte, go_sem, Nat.reduceLT, Nat.reduceEqDiff, eq_self]
  refine KCall.ok (codecs_does k _) ?_
  simp (implicitDefEqProofs := false) only [↓reduceIte, go_sem, owrite, Nat.reduceAdd, Nat.reduceLT, Nat.reduceEqDiff, eq_self, hg, Option.getD_none, Option.isSome_none]
  refine AEnd.ret ?_
  simp (implicitDefEqProofs := false) only [↓reduceIte, go_sem, Nat.reduceLT, Nat.reduceEqDiff, eq_self]
def bestS (l : List Val) (k : Int) (x : Int × Int) (c : Int) : Int × Int := if (bodyP l k c).2 = 0 ∧ (x.1 < 0 ∨ ((bodyP l k c).1.length : Int) < x.1) then ((bodyP l k c).1.length, c) else x
def bestF (l : List Val) (k : Int) : Nat → Int × Int
  | 0 => (-1, 0)
  | n + 1 => bestS l k (bestF l k n) ((n : Int) + 1)
def bestP (l : List Val) (k : Int) : Int := (bestF l k 4).2
set_option maxRecDepth 10000 in
set_option maxHeartbeats 2000000 in
theorem best_does (l : List Val) (k : Int) (hok : ∀ v ∈ l, I64 v.i) (hl : l.length ≤ 1000000000) (H : AHeap) :
    Does Tryz.prog 30 [.d (.list false (l.map Val.enc)), iA k] H (.ok (iA (bestP l k))) H := by
  have hb := fun w H => body_does l k w hok hl H
  have hst : ∀ n, bestF l k (n + 1) = bestS l k (bestF l k n) ((n : Int) + 1) := fun n => rfl
  have hfin : bestP l k = (bestF l k 4).2 := rfl
  rw [hfin]
  have h0 : bestF l k 0 = (-1, 0) := rfl
  generalize bestF l k = st at *
  refine Does.of_awp (hint := (fun _ => false)) Tryz.func30 (by kernel_rfl) rfl [4] (by kernel_rfl) (by decide) (by simp [Tryz.ntmps30]) ?_
  rw [Tryz.ntmps30]
  simp (implicitDefEqProofs := false) only [go_sem, Int.reduceNeg]
  refine awp_loop _ _ _ _ (fun (n : Nat) s H' => H' = H ∧ n ≤ 4 ∧ s 0 = .d (.list false (l.map Val.enc)) ∧ s 1 = iA k ∧ s 5 = iA (st n).1 ∧ s 6 = iA (st n).2 ∧ s 7 = iA ((n : Int) + 1)) (fun n => 4 - n) 0 (Weak.refl _ _) ?_ ?_
  · refine ⟨rfl, by omega, ?_⟩
    rw [h0]
    simp (implicitDefEqProofs := false) only [↓reduceIte, go_sem, Nat.reduceLT, Nat.reduceEqDiff, Int.reduceAdd, Int.reduceNeg, reduceCtorEq, eq_self]
  · rintro n s H' ⟨rfl, hn, t0, t1, t5, t6, t7⟩
    by_cases h4 : n < 4
    · have hs := hst n
      have hb1 := hb ((n : Int) + 1)
      have wn : IntKind.i64.wrap ((n : Int) + 1 + 1) = (n : Int) + 1 + 1 := wrap64_in _ (by omega) (by omega)
      unfold bestS at hs
      generalize st n = x at *
      obtain ⟨x1, x2⟩ := x
      simp only at hs t5 t6
      generalize hbp : bodyP l k ((n : Int) + 1) = q at *
      obtain ⟨bs, e⟩ := q
      simp only at hs hb1
      simp (implicitDefEqProofs := false) only [↓reduceIte, go_sem, Nat.reduceLT, Nat.reduceEqDiff, reduceCtorEq, eq_self, t0, t1, t7, show (((n : Int) + 1) ≤ 4) = True from eq_true (by omega)]
      refine KCall.ok (hb1 _) ?_
      by_cases he : e = 0
      · by_cases h1 : x1 < 0
        · rw [if_pos ⟨he, .inl h1⟩] at hs
          simp (implicitDefEqProofs := false) only [↓reduceIte, go_sem, Nat.reduceLT, Nat.reduceEqDiff, eq_self, t5, t7, he, h1, bys_len, wn]
          refine ⟨_, _, n + 1, Weak.refl _ _, ⟨rfl, by omega, ?_⟩, by omega⟩
          rw [hs]
          simp (implicitDefEqProofs := false) only [↓reduceIte, go_sem, Nat.reduceLT, Nat.reduceEqDiff, reduceCtorEq, eq_self, t0, t1]
        · by_cases h2 : (bs.length : Int) < x1
          · rw [if_pos ⟨he, .inr h2⟩] at hs
            simp (implicitDefEqProofs := false) only [↓reduceIte, go_sem, Nat.reduceLT, Nat.reduceEqDiff, reduceCtorEq, eq_self, t5, t7, he, h1, h2, bys_len, wn]
            refine ⟨_, _, n + 1, Weak.refl _ _, ⟨rfl, by omega, ?_⟩, by omega⟩
            rw [hs]
            simp (implicitDefEqProofs := false) only [↓reduceIte, go_sem, Nat.reduceLT, Nat.reduceEqDiff, reduceCtorEq, eq_self, t0, t1]
          · rw [if_neg (fun h => h.2.elim h1 h2)] at hs
            simp (implicitDefEqProofs := false) only [↓reduceIte, go_sem, Nat.reduceLT, Nat.reduceEqDiff, reduceCtorEq, eq_self, t5, t7, he, h1, h2, bys_len, wn]
            refine ⟨_, _, n + 1, Weak.refl _ _, ⟨rfl, by omega, ?_⟩, by omega⟩
            rw [hs]
            simp (implicitDefEqProofs := false) only [↓reduceIte, go_sem, Nat.reduceLT, Nat.reduceEqDiff, reduceCtorEq, eq_self, t0, t1, t5, t6]
      · rw [if_neg (fun h => he h.1)] at hs
        simp (implicitDefEqProofs := false) only [↓reduceIte, go_sem, Nat.reduceLT, Nat.reduceEqDiff, reduceCtorEq, eq_self, t7, he, wn]
        refine ⟨_, _, n + 1, Weak.refl _ _, ⟨rfl, by omega, ?_⟩, by omega⟩
        rw [hs]
        simp (implicitDefEqProofs := false) only [↓reduceIte, go_sem, Nat.reduceLT, Nat.reduceEqDiff, reduceCtorEq, eq_self, t0, t1, t5, t6]
    · obtain rfl : n = 4 := by omega
      simp (implicitDefEqProofs := false) only [↓reduceIte, go_sem, Nat.reduceLT, Nat.reduceEqDiff, Int.reduceLE, Int.reduceAdd, eq_self, t6, t7]
      refine AEnd.ret0 ?_
      simp (implicitDefEqProofs := false) only [↓reduceIte, go_sem, Nat.reduceLT, eq_self]
end Go.Proofs.YtmbagpfmfiegkaaGreat
namespace Go.Proofs.YtmbagpfmfiegkaaGreat
open Go.Proofs.YtmbagpfmfiegkaaGreatAw Go.RowKit
set_option linter.unusedVariables false
set_option linter.unusedSimpArgs false
def boolR (l : List Bool) : List (List D) := l.map fun b => [.v (.bool b)]
theorem boolR_len (l : List Bool) : (boolR l).length = l.length := by simp [boolR]
theorem boolR_get (l : List Bool) (k : Nat) (h : k < l.length) : (boolR l)[k]? = some [.v (.bool l[k])] := by simp [boolR, h]
theorem boolR_snoc (l : List Bool) (b : Bool) : boolR l ++ [[.v (.bool b)]] = boolR (l ++ [b]) := by simp [boolR]
def countP1 (l : List Bool) : Nat := l.countP (· == true)
theorem countP1_snoc (l : List Bool) (b : Bool) : countP1 (l ++ [b]) = if b then countP1 l + 1 else countP1 l := by
  unfold countP1
  rw [List.countP_append]
  cases b <;> simp
theorem countP1_le (l : List Bool) : countP1 l ≤ l.length := List.countP_le_length
set_option maxRecDepth 10000 in
theorem count_does (l : List Bool) (nn : Bool) (hl : l.length ≤ 1000000000000) (H : AHeap) : Does Tryz.prog 47 [.d (.list nn (boolR l))] H (.ok (iA (countP1 l))) H := by
  refine Does.of_awp (hint := (fun _ => false)) Tryz.func47 (by kernel_rfl) rfl [2] (by kernel_rfl) (by decide) (by simp [Tryz.ntmps47]) ?_
  rw [Tryz.ntmps47]
  simp (implicitDefEqProofs := false) only [↓reduceIte, go_sem, Nat.reduceLT, reduceCtorEq, eq_self]
  refine awp_for (fun k s H' => H' = H ∧ s 3 = iA (countP1 (l.take k)) ∧ s 6 = .d (.list nn (boolR l)) ∧ s 7 = iA l.length ∧ s 8 = iA k) l.length (by omega) (Weak.refl _ _) ?_ ?_ ?_
  · refine ⟨rfl, ?_⟩
    simp (implicitDefEqProofs := false) only [↓reduceIte, go_sem, Nat.reduceLT, Nat.reduceEqDiff, eq_self, boolR_len]
    rfl
  · rintro k s H' hk hw ⟨rfl, t3, t6, t7, t8⟩
    have hx := boolR_get l k hk
    have e1 := countP1_snoc (l.take k) l[k]
    rw [← List.take_succ_eq_append_getElem hk] at e1
    have hle := countP1_le (l.take k)
    rw [List.length_take] at hle
    rw [e1]
    generalize l[k] = b at *
    generalize countP1 (l.take k) = c at *
    have wc : IntKind.i64.wrap ((c : Int) + 1) = ((c + 1 : Nat) : Int) := by rw [wrap64_in _ (by omega) (by omega)]; rfl
    cases b with
    | true =>
      simp (implicitDefEqProofs := false) only [↓reduceIte, go_sem, Nat.reduceLT, Nat.reduceEqDiff, eq_self, t3, t6, t7, t8, hk, hx, wc]
      refine Rnd.same ⟨rfl, ?_⟩
      simp (implicitDefEqProofs := false) only [↓reduceIte, go_sem, Nat.reduceLT, Nat.reduceEqDiff, eq_self, t6, t7, hw]
    | false =>
      simp (implicitDefEqProofs := false) only [↓reduceIte, go_sem, Nat.reduceLT, Nat.reduceEqDiff, reduceCtorEq, eq_self, t6, t7, t8, hk, hx]
      refine Rnd.same ⟨rfl, ?_⟩
      simp (implicitDefEqProofs := false) only [↓reduceIte, go_sem, Nat.reduceLT, Nat.reduceEqDiff, eq_self, t3, t6, t7, hw]
  · rintro s H' ⟨rfl, t3, t6, t7, t8⟩
    rw [List.take_length] at t3
    simp (implicitDefEqProofs := false) only [↓reduceIte, go_sem, Nat.reduceLT, Nat.reduceEqDiff, eq_self, t3, t7, t8]
    refine AEnd.ret0 ?_
    simp (implicitDefEqProofs := false) only [↓reduceIte, go_sem, Nat.reduceLT, eq_self]
set_option maxRecDepth 10000 in
set_option maxHeartbeats 1000000 in
theorem nbytes_does (l : List Bool) (nn : Bool) (hl : l.length ≤ 1000000) (H : AHeap) : Does Tryz.prog 35 [.d (.list nn (boolR l))] H (.ok (.d (.list false (bys (packB l))))) H := by
  have z0 : wH H [] = H ++ [.box 125 2 0 1 [.sl (H.length + 1) 0 0 0, iA 0], .arr 5 1 0 []] := rfl
  refine Does.of_awp (hint := (fun t => t == 1000002)) Tryz.func35 (by kernel_rfl) rfl [2] (by kernel_rfl) (by decide) (by simp [Tryz.ntmps35]) ?_
  rw [Tryz.ntmps35]
  simp (implicitDefEqProofs := false) only [↓reduceIte, go_sem, Nat.reduceAdd, Nat.reduceLT, Nat.reduceBEq, eq_self]
  refine ⟨_, _, Weak.virtBox _ _ H.length 125 2 0 1 [.d (.v (.slice none 0 0)), iA 0] 0 _ 5 1 (by decide) (by simp) rfl rfl, ?_⟩
  simp (implicitDefEqProofs := false) only [↓reduceIte, go_sem, reduceCtorEq]
  rw [← z0]
  refine awp_for (fun k s H' => H' = wH H (l.take k) ∧ s 3 = .ptr H.length 0 0 0 ∧ s 9 = .d (.list nn (boolR l)) ∧ s 10 = iA l.length ∧ s 11 = iA k) l.length (by omega) (Weak.refl _ _) ?_ ?_ ?_
  · refine ⟨rfl, ?_⟩
    simp (implicitDefEqProofs := false) only [↓reduceIte, go_sem, Nat.reduceLT, Nat.reduceEqDiff, reduceCtorEq, eq_self, boolR_len]
  · rintro k s H' hk hw ⟨rfl, t3, t9, t10, t11⟩
    have hx := boolR_get l k hk
    have e1 := List.take_succ_eq_append_getElem hk
    have b1 : bitsN 1 1 = [true] := by decide
    have b0 : bitsN 0 1 = [false] := by decide
    have hp1 := wput_does 1 1 (by decide) (by decide) H (l.take k) (by rw [List.length_take]; omega)
    have hp0 := wput_does 0 1 (by decide) (by decide) H (l.take k) (by rw [List.length_take]; omega)
    rw [b1] at hp1
    rw [b0] at hp0
    rw [e1]
    generalize l[k] = b at *
    cases b with
    | true =>
      simp (implicitDefEqProofs := false) only [↓reduceIte, go_sem, Nat.reduceAdd, Nat.reduceLT, Nat.reduceEqDiff, Nat.reduceBEq, eq_self, t3, t9, t10, t11, hk, hx]
      refine KCall.ok hp1 ?_
      simp (implicitDefEqProofs := false) only [↓reduceIte, go_sem, Nat.reduceAdd, Nat.reduceLT, Nat.reduceEqDiff, Nat.reduceBEq, eq_self, t11]
      refine Rnd.same ⟨rfl, ?_⟩
      simp (implicitDefEqProofs := false) only [↓reduceIte, go_sem, Nat.reduceLT, Nat.reduceEqDiff, eq_self, t3, t9, t10, hw]
    | false =>
      simp (implicitDefEqProofs := false) only [↓reduceIte, go_sem, Nat.reduceAdd, Nat.reduceLT, Nat.reduceEqDiff, Nat.reduceBEq, eq_self, t3, t9, t10, t11, hk, hx]
      refine KCall.ok hp0 ?_
      simp (implicitDefEqProofs := false) only [↓reduceIte, go_sem, Nat.reduceAdd, Nat.reduceLT, Nat.reduceEqDiff, Nat.reduceBEq, eq_self, t11]
      refine Rnd.same ⟨rfl, ?_⟩
      simp (implicitDefEqProofs := false) only [↓reduceIte, go_sem, Nat.reduceLT, Nat.reduceEqDiff, eq_self, t3, t9, t10, hw]
  · rintro s H' ⟨rfl, t3, t9, t10, t11⟩
    rw [List.take_length]
    simp (implicitDefEqProofs := false) only [↓reduceIte, go_sem, Nat.reduceAdd, Nat.reduceLT, Nat.reduceEqDiff, Nat.reduceBEq, eq_self, t3, t10, t11]
    refine KCall.ok (wbytes_does H l (by omega)) ?_
    simp (implicitDefEqProofs := false) only [↓reduceIte, go_sem, Nat.reduceLT, eq_self]
    unfold wH
    refine AEnd.ret ?_
    simp (implicitDefEqProofs := false) only [↓reduceIte, go_sem, Nat.reduceLT, eq_self]
def nofL (b : List Nat) (n : Nat) : List Bool := (unpackL b n 1).map fun x => decide (x = 1)
set_option maxRecDepth 10000 in
set_option maxHeartbeats 1000000 in
theorem nof_does (b : List Nat) (n : Nat) (hl : b.length ≤ 140737488351232) (hb : ∀ c ∈ b, c < 256) (hn : n ≤ 1048576) (H : AHeap) :
    Does Tryz.prog 44 [.d (.list false (bys b)), iA n] H (.ok (.tup [.d (.list false (boolR (if unpackE b n 1 = 0 then nofL b n else []))), iA (unpackE b n 1)])) H := by
  have hu := fun H => unpack_does b n 1 false hl hb hn (by decide) H
  have hLl := unpackL_len b n 1
  have hLt := unpackL_lt b n 1 (by decide)
  unfold unpackA at hu
  unfold nofL
  generalize unpackL b n 1 = L at *
  generalize unpackE b n 1 = e at *
  by_cases he : e = 0
  · subst he
    rw [if_pos rfl] at hu
    rw [if_pos rfl]
    refine Does.of_awp (hint := (fun _ => false)) Tryz.func44 (by kernel_rfl) rfl [4, 5] (by kernel_rfl) (by decide) (by simp [Tryz.ntmps44]) ?_
    rw [Tryz.ntmps44]
    simp (implicitDefEqProofs := false) only [↓reduceIte, go_sem, Nat.reduceLT, Nat.reduceEqDiff, reduceCtorEq, eq_self]
    refine KCall.ok (hu _) ?_
    simp (implicitDefEqProofs := false) only [↓reduceIte, go_sem, Nat.reduceLT, Nat.reduceEqDiff, eq_self]
    refine awp_for (fun k s H' => H' = H ++ [.arr 4 1 k (boolR ((L.take k).map fun x => decide (x = 1)))] ∧ s 8 = .sl H.length k 0 k ∧ s 20 = .d (.list false (us L)) ∧ s 21 = iA L.length ∧ s 22 = iA k) L.length (by omega) (Weak.virt1 _ _ 8 4 1 (by decide) (by simp (implicitDefEqProofs := false) only [↓reduceIte, go_sem, Nat.reduceLT, Nat.reduceEqDiff, eq_self]) _) ?_ ?_ ?_
    · refine ⟨rfl, ?_⟩
      simp (implicitDefEqProofs := false) only [↓reduceIte, go_sem, Nat.reduceLT, Nat.reduceEqDiff, eq_self, us_len]
    · rintro k s H' hk hw ⟨rfl, t8, t20, t21, t22⟩
      have hx := us_get L k hk
      have e1 : (L.take (k + 1)).map (fun x => decide (x = 1)) = (L.take k).map (fun x => decide (x = 1)) ++ [decide (L[k] = 1)] := by rw [List.take_succ_eq_append_getElem hk, List.map_append]; rfl
      have hml : ((L.take k).map fun x => decide (x = 1)).length = k := by rw [List.length_map, List.length_take]; omega
      have hd : decide ((L[k] : Int) = 1) = decide (L[k] = 1) := decide_eq_decide.2 (by omega)
      rw [e1]
      generalize (L.take k).map (fun x => decide (x = 1)) = B at *
      generalize hdv : decide (L[k] = 1) = dv at *
      simp (implicitDefEqProofs := false) only [↓reduceIte, go_sem, Nat.reduceLT, Nat.reduceLeDiff, Nat.reduceEqDiff, eq_self, t8, t20, t21, t22, hk, hx, hd, boolR_len, hml, boolR_snoc]
      refine ⟨by omega, by omega, ?_⟩
      refine Rnd.same ⟨rfl, ?_⟩
      simp (implicitDefEqProofs := false) only [↓reduceIte, go_sem, Nat.reduceLT, Nat.reduceEqDiff, eq_self, t20, t21, hw]
    · rintro s H' ⟨rfl, t8, t20, t21, t22⟩
      rw [List.take_length]
      simp (implicitDefEqProofs := false) only [↓reduceIte, go_sem, Nat.reduceLT, Nat.reduceEqDiff, eq_self, t8, t21, t22]
      refine AEnd.ret ?_
      simp (implicitDefEqProofs := false) only [↓reduceIte, go_sem, Nat.reduceLT, Nat.reduceEqDiff, eq_self, List.take_of_length_le (show (boolR (L.map fun x => decide (x = 1))).length ≤ L.length by rw [boolR_len, List.length_map]; exact Nat.le_refl _)]
  · rw [if_neg he] at hu
    rw [if_neg he]
    refine Does.subT (cs := [.d (.v (.slice none 0 0)), iA e]) ?_ (.cons .nil (.cons (.refl _) .nil))
    refine Does.of_awp (hint := (fun _ => false)) Tryz.func44 (by kernel_rfl) rfl [4, 5] (by kernel_rfl) (by decide) (by simp [Tryz.ntmps44]) ?_
    rw [Tryz.ntmps44]
    simp (implicitDefEqProofs := false) only [↓reduceIte, go_sem, Nat.reduceLT, Nat.reduceEqDiff, reduceCtorEq, eq_self]
    refine KCall.ok (hu _) ?_
    simp (implicitDefEqProofs := false) only [↓reduceIte, go_sem, Nat.reduceLT, Nat.reduceEqDiff, eq_self, he]
    refine AEnd.ret0 ?_
    simp (implicitDefEqProofs := false) only [↓reduceIte, go_sem, Nat.reduceLT, Nat.reduceEqDiff, eq_self]
end Go.Proofs.YtmbagpfmfiegkaaGreat
namespace Go.Proofs.YtmbagpfmfiegkaaGreatAw
open Go.RowKit
set_option linter.unusedVariables false
set_option linter.unusedSimpArgs false
section
variable (P : Program) (hint : Nat → Bool) (n : Nat) (y : Code) (m : Nat) (In : AHeap → Prop) (Ix : AX → AHeap → Prop) (H Hk : AHeap) (s : Nat → AV)
/-- Behind a round's body. -/
def KRy : Post := fun e s2 H3 => ∃ s3 H4, Weak Hk s2 H3 s3 H4 ∧ H4.length = m ∧ (match e with | .normal => In H4 | .panic _ => False | e => Ix e H4)
/-- Behind the assignments to the loop's left sides. -/
def KRx : Post := fun e s1 H2 => match e with | .normal => awp P hint n Hk y (KRy m In Ix Hk) s1 H2 | _ => False
theorem KRx_normal : KRx P hint n y m In Ix Hk .normal s H = awp P hint n Hk y (KRy m In Ix Hk) s H := rfl
theorem aparams_one (t : Tmp) (v : AV) : aparams n s [t] [v] = aput n s (some t) v := rfl
end
attribute [go_sem] KRx_normal aparams_one
@[congr] theorem cg_KRx {P : Program} {hint : Nat → Bool} {n : Nat} {y : Code} {m : Nat} {In : AHeap → Prop} {Ix : AX → AHeap → Prop} {Hk : AHeap} {e : AX} {s : Nat → AV} {H H' : AHeap} (h : nf H = H') : KRx P hint n y m In Ix Hk e s H = KRx P hint n y m In Ix Hk e s H' := by rw [← h]; rfl
@[congr] theorem cg_KRy {m : Nat} {In : AHeap → Prop} {Ix : AX → AHeap → Prop} {Hk : AHeap} {e : AX} {s : Nat → AV} {H H' : AHeap} (h : nf H = H') : KRy m In Ix Hk e s H = KRy m In Ix Hk e s H' := by rw [← h]; rfl
/-- A round's end: what was new is forgotten. -/
theorem KRy.cut {m : Nat} {In : AHeap → Prop} {Ix : AX → AHeap → Prop} {H ob0 : AHeap} {s : Nat → AV} (objs T : AHeap) {H3 : AHeap} (e : H3 = H ++ (objs ++ T)) (hk : objs.length = ob0.length) (hm : m = (H ++ ob0).length) (hb : objs.all (AObj.below m) = true)
    (hi : In (H ++ objs)) : KRy m In Ix (H ++ ob0) .normal s H3 := by
  subst e
  have hl : (H ++ objs).length = m := by rw [hm]; simp [hk]
  have hw := Weak.trunc (H0 := H ++ ob0) s (H ++ (objs ++ T)) m (by omega) (by rw [← hl]; simp) fun i o h1 ho => by
    rw [← List.append_assoc, List.getElem?_append_left (by omega)] at ho
    rcases Nat.lt_or_ge i H.length with hi | hi
    · rw [List.getElem?_append_left hi] at ho
      exact .inl (by rw [List.getElem?_append_left hi]; exact ho)
    · rw [List.getElem?_append_right hi] at ho
      rw [List.all_eq_true] at hb
      exact .inr (hb o (List.mem_of_getElem? ho))
  rw [show (H ++ (objs ++ T)).take m = H ++ objs from by rw [← List.append_assoc, ← hl, List.take_left]] at hw
  exact ⟨_, _, hw, hl, hi⟩
theorem KRy.same {m : Nat} {In : AHeap → Prop} {Ix : AX → AHeap → Prop} {Hk H3 : AHeap} {s : Nat → AV} (hl : H3.length = m) (hi : In H3) : KRy m In Ix Hk .normal s H3 := ⟨s, H3, .refl _ _, hl, hi⟩
theorem awp_range {P : Program} {hint : Nat → Bool} {n : Nat} {H0 : AHeap} {g : Operand} {ps : Array Tmp} {x y : Code} {Q : Post} {s s0 : Nat → AV} {H H1 : AHeap} (hint' : Nat → Bool) {gf : FuncId} {caps : List AV} {xs : List (List AV)} {C : AHeap → Prop} (I : Nat → AHeap → Prop) (Ix : AX → AHeap → Prop)
    (hm : hint 2000000 = true) (hm' : hint' 2000000 = false) (hW : Weak H0 s H s0 H1) (hg : aeval s0 g = .fn gf caps) (hs : SeqD P gf caps C xs) (hx : ∀ v ∈ xs, v.length = ps.size ∧ ∀ u ∈ v, below1 H1.length u = true) (h0 : I 0 H1) (hC : ∀ k Hk, I k Hk → C Hk ∧ Hk.length = H1.length)
    (round : ∀ k (hk : k < xs.length) Hk, I k Hk → awp P hint' n Hk x (KRx P hint' n y H1.length (I (k + 1)) Ix Hk) (aparams n s0 ps.toList (xs[k])) Hk)
    (done : ∀ Hn, I xs.length Hn → Q .normal s0 Hn) (stop : ∀ e Hx, Ix e Hx → Q e s0 Hx) : awp P hint n H0 (.rangeFunc g ps x y) Q s H := by
  refine ⟨hm, hint', gf, caps, xs, C, I, Ix, s0, H1, hm', hW, hg, hs, fun v hv => ⟨(hx v hv).1, fun u hu => bel1 ((hx v hv).2 u hu)⟩, h0, hC, fun k hk Hk hI => ?_, done, stop⟩
  exact round k hk Hk hI
theorem OBel.mono {m m' : Nat} {o : AObj} (h : OBel m o) (hm : m ≤ m') : OBel m' o :=
  ⟨fun e k ver n cs he c hc => (h.1 e k ver n cs he c hc).mono hm, fun kk es he e hx => (h.2.1 kk es he e hx).mono hm, fun a b c he => Nat.lt_of_lt_of_le (h.2.2.1 a b c he) hm, fun r s he t => (h.2.2.2 r s he t).mono hm⟩
theorem iter_bel {m : Nat} {Hs Hk : AHeap} {r r' : Loop} {s : Nat → AV} (hb : HBel m Hk) (hl : Hk.length = m) (hs : ∀ t, Bel m (s t)) : ∀ (i : Nat) (o : AObj), (Hk ++ [AObj.lp r' s])[i]? = some o → (Hs ++ [AObj.lp r s])[i]? = some o ∨ OBel (m + 1) o := by
  intro i o h
  right
  rcases get_snoc h with ⟨h1, _⟩ | ⟨_, rfl⟩
  · exact (hb i o h1).mono (by omega)
  · exact ⟨fun _ _ _ _ _ he => (by cases he), fun _ _ he => (by cases he), fun _ _ _ he => (by cases he), fun _ _ he t => (by cases he; exact (hs t).mono (by omega))⟩
/-- Between two rounds, what the iterator laid down in the last one is forgotten. -/
theorem Weak.iter {m : Nat} {Hs Hk T H : AHeap} {r r' : Loop} {s0 s : Nat → AV} (e : H = Hk ++ ([.lp r' s0] ++ T)) (hb : HBel m Hk) (hl : Hk.length = m) (hl' : Hs.length = m) (hs : ∀ t, Bel m (s0 t)) : Weak (Hs ++ [.lp r s0]) s H (fun t => frz H (m + 1) (s t)) (Hk ++ [.lp r' s0]) := by
  subst e
  have hlen : (Hk ++ [AObj.lp r' s0]).length = m + 1 := by simp [hl]
  have hw := Weak.truncB (H0 := Hs ++ [.lp r s0]) s (Hk ++ ([.lp r' s0] ++ T)) (m + 1) (by simp [hl']) (by simp; omega) fun i o h1 ho => by
    rw [← List.append_assoc, List.getElem?_append_left (by omega)] at ho
    exact iter_bel hb hl hs i o ho
  rwa [show (Hk ++ ([AObj.lp r' s0] ++ T)).take (m + 1) = Hk ++ [.lp r' s0] from by rw [← List.append_assoc, ← hlen, List.take_left]] at hw
theorem frz_yld (H : AHeap) (m id : Nat) : frz H m (.yld id) = if id < m then .yld id else .top := rfl
attribute [go_sem] frz_yld
end Go.Proofs.YtmbagpfmfiegkaaGreatAw
namespace Go.Proofs.YtmbagpfmfiegkaaGreat
open Go.Proofs.YtmbagpfmfiegkaaGreatAw Go.RowKit
set_option linter.unusedVariables false
set_option linter.unusedSimpArgs false
theorem int_arg {x : AV} (h : ArgOk Tryz.prog 3 x) : ∃ n : Int, x = .d (.v (.int .i64 n)) ∧ I64 n := by
  obtain ⟨d, rfl, hf⟩ := arg_one h K.agB3 (sh := .int .i64) (by kernel_rfl)
  obtain ⟨n, rfl, hn⟩ := Fits.i64_inv hf
  exact ⟨n, rfl, hn⟩
theorem vals_arg {x : AV} (h : ArgOk Tryz.prog 42 x) : ∃ l : List Val, x = .d (.list false (l.map Val.enc)) ∧ l.length ≤ 140737488351232 ∧ ∀ a ∈ l, a.Ok := by
  obtain ⟨d, rfl, hf⟩ := arg_one h K.agB42 (sh := .slice 32 shVal) (by kernel_rfl)
  obtain ⟨l, rfl, hl, hn⟩ := vals_inv hf
  exact ⟨l, rfl, by omega, hn⟩
end Go.Proofs.YtmbagpfmfiegkaaGreat
namespace Go.Proofs.YtmbagpfmfiegkaaGreat
open Go.Proofs.YtmbagpfmfiegkaaGreatAw Go.RowKit
set_option linter.unusedVariables false
set_option linter.unusedSimpArgs false
/-- The values that aren't nothing. -/
def someV (l : List Val) : List Val := l.filter fun v => decide (v.kind ≠ 0)
def someX (l : List Val) : List (List AV) := (someV l).map fun v => [v.av]
abbrev lB (l : List Val) : AObj := .box 42 1 0 1 [.d (.list false (l.map Val.enc))]
theorem someV_snoc (l : List Val) (v : Val) : someV (l ++ [v]) = if v.kind = 0 then someV l else someV l ++ [v] := by
  unfold someV
  rw [List.filter_append]
  by_cases h : v.kind = 0 <;> simp [h]
theorem someX_at (l : List Val) {k : Nat} (hk : k < l.length) (hz : l[k].kind ≠ 0) : ∃ h : (someV (l.take k)).length < (someX l).length, (someX l)[(someV (l.take k)).length] = [l[k].av] := by
  have e : someV l = someV (l.take k) ++ l[k] :: someV (l.drop (k + 1)) := by
    have h1 : l = l.take k ++ (l[k] :: l.drop (k + 1)) := by rw [← List.drop_eq_getElem_cons hk, List.take_append_drop]
    have h2 : someV (l.take k ++ (l[k] :: l.drop (k + 1))) = someV (l.take k) ++ l[k] :: someV (l.drop (k + 1)) := by
      unfold someV
      rw [List.filter_append, List.filter_cons, if_pos (by simpa using hz)]
    rw [← h1] at h2
    exact h2
  unfold someX
  rw [e]
  refine ⟨by simp, ?_⟩
  simp
set_option maxRecDepth 10000 in
theorem some_does (l : List Val) (H : AHeap) : Does Tryz.prog 57 [.d (.list false (l.map Val.enc))] H (.ok (.fn 101 [.ptr H.length 0 0 0])) (H ++ [lB l]) := by
  refine Does.of_awp (hint := (fun _ => false)) Tryz.func57 (by kernel_rfl) rfl [2] (by kernel_rfl) (by decide) (by simp [Tryz.ntmps57]) ?_
  rw [Tryz.ntmps57]
  simp (implicitDefEqProofs := false) only [↓reduceIte, go_sem, Nat.reduceLT, Nat.reduceEqDiff, eq_self]
  exact ⟨_, Weak.refl _ _, by simp (implicitDefEqProofs := false) only [↓reduceIte, go_sem, Nat.reduceLT, eq_self]⟩
set_option maxRecDepth 10000 in
set_option maxHeartbeats 1000000 in
theorem someSeq (l : List Val) (id : Nat) (hl : l.length ≤ 1000000000000) : SeqD Tryz.prog 101 [.ptr id 0 0 0] (fun H => H[id]? = some (lB l)) (someX l) := by
  intro r s0 J Jx m Hs h0 hsb hJ hY
  refine DoesR.of_awp (hint := fun t => t == 3000000) Tryz.func101 (by kernel_rfl) rfl [] (by kernel_rfl) (by decide) (by simp [Tryz.ntmps101]) ?_
  rw [Tryz.ntmps101]
  obtain ⟨hC0, _, hl0⟩ := hJ 0 Hs h0
  have hx0 : (Hs ++ [AObj.lp r s0])[id]? = some (lB l) := by rw [List.getElem?_append_left (len_of_get hC0)]; exact hC0
  simp (implicitDefEqProofs := false) only [↓reduceIte, go_sem, oread, Nat.reduceLT, eq_self, hx0]
  refine awp_for (fun k s H' => ∃ Hk, J (someV (l.take k)).length Hk ∧ H' = Hk ++ [.lp r s0] ∧ s 0 = .yld m ∧ s 5 = .d (.list false (l.map Val.enc)) ∧ s 6 = iA l.length ∧ s 7 = iA k) l.length (by omega) (Weak.refl _ _) ?_ ?_ ?_
  · refine ⟨Hs, h0, rfl, ?_⟩
    simp (implicitDefEqProofs := false) only [↓reduceIte, go_sem, Nat.reduceLT, Nat.reduceEqDiff, reduceCtorEq, eq_self]
  · rintro k s H' hk hw ⟨Hk, hJk, rfl, t0, t5, t6, t7⟩
    have hx : (l.map Val.enc)[k]? = some [.v (.int .i64 l[k].kind), .v (.int .i64 l[k].i), .v (.string l[k].s)] := by rw [List.getElem?_map, List.getElem?_eq_getElem hk]; rfl
    have e1 := someV_snoc (l.take k) l[k]
    rw [← List.take_succ_eq_append_getElem hk] at e1
    obtain ⟨hCk, hbk, hlk⟩ := hJ _ _ hJk
    by_cases hz : l[k].kind = 0
    · rw [if_pos hz] at e1
      generalize l[k] = v at *
      simp (implicitDefEqProofs := false) only [↓reduceIte, go_sem, oread, owrite, Nat.reduceAdd, Nat.reduceLT, Nat.reduceLeDiff, Nat.reduceEqDiff, Nat.reduceBEq, reduceCtorEq, eq_self, t5, t6, t7, hk, hx, hz]
      refine ⟨_, _, Weak.iter rfl hbk hlk hl0 hsb, Hk, by rw [e1]; exact hJk, rfl, ?_⟩
      simp (implicitDefEqProofs := false) only [↓reduceIte, go_sem, Nat.reduceLT, Nat.reduceEqDiff, reduceCtorEq, eq_self, t0, t5, t6, hw, Nat.lt_add_one]
    · rw [if_neg hz] at e1
      obtain ⟨hi, hxi⟩ := someX_at l hk hz
      have hYk := fun T => hY _ hi Hk T hJk
      rw [hxi] at hYk
      generalize hv : l[k] = v at *
      simp (implicitDefEqProofs := false) only [↓reduceIte, go_sem, oread, owrite, Nat.reduceAdd, Nat.reduceLT, Nat.reduceLeDiff, Nat.reduceEqDiff, Nat.reduceBEq, reduceCtorEq, eq_self, t0, t5, t6, t7, hk, hx, hz]
      refine KYld.ok (hYk [.box 25 3 0 1 [iA v.kind, iA v.i, sA v.s]]) ?_
      intro b H' hb
      cases b with
      | true =>
        rw [if_pos rfl] at hb
        obtain ⟨Hk', hJk', rfl⟩ := hb
        obtain ⟨hCk', hbk', hlk'⟩ := hJ _ _ hJk'
        simp (implicitDefEqProofs := false) only [↓reduceIte, go_sem, Nat.reduceAdd, Nat.reduceLT, Nat.reduceEqDiff, Nat.reduceBEq, eq_self, t7]
        refine ⟨_, _, Weak.iter rfl hbk' hlk' hl0 hsb, Hk', by rw [e1, List.length_append]; exact hJk', rfl, ?_⟩
        simp (implicitDefEqProofs := false) only [↓reduceIte, go_sem, Nat.reduceLT, Nat.reduceEqDiff, reduceCtorEq, eq_self, t0, t5, t6, hw, Nat.lt_add_one]
      | false =>
        rw [if_neg (by simp)] at hb
        obtain ⟨Hk', c, hjx, hbk', hlk', rfl⟩ := hb
        simp (implicitDefEqProofs := false) only [↓reduceIte, go_sem, Nat.reduceLT, Nat.reduceEqDiff, eq_self]
        exact ⟨_, _, Weak.iter rfl hbk' hlk' hl0 hsb, rfl, .inr ⟨Hk', c, hjx, hlk', rfl⟩⟩
  · rintro s H' ⟨Hk, hJk, rfl, t0, t5, t6, t7⟩
    rw [List.take_length] at hJk
    simp (implicitDefEqProofs := false) only [↓reduceIte, go_sem, Nat.reduceLT, eq_self, t6, t7]
    exact ⟨_, _, Weak.refl _ _, rfl, .inl ⟨Hk, by unfold someX; rw [List.length_map]; exact hJk, rfl⟩⟩
end Go.Proofs.YtmbagpfmfiegkaaGreat
namespace Go.Proofs.YtmbagpfmfiegkaaGreat
open Go.Proofs.YtmbagpfmfiegkaaGreatAw Go.RowKit
set_option linter.unusedVariables false
set_option linter.unusedSimpArgs false
set_option maxRecDepth 10000 in
set_option maxHeartbeats 1000000 in
theorem appendSeq_does (gf : FuncId) (caps : List AV) (C : AHeap → Prop) (l : List Val) (H : AHeap) (hs : SeqD Tryz.prog gf caps C (l.map fun v => [v.av])) (hC : ∀ T, C (H ++ T)) (hl : l.length ≤ 1000000000) :
    Does Tryz.prog 126 [.d (.v (.slice none 0 0)), .fn gf caps] H (.ok (.d (.list false (l.map Val.enc)))) H := by
  refine Does.of_awp (hint := (fun t => t == 2000000)) Tryz.func126 (by kernel_rfl) rfl [4] (by kernel_rfl) (by decide) (by simp [Tryz.ntmps126]) ?_
  rw [Tryz.ntmps126]
  simp (implicitDefEqProofs := false) only [↓reduceIte, go_sem, Nat.reduceAdd, Nat.reduceLT, Nat.reduceEqDiff, Nat.reduceBEq]
  refine awp_range (fun _ => false) (fun k Hk => Hk = H ++ [.box 42 1 0 1 [.sl (H.length + 1) k 0 k], .arr 25 3 k ((l.take k).map Val.enc)]) (fun _ _ => False) rfl rfl (Weak.virtBox _ _ H.length 42 1 0 1 [.d (.v (.slice none 0 0))] 0 _ 25 3 (by decide) (by simp) rfl rfl) (by simp (implicitDefEqProofs := false) only [↓reduceIte, go_sem, Nat.reduceLT, eq_self]) hs ?_ ?_ ?_ ?_ ?_ (fun _ _ h => h.elim)
  · intro v hv
    obtain ⟨u, _, rfl⟩ := List.mem_map.1 hv
    exact ⟨rfl, fun w hw => by rw [List.mem_singleton.1 hw]; rfl⟩
  · simp (implicitDefEqProofs := false) only [go_sem, eq_self, List.take_zero]
  · rintro k _ rfl
    exact ⟨hC _, by simp (implicitDefEqProofs := false) only [go_sem, Nat.reduceAdd, eq_self]⟩
  · rintro k hk _ rfl
    rw [List.length_map] at hk
    have e1 : (l.take (k + 1)).map Val.enc = (l.take k).map Val.enc ++ [l[k].enc] := by rw [List.take_succ_eq_append_getElem hk, List.map_append]; rfl
    have hlen : ((l.take k).map Val.enc).length = k := by rw [List.length_map, List.length_take]; omega
    rw [e1, List.getElem_map]
    generalize (l.take k).map Val.enc = B at *
    generalize l[k] = v at *
    simp (implicitDefEqProofs := false) only [↓reduceIte, go_sem, oread, owrite, Nat.reduceAdd, Nat.reduceLT, Nat.reduceLeDiff, Nat.reduceEqDiff, eq_self, hlen]
    refine ⟨by omega, by omega, ?_⟩
    refine KRy.cut [.box 42 1 0 1 [.sl (H.length + 1) (k + 1) 0 (k + 1)], .arr 25 3 (k + 1) (B ++ [v.enc])] _ rfl rfl (by simp (implicitDefEqProofs := false) only [go_sem, Nat.reduceAdd, eq_self]) (by simp (implicitDefEqProofs := false) only [go_sem, Nat.reduceAdd, Nat.reduceLT, eq_self]) ?_
    rfl
  · rintro _ rfl
    rw [List.length_map, List.take_length]
    simp (implicitDefEqProofs := false) only [↓reduceIte, go_sem, oread, Nat.reduceAdd, Nat.reduceLT, Nat.reduceEqDiff, Nat.reduceBEq, eq_self]
    refine AEnd.ret ?_
    simp (implicitDefEqProofs := false) only [↓reduceIte, go_sem, Nat.reduceLT, eq_self, List.take_of_length_le (show (l.map Val.enc).length ≤ l.length by simp)]
set_option maxRecDepth 10000 in
theorem collect_does (gf : FuncId) (caps : List AV) (C : AHeap → Prop) (l : List Val) (H : AHeap) (hs : SeqD Tryz.prog gf caps C (l.map fun v => [v.av])) (hC : ∀ T, C (H ++ T)) (hl : l.length ≤ 1000000000) :
    Does Tryz.prog 89 [.fn gf caps] H (.ok (.d (.list false (l.map Val.enc)))) H := by
  refine Does.of_awp (hint := (fun _ => false)) Tryz.func89 (by kernel_rfl) rfl [2] (by kernel_rfl) (by decide) (by simp [Tryz.ntmps89]) ?_
  rw [Tryz.ntmps89]
  simp (implicitDefEqProofs := false) only [↓reduceIte, go_sem, Nat.reduceLT, reduceCtorEq, eq_self]
  refine KCall.ok (appendSeq_does gf caps C l _ hs hC hl) ?_
  simp (implicitDefEqProofs := false) only [↓reduceIte, go_sem, Nat.reduceLT, eq_self]
  refine AEnd.ret0 ?_
  simp (implicitDefEqProofs := false) only [↓reduceIte, go_sem, Nat.reduceLT, eq_self]
end Go.Proofs.YtmbagpfmfiegkaaGreat
namespace Go.Proofs.YtmbagpfmfiegkaaGreat
open Go.Proofs.YtmbagpfmfiegkaaGreatAw Go.RowKit
set_option linter.unusedVariables false
set_option linter.unusedSimpArgs false
def nullsV (l : List Val) : List Bool := l.map fun v => decide (v.kind = 0)
theorem nullsV_snoc (l : List Val) (v : Val) : nullsV (l ++ [v]) = nullsV l ++ [decide (v.kind = 0)] := by simp [nullsV]
theorem nullsV_len (l : List Val) : (nullsV l).length = l.length := by simp [nullsV]
set_option maxRecDepth 10000 in
set_option maxHeartbeats 1000000 in
theorem split_does (l : List Val) (hl : l.length ≤ 1000000000) (H : AHeap) : Does Tryz.prog 28 [.d (.list false (l.map Val.enc))] H (.ok (.tup [.d (.list false (boolR (nullsV l))), .d (.list false ((someV l).map Val.enc))])) H := by
  refine Does.of_awp (hint := (fun t => t == 2000000)) Tryz.func28 (by kernel_rfl) rfl [2, 3] (by kernel_rfl) (by decide) (by simp [Tryz.ntmps28]) ?_
  rw [Tryz.ntmps28]
  simp (implicitDefEqProofs := false) only [↓reduceIte, go_sem, Nat.reduceAdd, Nat.reduceLT, Nat.reduceBEq, reduceCtorEq, eq_self]
  refine awp_for (fun k s H' => H' = H ++ [.arr 4 1 k (boolR (nullsV (l.take k)))] ∧ s 0 = .d (.list false (l.map Val.enc)) ∧ s 4 = .sl H.length k 0 k ∧ s 9 = .d (.list false (l.map Val.enc)) ∧ s 10 = iA l.length ∧ s 11 = iA k) l.length (by omega) (Weak.virt1 _ _ 4 4 1 (by decide) (by simp (implicitDefEqProofs := false) only [↓reduceIte, go_sem, Nat.reduceLT, Nat.reduceEqDiff, eq_self]) _) ?_ ?_ ?_
  · refine ⟨rfl, ?_⟩
    simp (implicitDefEqProofs := false) only [↓reduceIte, go_sem, Nat.reduceLT, Nat.reduceEqDiff, reduceCtorEq, eq_self]
  · rintro k s H' hk hw ⟨rfl, t0, t4, t9, t10, t11⟩
    have hx : (l.map Val.enc)[k]? = some [.v (.int .i64 l[k].kind), .v (.int .i64 l[k].i), .v (.string l[k].s)] := by rw [List.getElem?_map, List.getElem?_eq_getElem hk]; rfl
    have e1 := nullsV_snoc (l.take k) l[k]
    rw [← List.take_succ_eq_append_getElem hk] at e1
    have hml : (nullsV (l.take k)).length = k := by rw [nullsV_len, List.length_take]; omega
    rw [e1]
    generalize nullsV (l.take k) = B at *
    generalize l[k] = v at *
    generalize hdv : decide (v.kind = 0) = dv at *
    simp (implicitDefEqProofs := false) only [↓reduceIte, go_sem, oread, owrite, Nat.reduceAdd, Nat.reduceLT, Nat.reduceLeDiff, Nat.reduceEqDiff, Nat.reduceBEq, eq_self, t4, t9, t10, t11, hk, hx, hdv, boolR_len, hml, boolR_snoc]
    refine ⟨by omega, by omega, ?_⟩
    refine Rnd.cut [.arr 4 1 (k + 1) (boolR (B ++ [dv]))] _ 1 rfl rfl (by simp (implicitDefEqProofs := false) only [go_sem, eq_self]) ?_
    refine ⟨rfl, ?_⟩
    simp (implicitDefEqProofs := false) only [↓reduceIte, go_sem, Nat.reduceLT, Nat.reduceEqDiff, reduceCtorEq, eq_self, t0, t9, t10, hw]
  · rintro s H' ⟨rfl, t0, t4, t9, t10, t11⟩
    rw [List.take_length]
    simp (implicitDefEqProofs := false) only [↓reduceIte, go_sem, Nat.reduceAdd, Nat.reduceLT, Nat.reduceBEq, reduceCtorEq, eq_self, t0, t10, t11]
    refine KCall.ok (some_does l _) ?_
    simp (implicitDefEqProofs := false) only [go_sem, Nat.reduceAdd]
    have hsq := someSeq l (H.length + 2) (by omega)
    have hfl : (someV l).length ≤ l.length := List.length_filter_le _ _
    unfold someX at hsq
    generalize someV l = L at *
    have hBl : (boolR (nullsV l)).length ≤ l.length := by rw [boolR_len, nullsV_len]; exact Nat.le_refl _
    generalize boolR (nullsV l) = B at *
    refine awp_range (fun _ => false) (fun k Hk => Hk = H ++ [.arr 4 1 l.length B, .box 42 1 0 1 [.sl (H.length + 3) k 0 k], lB l, .arr 25 3 k ((L.take k).map Val.enc)]) (fun _ _ => False) rfl rfl (Weak.virtBox _ _ (H.length + 1) 42 1 0 1 [.d (.v (.slice none 0 0))] 0 _ 25 3 (by decide) (by simp (implicitDefEqProofs := false) only [go_sem, eq_self]) rfl rfl) (by simp (implicitDefEqProofs := false) only [↓reduceIte, go_sem, Nat.reduceLT, eq_self]) hsq ?_ ?_ ?_ ?_ ?_ (fun _ _ h => h.elim)
    · intro v hv
      obtain ⟨u, _, rfl⟩ := List.mem_map.1 hv
      exact ⟨rfl, fun w hw => by rw [List.mem_singleton.1 hw]; rfl⟩
    · simp (implicitDefEqProofs := false) only [go_sem, Nat.reduceAdd, eq_self, List.take_zero]
    · rintro k _ rfl
      exact ⟨by simp (implicitDefEqProofs := false) only [go_sem, eq_self], by simp (implicitDefEqProofs := false) only [go_sem, Nat.reduceAdd, eq_self]⟩
    · rintro k hk _ rfl
      rw [List.length_map] at hk
      have e1 : (L.take (k + 1)).map Val.enc = (L.take k).map Val.enc ++ [L[k].enc] := by rw [List.take_succ_eq_append_getElem hk, List.map_append]; rfl
      have hlen : ((L.take k).map Val.enc).length = k := by rw [List.length_map, List.length_take]; omega
      rw [e1, List.getElem_map]
      generalize (L.take k).map Val.enc = E at *
      generalize L[k] = v at *
      simp (implicitDefEqProofs := false) only [↓reduceIte, go_sem, oread, owrite, Nat.reduceAdd, Nat.reduceLT, Nat.reduceLeDiff, Nat.reduceEqDiff, eq_self, hlen]
      refine ⟨by omega, by omega, ?_⟩
      refine KRy.cut [.arr 4 1 l.length B, .box 42 1 0 1 [.sl (H.length + 3) (k + 1) 0 (k + 1)], lB l, .arr 25 3 (k + 1) (E ++ [v.enc])] _ rfl rfl (by simp (implicitDefEqProofs := false) only [go_sem, Nat.reduceAdd, eq_self]) (by simp (implicitDefEqProofs := false) only [go_sem, Nat.reduceAdd, Nat.reduceLT, eq_self]) ?_
      rfl
    · rintro _ rfl
      rw [List.length_map, List.take_length]
      simp (implicitDefEqProofs := false) only [go_sem, Nat.reduceAdd, Nat.reduceBEq]
      refine awp_draw K.mixed (by kernel_rfl) ?_
      simp (implicitDefEqProofs := false) only [↓reduceIte, go_sem, oread, Nat.reduceLT, Nat.reduceEqDiff, eq_self, t4]
      refine AEnd.ret ?_
      simp (implicitDefEqProofs := false) only [↓reduceIte, go_sem, Nat.reduceLT, Nat.reduceEqDiff, eq_self, List.take_of_length_le (show (L.map Val.enc).length ≤ L.length by simp), List.take_of_length_le hBl]
/-- Values put in the places that aren't nothing. -/
def joinL : List Bool → List Val → List Val
  | [], _ => []
  | true :: ns, l => ⟨0, 0, noS⟩ :: joinL ns l
  | false :: ns, v :: l => v :: joinL ns l
  | false :: ns, [] => []
def joinP (ns : List Bool) (l : List Val) : List Val × Int :=
  if ns.length - countP1 ns ≠ l.length then ([], 4) else if (someV l).length ≠ l.length then ([], 4) else (joinL ns l, 0)
theorem count_cons (b : Bool) (l : List Bool) : countP1 (b :: l) = if b then countP1 l + 1 else countP1 l := by
  unfold countP1
  rw [List.countP_cons]
  cases b <;> simp
set_option maxRecDepth 10000 in
set_option maxHeartbeats 2000000 in
theorem join_does (ns : List Bool) (l : List Val) (hn : ns.length ≤ 1000000) (hl : l.length ≤ 1000000000) (H : AHeap) :
    Does Tryz.prog 48 [.d (.list false (boolR ns)), .d (.list false (l.map Val.enc))] H (.ok (.tup [.d (.list false ((joinP ns l).1.map Val.enc)), iA (joinP ns l).2])) H := by
  have hcl := countP1_le ns
  have hc := fun H => count_does ns false (by omega) H
  have hw1 : IntKind.i64.wrap ((ns.length : Int) - (countP1 ns : Int)) = ((ns.length - countP1 ns : Nat) : Int) := by rw [wrap64_in _ (by omega) (by omega)]; omega
  by_cases h1 : ns.length - countP1 ns = l.length
  · have hne : (((l.length : Nat) : Int) = ((ns.length - countP1 ns : Nat) : Int)) = True := eq_true (by omega)
    have hsq := fun id => someSeq l id (by omega)
    have hfl : (someV l).length ≤ l.length := List.length_filter_le _ _
    unfold someX at hsq
    have hcol := fun (G : AHeap) => collect_does 101 [.ptr G.length 0 0 0] (fun H => H[G.length]? = some (lB l)) (someV l) (G ++ [lB l]) (hsq G.length) (fun T => by rw [List.append_assoc]; simp) (by omega)
    by_cases h2 : (someV l).length = l.length
    · have hj : joinP ns l = (joinL ns l, 0) := by unfold joinP; rw [if_neg (by simp [h1]), if_neg (by simp [h2])]
      have hne2 : ((((someV l).length : Nat) : Int) = ((l.length : Nat) : Int)) = True := eq_true (by omega)
      rw [hj]
      refine Does.of_awp (hint := (fun _ => false)) Tryz.func48 (by kernel_rfl) rfl [4, 5] (by kernel_rfl) (by decide) (by simp [Tryz.ntmps48]) ?_
      rw [Tryz.ntmps48]
      simp (implicitDefEqProofs := false) only [↓reduceIte, go_sem, Nat.reduceLT, Nat.reduceEqDiff, reduceCtorEq, eq_self, boolR_len]
      refine KCall.ok (hc _) ?_
      simp (implicitDefEqProofs := false) only [↓reduceIte, go_sem, Nat.reduceLT, Nat.reduceEqDiff, eq_self, hw1, hne]
      refine KCall.ok (some_does l _) ?_
      simp (implicitDefEqProofs := false) only [↓reduceIte, go_sem, Nat.reduceLT, Nat.reduceEqDiff, eq_self]
      refine KCall.ok (hcol _) ?_
      simp (implicitDefEqProofs := false) only [↓reduceIte, go_sem, Nat.reduceLT, Nat.reduceEqDiff, reduceCtorEq, eq_self, List.length_map, hne2]
      refine awp_for (fun k s H' => ∃ O R, H' = H ++ [lB l, .arr 25 3 k (O.map Val.enc)] ∧ joinL ns l = O ++ joinL (ns.drop k) R ∧ O.length = k ∧ (ns.drop k).length - countP1 (ns.drop k) = R.length ∧ s 1 = .d (.list false (R.map Val.enc)) ∧ s 6 = .sl (H.length + 1) k 0 k ∧ s 26 = .d (.list false (boolR ns)) ∧ s 27 = iA ns.length ∧ s 28 = iA k) ns.length (by omega) (Weak.virt1 _ _ 6 25 3 (by decide) (by simp (implicitDefEqProofs := false) only [↓reduceIte, go_sem, Nat.reduceLT, Nat.reduceEqDiff, eq_self]) _) ?_ ?_ ?_
      · refine ⟨[], l, by simp (implicitDefEqProofs := false) only [go_sem, eq_self], rfl, rfl, h1, ?_⟩
        simp (implicitDefEqProofs := false) only [↓reduceIte, go_sem, Nat.reduceLT, Nat.reduceEqDiff, eq_self, boolR_len]
      · rintro k s H' hk hw ⟨O, R, rfl, hJ, hO, hR, t1, t6, t26, t27, t28⟩
        have hx := boolR_get ns k hk
        have hd : ns.drop k = ns[k] :: ns.drop (k + 1) := List.drop_eq_getElem_cons hk
        rw [hd] at hJ hR
        rw [count_cons] at hR
        have hce := countP1_le (ns.drop (k + 1))
        generalize ns.drop (k + 1) = D at *
        generalize ns[k] = b at *
        have hOl : (O.map Val.enc).length = k := by rw [List.length_map]; exact hO
        cases b with
        | true =>
          simp (implicitDefEqProofs := false) only [↓reduceIte, go_sem, Nat.reduceAdd, Nat.reduceLT, Nat.reduceLeDiff, Nat.reduceEqDiff, eq_self, t6, t26, t27, t28, hk, hx, hOl]
          refine ⟨by omega, by omega, ?_⟩
          refine Rnd.cut [lB l, .arr 25 3 (k + 1) ((O ++ [(⟨0, 0, noS⟩ : Val)]).map Val.enc)] _ 2 rfl (by simp [Val.enc, noS]; rfl) (by simp (implicitDefEqProofs := false) only [go_sem, eq_self]) ⟨O ++ [⟨0, 0, noS⟩], R, rfl, by rw [hJ]; simp [joinL], by simp [hO], by simp at hR; omega, ?_⟩
          simp (implicitDefEqProofs := false) only [↓reduceIte, go_sem, Nat.reduceLT, Nat.reduceEqDiff, eq_self, t1, t26, t27, hw]
        | false =>
          cases R with
          | nil => simp at hR; omega
          | cons v R =>
            simp (implicitDefEqProofs := false) only [↓reduceIte, go_sem, Nat.reduceAdd, Nat.reduceLT, Nat.reduceLeDiff, Nat.reduceEqDiff, Int.reduceLE, Int.reduceToNat, eq_self, t1, t6, t26, t27, t28, hk, hx, hOl, Val.enc]
            refine ⟨by omega, by omega, ?_, by omega, by omega, ?_⟩
            · rintro c (rfl | hc)
              · rfl
              · obtain ⟨u, _, rfl⟩ := List.mem_map.1 hc
                rfl
            refine Rnd.cut [lB l, .arr 25 3 (k + 1) ((O ++ [v]).map Val.enc)] _ 2 rfl (by simp [Val.enc]; rfl) (by simp (implicitDefEqProofs := false) only [go_sem, eq_self]) ⟨O ++ [v], R, rfl, by rw [hJ]; simp [joinL], by simp [hO], by simp at hR; omega, ?_⟩
            simp (implicitDefEqProofs := false) only [↓reduceIte, go_sem, Nat.reduceLT, Nat.reduceEqDiff, eq_self, t26, t27, hw, show ((R.length : Int) + 1).toNat = R.length + 1 by omega, List.take_succ_cons, List.take_of_length_le (show (R.map Val.enc).length ≤ R.length by simp), List.drop_succ_cons, List.drop_zero]
      · rintro s H' ⟨O, R, rfl, hJ, hO, hR, t1, t6, t26, t27, t28⟩
        rw [List.drop_length] at hJ hR
        have hjo : joinL ns l = O := by rw [hJ]; simp [joinL]
        simp (implicitDefEqProofs := false) only [↓reduceIte, go_sem, Nat.reduceLT, Nat.reduceEqDiff, eq_self, t6, t27, t28]
        refine AEnd.ret ?_
        simp (implicitDefEqProofs := false) only [↓reduceIte, go_sem, Nat.reduceLT, Nat.reduceEqDiff, eq_self, hjo, List.take_of_length_le (show (O.map Val.enc).length ≤ ns.length by rw [List.length_map]; omega)]
    · have hj : joinP ns l = ([], 4) := by unfold joinP; rw [if_neg (by simp [h1]), if_pos h2]
      have hne2 : ((((someV l).length : Nat) : Int) = ((l.length : Nat) : Int)) = False := eq_false (by omega)
      rw [hj]
      refine Does.subT (cs := [.d (.v (.slice none 0 0)), iA 4]) ?_ (.cons .nil (.cons (.refl _) .nil))
      refine Does.of_awp (hint := (fun _ => false)) Tryz.func48 (by kernel_rfl) rfl [4, 5] (by kernel_rfl) (by decide) (by simp [Tryz.ntmps48]) ?_
      rw [Tryz.ntmps48]
      simp (implicitDefEqProofs := false) only [↓reduceIte, go_sem, Nat.reduceLT, Nat.reduceEqDiff, reduceCtorEq, eq_self, boolR_len]
      refine KCall.ok (hc _) ?_
      simp (implicitDefEqProofs := false) only [↓reduceIte, go_sem, Nat.reduceLT, Nat.reduceEqDiff, eq_self, hw1, hne]
      refine KCall.ok (some_does l _) ?_
      simp (implicitDefEqProofs := false) only [↓reduceIte, go_sem, Nat.reduceLT, Nat.reduceEqDiff, eq_self]
      refine KCall.ok (hcol _) ?_
      simp (implicitDefEqProofs := false) only [↓reduceIte, go_sem, Nat.reduceLT, Nat.reduceEqDiff, reduceCtorEq, eq_self, List.length_map, hne2]
      refine AEnd.ret ?_
      simp (implicitDefEqProofs := false) only [↓reduceIte, go_sem, Nat.reduceLT, Nat.reduceEqDiff, eq_self]
  · have hj : joinP ns l = ([], 4) := by unfold joinP; rw [if_pos h1]
    have hne : (((l.length : Nat) : Int) = ((ns.length - countP1 ns : Nat) : Int)) = False := eq_false (by omega)
    rw [hj]
    refine Does.subT (cs := [.d (.v (.slice none 0 0)), iA 4]) ?_ (.cons .nil (.cons (.refl _) .nil))
    refine Does.of_awp (hint := (fun _ => false)) Tryz.func48 (by kernel_rfl) rfl [4, 5] (by kernel_rfl) (by decide) (by simp [Tryz.ntmps48]) ?_
    rw [Tryz.ntmps48]
    simp (implicitDefEqProofs := false) only [↓reduceIte, go_sem, Nat.reduceLT, Nat.reduceEqDiff, reduceCtorEq, eq_self, boolR_len]
    refine KCall.ok (hc _) ?_
    simp (implicitDefEqProofs := false) only [↓reduceIte, go_sem, Nat.reduceLT, Nat.reduceEqDiff, eq_self, hw1, hne]
    refine AEnd.ret0 ?_
    simp (implicitDefEqProofs := false) only [↓reduceIte, go_sem, Nat.reduceLT, Nat.reduceEqDiff, eq_self]
end Go.Proofs.YtmbagpfmfiegkaaGreat
namespace Go.Proofs.YtmbagpfmfiegkaaGreat
open Go.Proofs.YtmbagpfmfiegkaaGreatAw Go.RowKit
set_option linter.unusedVariables false
set_option linter.unusedSimpArgs false
/-- A segment. -/
structure Sg where
  kind : Int
  codec : Int
  zone : Zn
  nulls : List Bool
  body : List Nat
deriving DecidableEq
def Sg.cs (s : Sg) : List AV := [iA s.kind, iA s.codec, iA s.zone.rows, iA s.zone.nulls, iA s.zone.mn.kind, iA s.zone.mn.i, sA s.zone.mn.s, iA s.zone.mx.kind, iA s.zone.mx.i, sA s.zone.mx.s, .d (.list false (boolR s.nulls)), .d (.list false (bys s.body))]
def zZn : Zn := ⟨0, 0, ⟨0, 0, noS⟩, ⟨0, 0, noS⟩⟩
def zSg : Sg := ⟨0, 0, zZn, [], []⟩
def zSgC : List AV := [iA 0, iA 0, iA 0, iA 0, iA 0, iA 0, sA noS, iA 0, iA 0, sA noS, .d (.v (.slice none 0 0)), .d (.v (.slice none 0 0))]
theorem zSg_sub : Sub (.agg zSgC) (.agg zSg.cs) :=
  .agg (.cons (.refl _) (.cons (.refl _) (.cons (.refl _) (.cons (.refl _) (.cons (.refl _) (.cons (.refl _) (.cons (.refl _) (.cons (.refl _) (.cons (.refl _) (.cons (.refl _) (.cons .nil (.cons .nil .nil))))))))))))
def whichP (l : List Val) (k w : Int) : Int := if w = 0 then bestP (someV l) k else w
def makeNulls (l : List Val) : List Bool := if (someV l).length = l.length then [] else nullsV l
/-- The segment of values. -/
def makeP (l : List Val) (k w : Int) : Sg × Int :=
  if plainP (someV l) k ≠ 0 then (zSg, plainP (someV l) k)
  else if 4096 < l.length then (zSg, 2)
  else if (bodyP (someV l) k (whichP l k w)).2 ≠ 0 then (zSg, (bodyP (someV l) k (whichP l k w)).2)
  else (⟨k, whichP l k w, zoneP l, makeNulls l, (bodyP (someV l) k (whichP l k w)).1⟩, 0)
set_option maxRecDepth 10000 in
set_option maxHeartbeats 4000000 in
theorem make_does (l : List Val) (k w : Int) (hok : ∀ v ∈ l, I64 v.i) (hl : l.length ≤ 1000000000) (H : AHeap) :
    Does Tryz.prog 14 [.d (.list false (l.map Val.enc)), iA k, iA w] H (.ok (.tup [.agg (makeP l k w).1.cs, iA (makeP l k w).2])) H := by
  have hs := fun H => split_does l hl H
  have hfl : (someV l).length ≤ l.length := List.length_filter_le _ _
  have hok2 : ∀ v ∈ someV l, I64 v.i := fun v hv => hok v ((List.mem_filter.1 hv).1)
  have hc := fun H => plain_does (someV l) k false H (by omega)
  have hbe := fun H => best_does (someV l) k hok2 (by omega) H
  have hbo := fun H => body_does (someV l) k (whichP l k w) hok2 (by omega) H
  have hzo := fun H => zone_does l false hl H
  unfold makeP makeNulls
  have hw0 : w = 0 → whichP l k w = bestP (someV l) k := fun h => if_pos h
  have hw1 : w ≠ 0 → whichP l k w = w := fun h => if_neg h
  generalize whichP l k w = w' at *
  generalize bestP (someV l) k = be at *
  generalize bodyP (someV l) k w' = bo at *
  obtain ⟨bb, e⟩ := bo
  simp only at hbo ⊢
  generalize zoneP l = z at *
  generalize plainP (someV l) k = pe at *
  have hol : ((nullsV l).length = l.length) := nullsV_len l
  generalize nullsV l = ns at *
  generalize someV l = L at *
  by_cases hpe : pe ≠ 0
  · rw [if_pos hpe]
    refine Does.subT (cs := [.agg zSgC, iA pe]) ?_ (.cons zSg_sub (.cons (.refl _) .nil))
    refine Does.of_awpC (hint := fun _ => false) Tryz.func14 (by kernel_rfl) rfl [.cell 6 30, .tmp 7] (by kernel_rfl) (by simp [Tryz.ntmps14]) ?_
    rw [Tryz.ntmps14]
    simp (implicitDefEqProofs := false) only [↓reduceIte, go_sem, Nat.reduceLT, reduceCtorEq, eq_self]
    refine KCall.ok (hs _) ?_
    simp (implicitDefEqProofs := false) only [↓reduceIte, go_sem, Nat.reduceLT, Nat.reduceEqDiff, eq_self]
    refine KCall.ok (hc _) ?_
    simp (implicitDefEqProofs := false) only [↓reduceIte, go_sem, owrite, Nat.reduceAdd, Nat.reduceLT, Nat.reduceEqDiff, eq_self, hpe]
    refine AEndC.ret ?_
    simp (implicitDefEqProofs := false) only [↓reduceIte, go_sem, oread, Nat.reduceAdd, Nat.reduceLT, Nat.reduceLeDiff, Nat.reduceEqDiff, eq_self, resAll, resAV, zSgC, noS]
  rw [if_neg hpe]
  obtain rfl : pe = 0 := by simpa using hpe
  by_cases h4 : 4096 < l.length
  · rw [if_pos h4]
    refine Does.subT (cs := [.agg zSgC, iA 2]) ?_ (.cons zSg_sub (.cons (.refl _) .nil))
    refine Does.of_awpC (hint := fun _ => false) Tryz.func14 (by kernel_rfl) rfl [.cell 6 30, .tmp 7] (by kernel_rfl) (by simp [Tryz.ntmps14]) ?_
    rw [Tryz.ntmps14]
    simp (implicitDefEqProofs := false) only [↓reduceIte, go_sem, Nat.reduceLT, reduceCtorEq, eq_self]
    refine KCall.ok (hs _) ?_
    simp (implicitDefEqProofs := false) only [↓reduceIte, go_sem, Nat.reduceLT, Nat.reduceEqDiff, eq_self]
    refine KCall.ok (hc _) ?_
    simp (implicitDefEqProofs := false) only [↓reduceIte, go_sem, owrite, Nat.reduceAdd, Nat.reduceLT, Nat.reduceEqDiff, reduceCtorEq, eq_self, List.length_map, show ((4096 : Int) < (l.length : Int)) = True from eq_true (by omega)]
    refine AEndC.ret ?_
    simp (implicitDefEqProofs := false) only [↓reduceIte, go_sem, oread, Nat.reduceAdd, Nat.reduceLT, Nat.reduceLeDiff, Nat.reduceEqDiff, eq_self, resAll, resAV, zSgC, noS]
  rw [if_neg h4]
  have h4f : ((4096 : Int) < (l.length : Int)) = False := eq_false (by omega)
  by_cases he : e ≠ 0
  · rw [if_pos he]
    refine Does.subT (cs := [.agg zSgC, iA e]) ?_ (.cons zSg_sub (.cons (.refl _) .nil))
    by_cases hw : w = 0
    · obtain rfl := hw0 hw
      refine Does.of_awpC (hint := fun _ => false) Tryz.func14 (by kernel_rfl) rfl [.cell 6 30, .tmp 7] (by kernel_rfl) (by simp [Tryz.ntmps14]) ?_
      rw [Tryz.ntmps14]
      simp (implicitDefEqProofs := false) only [↓reduceIte, go_sem, Nat.reduceLT, reduceCtorEq, eq_self]
      refine KCall.ok (hs _) ?_
      simp (implicitDefEqProofs := false) only [↓reduceIte, go_sem, Nat.reduceLT, Nat.reduceEqDiff, eq_self]
      refine KCall.ok (hc _) ?_
      simp (implicitDefEqProofs := false) only [↓reduceIte, go_sem, Nat.reduceLT, Nat.reduceEqDiff, reduceCtorEq, eq_self, List.length_map, h4f, hw]
      refine KCall.ok (hbe _) ?_
      simp (implicitDefEqProofs := false) only [↓reduceIte, go_sem, Nat.reduceLT, Nat.reduceEqDiff, eq_self]
      refine KCall.ok (hbo _) ?_
      simp (implicitDefEqProofs := false) only [↓reduceIte, go_sem, owrite, Nat.reduceAdd, Nat.reduceLT, Nat.reduceEqDiff, eq_self, he]
      refine AEndC.ret ?_
      simp (implicitDefEqProofs := false) only [↓reduceIte, go_sem, oread, Nat.reduceAdd, Nat.reduceLT, Nat.reduceLeDiff, Nat.reduceEqDiff, eq_self, resAll, resAV, zSgC, noS]
    · obtain rfl := hw1 hw
      refine Does.of_awpC (hint := fun _ => false) Tryz.func14 (by kernel_rfl) rfl [.cell 6 30, .tmp 7] (by kernel_rfl) (by simp [Tryz.ntmps14]) ?_
      rw [Tryz.ntmps14]
      simp (implicitDefEqProofs := false) only [↓reduceIte, go_sem, Nat.reduceLT, reduceCtorEq, eq_self]
      refine KCall.ok (hs _) ?_
      simp (implicitDefEqProofs := false) only [↓reduceIte, go_sem, Nat.reduceLT, Nat.reduceEqDiff, eq_self]
      refine KCall.ok (hc _) ?_
      simp (implicitDefEqProofs := false) only [↓reduceIte, go_sem, Nat.reduceLT, Nat.reduceEqDiff, reduceCtorEq, eq_self, List.length_map, h4f, hw]
      refine KCall.ok (hbo _) ?_
      simp (implicitDefEqProofs := false) only [↓reduceIte, go_sem, owrite, Nat.reduceAdd, Nat.reduceLT, Nat.reduceEqDiff, eq_self, he]
      refine AEndC.ret ?_
      simp (implicitDefEqProofs := false) only [↓reduceIte, go_sem, oread, Nat.reduceAdd, Nat.reduceLT, Nat.reduceLeDiff, Nat.reduceEqDiff, eq_self, resAll, resAV, zSgC, noS]
  rw [if_neg he]
  obtain rfl : e = 0 := by simpa using he
  by_cases hn : L.length = l.length
  · have hnt : ((L.length : Int) = (l.length : Int)) = True := eq_true (by omega)
    rw [if_pos hn]
    refine Does.subT (cs := [.agg [iA k, iA w', iA z.rows, iA z.nulls, iA z.mn.kind, iA z.mn.i, sA z.mn.s, iA z.mx.kind, iA z.mx.i, sA z.mx.s, .d (.v (.slice none 0 0)), .d (.list false (bys bb))], iA 0]) ?_
      (.cons (.agg (.cons (.refl _) (.cons (.refl _) (.cons (.refl _) (.cons (.refl _) (.cons (.refl _) (.cons (.refl _) (.cons (.refl _) (.cons (.refl _) (.cons (.refl _) (.cons (.refl _) (.cons .nil (.cons (.refl _) .nil))))))))))))) (.cons (.refl _) .nil))
    by_cases hw : w = 0
    · obtain rfl := hw0 hw
      refine Does.of_awpC (hint := fun _ => false) Tryz.func14 (by kernel_rfl) rfl [.cell 6 30, .tmp 7] (by kernel_rfl) (by simp [Tryz.ntmps14]) ?_
      rw [Tryz.ntmps14]
      simp (implicitDefEqProofs := false) only [↓reduceIte, go_sem, Nat.reduceLT, reduceCtorEq, eq_self]
      refine KCall.ok (hs _) ?_
      simp (implicitDefEqProofs := false) only [↓reduceIte, go_sem, Nat.reduceLT, Nat.reduceEqDiff, eq_self]
      refine KCall.ok (hc _) ?_
      simp (implicitDefEqProofs := false) only [↓reduceIte, go_sem, Nat.reduceLT, Nat.reduceEqDiff, reduceCtorEq, eq_self, List.length_map, h4f, hw]
      refine KCall.ok (hbe _) ?_
      simp (implicitDefEqProofs := false) only [↓reduceIte, go_sem, Nat.reduceLT, Nat.reduceEqDiff, eq_self]
      refine KCall.ok (hbo _) ?_
      simp (implicitDefEqProofs := false) only [↓reduceIte, go_sem, Nat.reduceLT, Nat.reduceEqDiff, reduceCtorEq, eq_self, List.length_map, hnt]
      refine KCall.ok (hzo _) ?_
      simp (implicitDefEqProofs := false) only [↓reduceIte, go_sem, owrite, Nat.reduceAdd, Nat.reduceLT, Nat.reduceLeDiff, Nat.reduceEqDiff, eq_self, Zn.cs]
      refine AEndC.ret ?_
      simp (implicitDefEqProofs := false) only [↓reduceIte, go_sem, oread, Nat.reduceAdd, Nat.reduceLT, Nat.reduceLeDiff, Nat.reduceEqDiff, eq_self, resAll, resAV]
    · obtain rfl := hw1 hw
      refine Does.of_awpC (hint := fun _ => false) Tryz.func14 (by kernel_rfl) rfl [.cell 6 30, .tmp 7] (by kernel_rfl) (by simp [Tryz.ntmps14]) ?_
      rw [Tryz.ntmps14]
      simp (implicitDefEqProofs := false) only [↓reduceIte, go_sem, Nat.reduceLT, reduceCtorEq, eq_self]
      refine KCall.ok (hs _) ?_
      simp (implicitDefEqProofs := false) only [↓reduceIte, go_sem, Nat.reduceLT, Nat.reduceEqDiff, eq_self]
      refine KCall.ok (hc _) ?_
      simp (implicitDefEqProofs := false) only [↓reduceIte, go_sem, Nat.reduceLT, Nat.reduceEqDiff, reduceCtorEq, eq_self, List.length_map, h4f, hw]
      refine KCall.ok (hbo _) ?_
      simp (implicitDefEqProofs := false) only [↓reduceIte, go_sem, Nat.reduceLT, Nat.reduceEqDiff, reduceCtorEq, eq_self, List.length_map, hnt]
      refine KCall.ok (hzo _) ?_
      simp (implicitDefEqProofs := false) only [↓reduceIte, go_sem, owrite, Nat.reduceAdd, Nat.reduceLT, Nat.reduceLeDiff, Nat.reduceEqDiff, eq_self, Zn.cs]
      refine AEndC.ret ?_
      simp (implicitDefEqProofs := false) only [↓reduceIte, go_sem, oread, Nat.reduceAdd, Nat.reduceLT, Nat.reduceLeDiff, Nat.reduceEqDiff, eq_self, resAll, resAV]
  · have hnt : ((L.length : Int) = (l.length : Int)) = False := eq_false (by omega)
    rw [if_neg hn]
    by_cases hw : w = 0
    · obtain rfl := hw0 hw
      refine Does.of_awpC (hint := fun _ => false) Tryz.func14 (by kernel_rfl) rfl [.cell 6 30, .tmp 7] (by kernel_rfl) (by simp [Tryz.ntmps14]) ?_
      rw [Tryz.ntmps14]
      simp (implicitDefEqProofs := false) only [↓reduceIte, go_sem, Nat.reduceLT, reduceCtorEq, eq_self]
      refine KCall.ok (hs _) ?_
      simp (implicitDefEqProofs := false) only [↓reduceIte, go_sem, Nat.reduceLT, Nat.reduceEqDiff, eq_self]
      refine KCall.ok (hc _) ?_
      simp (implicitDefEqProofs := false) only [↓reduceIte, go_sem, Nat.reduceLT, Nat.reduceEqDiff, reduceCtorEq, eq_self, List.length_map, h4f, hw]
      refine KCall.ok (hbe _) ?_
      simp (implicitDefEqProofs := false) only [↓reduceIte, go_sem, Nat.reduceLT, Nat.reduceEqDiff, eq_self]
      refine KCall.ok (hbo _) ?_
      simp (implicitDefEqProofs := false) only [↓reduceIte, go_sem, Nat.reduceLT, Nat.reduceEqDiff, reduceCtorEq, eq_self, List.length_map, hnt]
      refine KCall.ok (hzo _) ?_
      simp (implicitDefEqProofs := false) only [↓reduceIte, go_sem, owrite, Nat.reduceAdd, Nat.reduceLT, Nat.reduceLeDiff, Nat.reduceEqDiff, eq_self, Zn.cs]
      refine AEndC.ret ?_
      simp (implicitDefEqProofs := false) only [↓reduceIte, go_sem, oread, Nat.reduceAdd, Nat.reduceLT, Nat.reduceLeDiff, Nat.reduceEqDiff, eq_self, resAll, resAV, Sg.cs]
    · obtain rfl := hw1 hw
      refine Does.of_awpC (hint := fun _ => false) Tryz.func14 (by kernel_rfl) rfl [.cell 6 30, .tmp 7] (by kernel_rfl) (by simp [Tryz.ntmps14]) ?_
      rw [Tryz.ntmps14]
      simp (implicitDefEqProofs := false) only [↓reduceIte, go_sem, Nat.reduceLT, reduceCtorEq, eq_self]
      refine KCall.ok (hs _) ?_
      simp (implicitDefEqProofs := false) only [↓reduceIte, go_sem, Nat.reduceLT, Nat.reduceEqDiff, eq_self]
      refine KCall.ok (hc _) ?_
      simp (implicitDefEqProofs := false) only [↓reduceIte, go_sem, Nat.reduceLT, Nat.reduceEqDiff, reduceCtorEq, eq_self, List.length_map, h4f, hw]
      refine KCall.ok (hbo _) ?_
      simp (implicitDefEqProofs := false) only [↓reduceIte, go_sem, Nat.reduceLT, Nat.reduceEqDiff, reduceCtorEq, eq_self, List.length_map, hnt]
      refine KCall.ok (hzo _) ?_
      simp (implicitDefEqProofs := false) only [↓reduceIte, go_sem, owrite, Nat.reduceAdd, Nat.reduceLT, Nat.reduceLeDiff, Nat.reduceEqDiff, eq_self, Zn.cs]
      refine AEndC.ret ?_
      simp (implicitDefEqProofs := false) only [↓reduceIte, go_sem, oread, Nat.reduceAdd, Nat.reduceLT, Nat.reduceLeDiff, Nat.reduceEqDiff, eq_self, resAll, resAV, Sg.cs]
end Go.Proofs.YtmbagpfmfiegkaaGreat
namespace Go.Proofs.YtmbagpfmfiegkaaGreat
open Go.Proofs.YtmbagpfmfiegkaaGreatAw Go.RowKit
set_option linter.unusedVariables false
set_option linter.unusedSimpArgs false
def nextP (b : List Nat) (most : Nat) (k : Int) : (Nat × Val) × List Nat × Int :=
  if (getP b).2.2 ≠ 0 then (zR, [], (getP b).2.2)
  else if (getP b).1 = 0 ∨ most < (getP b).1 then (zR, [], 4)
  else if (ofV (b.drop (getP b).2.1) k).2.2 ≠ 0 then (zR, [], (ofV (b.drop (getP b).2.1) k).2.2)
  else (((getP b).1, (ofV (b.drop (getP b).2.1) k).1), (ofV (b.drop (getP b).2.1) k).2.1, 0)
set_option maxRecDepth 10000 in
set_option maxHeartbeats 2000000 in
theorem rnext_does (b : List Nat) (most : Nat) (k : Int) (hm : most ≤ 4096) (hl : b.length ≤ 140737488351232) (hb : ∀ c ∈ b, c < 256) (H : AHeap) :
    Does Tryz.prog 149 [.d (.list false (bys b)), iA most, iA k] H (.ok (.tup [runA (nextP b most k).1, .d (.list false (bys (nextP b most k).2.1)), iA (nextP b most k).2.2])) H := by
  have hN : nextP b most k = if (getP b).2.2 ≠ 0 then (zR, [], (getP b).2.2) else if (getP b).1 = 0 ∨ most < (getP b).1 then (zR, [], 4) else if (ofV (b.drop (getP b).2.1) k).2.2 ≠ 0 then (zR, [], (ofV (b.drop (getP b).2.1) k).2.2) else (((getP b).1, (ofV (b.drop (getP b).2.1) k).1), (ofV (b.drop (getP b).2.1) k).2.1, 0) := rfl
  have hgd := fun H => getN_does b false (by omega) hb H
  have hgl := getP_le b
  have hglt := getP_lt b
  have wm := wrapU64N most (by omega)
  rw [hN]
  clear hN
  generalize getP b = g at *
  obtain ⟨n, j, e⟩ := g
  simp only at hgd hgl hglt ⊢
  by_cases he : e = 0
  · subst he
    rw [if_neg (by simp)]
    by_cases h1 : n = 0 ∨ most < n
    · rw [if_pos h1]
      refine Does.subT (cs := [runA zR, .d (.v (.slice none 0 0)), iA 4]) ?_ (.cons (.refl _) (.cons .nil (.cons (.refl _) .nil)))
      refine Does.of_awpC (hint := fun _ => false) Tryz.func149 (by kernel_rfl) rfl [.cell 6 165, .tmp 7, .tmp 8] (by kernel_rfl) (by simp [Tryz.ntmps149]) ?_
      rw [Tryz.ntmps149]
      simp (implicitDefEqProofs := false) only [↓reduceIte, go_sem, Nat.reduceLT, reduceCtorEq, eq_self]
      refine KCall.ok (hgd _) ?_
      by_cases h0 : n = 0
      · subst h0
        simp (implicitDefEqProofs := false) only [↓reduceIte, go_sem, owrite, Nat.reduceAdd, Nat.reduceLT, Nat.reduceEqDiff, eq_self]
        refine AEndC.ret ?_
        simp (implicitDefEqProofs := false) only [↓reduceIte, go_sem, oread, Nat.reduceAdd, Nat.reduceLT, Nat.reduceLeDiff, Nat.reduceEqDiff, eq_self, resAll, resAV, runA, zR, zV, noS]
      · have h2 : most < n := by omega
        simp (implicitDefEqProofs := false) only [↓reduceIte, go_sem, owrite, Nat.reduceAdd, Nat.reduceLT, Nat.reduceEqDiff, reduceCtorEq, eq_self, wm, show ((n : Int) = 0) = False from eq_false (by omega), show ((most : Int) < (n : Int)) = True from eq_true (by omega)]
        refine AEndC.ret ?_
        simp (implicitDefEqProofs := false) only [↓reduceIte, go_sem, oread, Nat.reduceAdd, Nat.reduceLT, Nat.reduceLeDiff, Nat.reduceEqDiff, eq_self, resAll, resAV, runA, zR, zV, noS]
    rw [if_neg h1]
    have c1 : ((n : Int) = 0) = False := eq_false (by omega)
    have c2 : ((most : Int) < (n : Int)) = False := eq_false (by omega)
    have hj0 : ((0 : Int) ≤ (j : Int)) = True := eq_true (by omega)
    have hbt : (bys b).take b.length = bys b := List.take_of_length_le (by rw [bys_len]; exact Nat.le_refl _)
    have hod := fun H => valOf_does (b.drop j) k (by rw [List.length_drop]; omega) (fun c hc => hb c (List.mem_of_mem_drop hc)) H
    have wn : IntKind.i64.wrap (n : Int) = (n : Int) := wrap64_in _ (by omega) (by omega)
    obtain ⟨p, hp⟩ := ofV_suffix (b.drop j) k
    have hlr : (ofV (b.drop j) k).2.1.length ≤ b.length := by rw [hp, List.length_drop, List.length_drop]; omega
    generalize ofV (b.drop j) k = o at *
    obtain ⟨v, r, f⟩ := o
    simp only at hod hlr ⊢
    by_cases hf : f = 0
    · subst hf
      rw [if_neg (by simp)]
      refine Does.of_awpC (hint := fun _ => false) Tryz.func149 (by kernel_rfl) rfl [.cell 6 165, .tmp 7, .tmp 8] (by kernel_rfl) (by simp [Tryz.ntmps149]) ?_
      rw [Tryz.ntmps149]
      simp (implicitDefEqProofs := false) only [↓reduceIte, go_sem, Nat.reduceLT, reduceCtorEq, eq_self]
      refine KCall.ok (hgd _) ?_
      simp (implicitDefEqProofs := false) only [↓reduceIte, go_sem, Nat.reduceLT, Nat.reduceEqDiff, reduceCtorEq, eq_self, c1, c2, wm, bys_one, bys_len, hj0, hbt, drop_bys]
      refine ⟨by omega, KCall.ok (hod _) ?_⟩
      simp (implicitDefEqProofs := false) only [↓reduceIte, go_sem, oread, owrite, Nat.reduceAdd, Nat.reduceLT, Nat.reduceLeDiff, Nat.reduceEqDiff, eq_self, wn]
      refine AEndC.ret ?_
      simp (implicitDefEqProofs := false) only [↓reduceIte, go_sem, oread, Nat.reduceAdd, Nat.reduceLT, Nat.reduceLeDiff, Nat.reduceEqDiff, eq_self, resAll, resAV, runA]
    · rw [if_pos hf]
      refine Does.subT (cs := [runA zR, .d (.v (.slice none 0 0)), iA f]) ?_ (.cons (.refl _) (.cons .nil (.cons (.refl _) .nil)))
      refine Does.of_awpC (hint := fun _ => false) Tryz.func149 (by kernel_rfl) rfl [.cell 6 165, .tmp 7, .tmp 8] (by kernel_rfl) (by simp [Tryz.ntmps149]) ?_
      rw [Tryz.ntmps149]
      simp (implicitDefEqProofs := false) only [↓reduceIte, go_sem, Nat.reduceLT, reduceCtorEq, eq_self]
      refine KCall.ok (hgd _) ?_
      simp (implicitDefEqProofs := false) only [↓reduceIte, go_sem, Nat.reduceLT, Nat.reduceEqDiff, reduceCtorEq, eq_self, c1, c2, wm, bys_one, bys_len, hj0, hbt, drop_bys]
      refine ⟨by omega, KCall.ok (hod _) ?_⟩
      simp (implicitDefEqProofs := false) only [↓reduceIte, go_sem, owrite, Nat.reduceAdd, Nat.reduceLT, Nat.reduceEqDiff, eq_self, hf]
      refine AEndC.ret ?_
      simp (implicitDefEqProofs := false) only [↓reduceIte, go_sem, oread, Nat.reduceAdd, Nat.reduceLT, Nat.reduceLeDiff, Nat.reduceEqDiff, eq_self, resAll, resAV, runA, zR, zV, noS]
  · rw [if_pos he]
    refine Does.subT (cs := [runA zR, .d (.v (.slice none 0 0)), iA e]) ?_ (.cons (.refl _) (.cons .nil (.cons (.refl _) .nil)))
    refine Does.of_awpC (hint := fun _ => false) Tryz.func149 (by kernel_rfl) rfl [.cell 6 165, .tmp 7, .tmp 8] (by kernel_rfl) (by simp [Tryz.ntmps149]) ?_
    rw [Tryz.ntmps149]
    simp (implicitDefEqProofs := false) only [↓reduceIte, go_sem, Nat.reduceLT, reduceCtorEq, eq_self]
    refine KCall.ok (hgd _) ?_
    simp (implicitDefEqProofs := false) only [↓reduceIte, go_sem, owrite, Nat.reduceAdd, Nat.reduceLT, Nat.reduceEqDiff, eq_self, he]
    refine AEndC.ret ?_
    simp (implicitDefEqProofs := false) only [↓reduceIte, go_sem, oread, Nat.reduceAdd, Nat.reduceLT, Nat.reduceLeDiff, Nat.reduceEqDiff, eq_self, resAll, resAV, runA, zR, zV, noS]
end Go.Proofs.YtmbagpfmfiegkaaGreat
namespace Go.Proofs.YtmbagpfmfiegkaaGreat
open Go.Proofs.YtmbagpfmfiegkaaGreatAw Go.RowKit
set_option linter.unusedVariables false
set_option linter.unusedSimpArgs false
/-- Runs read one behind the other: what was read, how many are to come, the bytes. -/
def toR (k : Int) : Nat → List (Nat × Val) → Nat → List Nat → List (Nat × Val) × List Nat × Int
  | 0, R, _, b => (R, b, 0)
  | f + 1, R, n, b => if n = 0 then (R, b, 0) else if (nextP b n k).2.2 ≠ 0 then ([], [], (nextP b n k).2.2) else if R ≠ [] ∧ (lastR R).2 = (nextP b n k).1.2 then ([], [], 4) else toR k f (R ++ [(nextP b n k).1]) (n - (nextP b n k).1.1) (nextP b n k).2.1
def toRunsP (b : List Nat) (n k : Int) : List (Nat × Val) × Int :=
  if kindsP k = false then ([], 1)
  else if n < 0 then ([], 2)
  else if 4096 < n then ([], 2)
  else if (toR k n.toNat [] n.toNat b).2.2 ≠ 0 then ([], (toR k n.toNat [] n.toNat b).2.2)
  else if (toR k n.toNat [] n.toNat b).2.1 ≠ [] then ([], 4)
  else ((toR k n.toNat [] n.toNat b).1, 0)
theorem nextP_ok {b r : List Nat} {n : Nat} {k : Int} {q : Nat × Val} (h : nextP b n k = (q, r, 0)) : 1 ≤ q.1 ∧ q.1 ≤ n ∧ ∃ j, r = b.drop j := by
  unfold nextP at h
  split at h
  · rename_i he
    simp only [Prod.mk.injEq] at h
    exact absurd h.2.2 he
  split at h
  · simp at h
  split at h
  · rename_i he
    simp only [Prod.mk.injEq] at h
    exact absurd h.2.2 he
  · rename_i h1 h2 h3
    simp only [Prod.mk.injEq, and_true] at h
    obtain ⟨rfl, rfl⟩ := h
    obtain ⟨j, hj⟩ := ofV_suffix (b.drop (getP b).2.1) k
    refine ⟨by simp only; omega, by simp only; omega, (getP b).2.1 + j, by rw [hj, List.drop_drop]⟩
set_option maxRecDepth 10000 in
set_option maxHeartbeats 2000000 in
theorem toRuns_does (b : List Nat) (n k : Int) (hl : b.length ≤ 140737488351232) (hb : ∀ c ∈ b, c < 256) (H : AHeap) :
    Does Tryz.prog 117 [.d (.list false (bys b)), iA n, iA k] H (.ok (.tup [.d (.list false ((toRunsP b n k).1.map encR)), iA (toRunsP b n k).2])) H := by
  by_cases hk : kindsP k = false
  · rw [show toRunsP b n k = ([], 1) from if_pos hk]
    refine Does.subT (cs := [.d (.v (.slice none 0 0)), iA 1]) ?_ (.cons .nil (.cons (.refl _) .nil))
    refine Does.of_awp (hint := (fun _ => false)) Tryz.func117 (by kernel_rfl) rfl [6, 7] (by kernel_rfl) (by decide) (by simp [Tryz.ntmps117]) ?_
    rw [Tryz.ntmps117]
    simp (implicitDefEqProofs := false) only [↓reduceIte, go_sem, Nat.reduceLT, Nat.reduceEqDiff, eq_self]
    refine KCall.ok (plainNone_does k _) ?_
    simp (implicitDefEqProofs := false) only [↓reduceIte, go_sem, Nat.reduceLT, Nat.reduceEqDiff, Int.reduceEq, eq_self, hk, Bool.false_eq_true]
    refine AEnd.ret0 ?_
    simp (implicitDefEqProofs := false) only [↓reduceIte, go_sem, Nat.reduceLT, Nat.reduceEqDiff, eq_self]
  rw [show toRunsP b n k = _ from if_neg hk]
  have hk1 : kindsP k = true := by simpa using hk
  by_cases h1 : n < 0
  · rw [if_pos h1]
    refine Does.subT (cs := [.d (.v (.slice none 0 0)), iA 2]) ?_ (.cons .nil (.cons (.refl _) .nil))
    refine Does.of_awp (hint := (fun _ => false)) Tryz.func117 (by kernel_rfl) rfl [6, 7] (by kernel_rfl) (by decide) (by simp [Tryz.ntmps117]) ?_
    rw [Tryz.ntmps117]
    simp (implicitDefEqProofs := false) only [↓reduceIte, go_sem, Nat.reduceLT, Nat.reduceEqDiff, eq_self]
    refine KCall.ok (plainNone_does k _) ?_
    simp (implicitDefEqProofs := false) only [↓reduceIte, go_sem, Nat.reduceLT, Nat.reduceEqDiff, eq_self, hk1, h1]
    refine AEnd.ret0 ?_
    simp (implicitDefEqProofs := false) only [↓reduceIte, go_sem, Nat.reduceLT, Nat.reduceEqDiff, eq_self]
  rw [if_neg h1]
  by_cases h2 : 4096 < n
  · rw [if_pos h2]
    refine Does.subT (cs := [.d (.v (.slice none 0 0)), iA 2]) ?_ (.cons .nil (.cons (.refl _) .nil))
    refine Does.of_awp (hint := (fun _ => false)) Tryz.func117 (by kernel_rfl) rfl [6, 7] (by kernel_rfl) (by decide) (by simp [Tryz.ntmps117]) ?_
    rw [Tryz.ntmps117]
    simp (implicitDefEqProofs := false) only [↓reduceIte, go_sem, Nat.reduceLT, Nat.reduceEqDiff, eq_self]
    refine KCall.ok (plainNone_does k _) ?_
    simp (implicitDefEqProofs := false) only [↓reduceIte, go_sem, Nat.reduceLT, Nat.reduceEqDiff, reduceCtorEq, eq_self, hk1, h1, h2]
    refine AEnd.ret0 ?_
    simp (implicitDefEqProofs := false) only [↓reduceIte, go_sem, Nat.reduceLT, Nat.reduceEqDiff, eq_self]
  rw [if_neg h2]
  obtain ⟨m, rfl⟩ : ∃ m : Nat, n = (m : Int) := ⟨n.toNat, by omega⟩
  rw [Int.toNat_natCast]
  have h1f : ((m : Int) < 0) = False := eq_false h1
  have h2f : ((4096 : Int) < (m : Int)) = False := eq_false h2
  obtain ⟨q, hq⟩ : ∃ q, q = toR k m [] m b := ⟨_, rfl⟩
  rw [← hq]
  suffices h : Does Tryz.prog 117 [.d (.list false (bys b)), iA m, iA k] H (.ok (if q.2.2 ≠ 0 then .tup [.d (.v (.slice none 0 0)), iA q.2.2] else if q.2.1 ≠ [] then .tup [.d (.v (.slice none 0 0)), iA 4] else .tup [.d (.list false (q.1.map encR)), iA 0])) H by
    by_cases c1 : q.2.2 ≠ 0
    · rw [if_pos c1] at h ⊢
      exact Does.subT h (.cons .nil (.cons (.refl _) .nil))
    · rw [if_neg c1] at h ⊢
      by_cases c2 : q.2.1 ≠ []
      · rw [if_pos c2] at h ⊢
        exact Does.subT h (.cons .nil (.cons (.refl _) .nil))
      · rw [if_neg c2] at h ⊢
        exact h
  refine Does.of_awp (hint := (fun _ => false)) Tryz.func117 (by kernel_rfl) rfl [6, 7] (by kernel_rfl) (by decide) (by simp [Tryz.ntmps117]) ?_
  rw [Tryz.ntmps117]
  simp (implicitDefEqProofs := false) only [↓reduceIte, go_sem, Nat.reduceLT, Nat.reduceEqDiff, eq_self]
  refine KCall.ok (plainNone_does k _) ?_
  simp (implicitDefEqProofs := false) only [↓reduceIte, go_sem, Nat.reduceLT, Nat.reduceEqDiff, reduceCtorEq, eq_self, hk1, h1f, h2f]
  refine awp_loop _ _ _ _ (fun (x : Nat × List (Nat × Val) × Nat × List Nat) s H' => H' = H ++ [.arr 165 4 x.2.1.length (x.2.1.map encR)] ∧ toR k x.1 x.2.1 x.2.2.1 x.2.2.2 = q ∧ x.2.2.1 ≤ x.1 ∧ x.2.1.length + x.1 ≤ 4096 ∧ x.2.2.2.length ≤ b.length ∧ (∀ y ∈ x.2.2.2, y < 256) ∧ s 0 = .d (.list false (bys x.2.2.2)) ∧ s 1 = iA x.2.2.1 ∧ s 2 = iA k ∧ s 10 = .sl H.length x.2.1.length 0 x.2.1.length) (fun x => x.2.2.1) (m, [], m, b) (Weak.virt1 _ _ 10 165 4 (by decide) (by simp (implicitDefEqProofs := false) only [↓reduceIte, go_sem, Nat.reduceLT, eq_self]) _) ?_ ?_
  · refine ⟨rfl, hq.symm, Nat.le_refl _, by simp; omega, Nat.le_refl _, hb, ?_⟩
    simp (implicitDefEqProofs := false) only [↓reduceIte, go_sem, Nat.reduceEqDiff, reduceCtorEq, eq_self, List.length_nil]
  · rintro ⟨f, R, n, c⟩ s H' ⟨rfl, hT, hnf, hRf, hcl, hcb, t0, t1, t2, t10⟩
    simp only at hT hnf hRf hcl hcb t0 t1 t10 ⊢
    by_cases hn0 : n = 0
    · subst hn0
      have hq2 : q = (R, c, 0) := by rw [← hT]; cases f <;> simp [toR]
      rw [hq2]
      by_cases hc : c = []
      · subst hc
        simp (implicitDefEqProofs := false) only [↓reduceIte, go_sem, Nat.reduceLT, Nat.reduceEqDiff, Int.reduceLT, reduceCtorEq, eq_self, t0, t1, t10, bys_len, List.length_nil]
        refine AEnd.ret ?_
        simp (implicitDefEqProofs := false) only [↓reduceIte, go_sem, Nat.reduceLT, Nat.reduceEqDiff, eq_self, ne_eq, not_true_eq_false, List.take_of_length_le (show (R.map encR).length ≤ R.length by rw [List.length_map]; exact Nat.le_refl _)]
      · have hcp := List.length_pos_iff.2 hc
        simp (implicitDefEqProofs := false) only [↓reduceIte, go_sem, Nat.reduceLT, Int.reduceLT, reduceCtorEq, eq_self, t0, t1, bys_len, show (0 < (c.length : Int)) = True from eq_true (by omega)]
        refine AEnd.ret ?_
        simp (implicitDefEqProofs := false) only [↓reduceIte, go_sem, Nat.reduceLT, Nat.reduceEqDiff, eq_self, ne_eq, hc, not_true_eq_false, not_false_eq_true]
    · obtain ⟨f, rfl⟩ : ∃ g, f = g + 1 := ⟨f - 1, by omega⟩
      have hnx := fun H => rnext_does c n k (by omega) (by omega) hcb H
      have hnk := fun q r => nextP_ok (b := c) (n := n) (k := k) (q := q) (r := r)
      have hTe : toR k (f + 1) R n c = if n = 0 then (R, c, 0) else if (nextP c n k).2.2 ≠ 0 then ([], [], (nextP c n k).2.2) else if R ≠ [] ∧ (lastR R).2 = (nextP c n k).1.2 then ([], [], 4) else toR k f (R ++ [(nextP c n k).1]) (n - (nextP c n k).1.1) (nextP c n k).2.1 := rfl
      rw [hTe, if_neg hn0] at hT
      clear hTe
      generalize nextP c n k = x at *
      obtain ⟨⟨rn, v⟩, r, e⟩ := x
      simp only at hT hnx
      simp (implicitDefEqProofs := false) only [↓reduceIte, go_sem, Nat.reduceLT, Nat.reduceEqDiff, reduceCtorEq, eq_self, t0, t1, t2, show (0 < (n : Int)) = True from eq_true (by omega)]
      refine KCall.ok (hnx _) ?_
      by_cases he : e = 0
      · subst he
        rw [if_neg (by simp)] at hT
        obtain ⟨g1, g2, p, g3⟩ := hnk _ _ rfl
        simp only at g1 g2
        have hrl : r.length ≤ b.length := by rw [g3, List.length_drop]; omega
        have hrb : ∀ y ∈ r, y < 256 := fun y hy => hcb y (by rw [g3] at hy; exact List.mem_of_mem_drop hy)
        have hld := last_does R (H ++ [.arr 165 4 R.length (R.map encR), .box 165 4 0 1 [iA rn, iA v.kind, iA v.i, sA v.s]]) H.length R.length (by omega) (by simp)
        have hw : IntKind.i64.wrap ((n : Int) - (rn : Int)) = ((n - rn : Nat) : Int) := by rw [wrap64_in _ (by omega) (by omega)]; omega
        simp (implicitDefEqProofs := false) only [↓reduceIte, go_sem, owrite, Nat.reduceAdd, Nat.reduceLT, Nat.reduceEqDiff, eq_self, runA, t10]
        refine KCall.ok hld ?_
        by_cases hR0 : R = []
        · subst hR0
          rw [if_neg (by simp)] at hT
          simp (implicitDefEqProofs := false) only [↓reduceIte, go_sem, oread, owrite, Nat.reduceAdd, Nat.reduceLT, Nat.reduceLeDiff, Nat.reduceEqDiff, reduceCtorEq, eq_self, runA, lastR, zR, zV, noS, List.getLast?_nil, Option.getD_none, ne_eq, not_true_eq_false, decide_false, t1, t10, List.length_nil, hw]
          refine ⟨_, _, (f, [(rn, v)], n - rn, r), Weak.cut [.arr 165 4 1 [[.v (.int .i64 rn), .v (.int .i64 v.kind), .v (.int .i64 v.i), .v (.string v.s)]]] [.box 165 4 0 1 [iA rn, iA v.kind, iA v.i, sA v.s], .box 165 4 0 1 [iA 0, iA 0, iA 0, sA ⟨#[]⟩]] 1 rfl _ (by simp (implicitDefEqProofs := false) only [go_sem, eq_self]), ⟨rfl, hT, by simp only; omega, by simp only [List.length_singleton] at *; simp only [List.length_nil] at hRf; omega, hrl, hrb, ?_⟩, by simp only; omega⟩
          simp (implicitDefEqProofs := false) only [↓reduceIte, go_sem, Nat.reduceLT, Nat.reduceEqDiff, reduceCtorEq, eq_self, t2, List.length_singleton]
        · by_cases h2 : (lastR R).2 = v
          · rw [if_pos ⟨hR0, h2⟩] at hT
            subst hT
            generalize lastR R = z at *
            obtain ⟨m2, w⟩ := z
            simp only at h2
            subst h2
            simp (implicitDefEqProofs := false) only [↓reduceIte, go_sem, oread, owrite, Nat.reduceAdd, Nat.reduceLT, Nat.reduceEqDiff, Int.reduceEq, eq_self, runA, ne_eq, hR0, not_false_eq_true, decide_true, sameV_eq]
            refine AEnd.ret ?_
            simp (implicitDefEqProofs := false) only [↓reduceIte, go_sem, Nat.reduceLT, Nat.reduceEqDiff, Int.reduceEq, eq_self, not_false_eq_true]
          · rw [if_neg (fun h => h2 h.2)] at hT
            generalize lastR R = z at *
            obtain ⟨m2, w⟩ := z
            simp only at h2
            simp (implicitDefEqProofs := false) only [↓reduceIte, go_sem, oread, owrite, Nat.reduceAdd, Nat.reduceLT, Nat.reduceLeDiff, Nat.reduceEqDiff, reduceCtorEq, eq_self, runA, ne_eq, hR0, not_false_eq_true, decide_true, sameV_eq, h2, decide_false, t1, t10, List.length_map, hw]
            have hsn : R.map encR ++ [[D.v (.int .i64 rn), .v (.int .i64 v.kind), .v (.int .i64 v.i), .v (.string v.s)]] = (R ++ [(rn, v)]).map encR := by simp [encR]
            have hln : (R ++ [(rn, v)]).length = R.length + 1 := by simp
            refine ⟨by omega, by omega, _, _, (f, R ++ [(rn, v)], n - rn, r), Weak.cut [.arr 165 4 (R.length + 1) (R.map encR ++ [[.v (.int .i64 rn), .v (.int .i64 v.kind), .v (.int .i64 v.i), .v (.string v.s)]])] [.box 165 4 0 1 [iA rn, iA v.kind, iA v.i, sA v.s], .box 165 4 0 1 [iA m2, iA w.kind, iA w.i, sA w.s]] 1 rfl _ (by simp (implicitDefEqProofs := false) only [go_sem, eq_self]), ⟨by simp only [hsn, hln], hT, by simp only; omega, by simp only [hln]; omega, hrl, hrb, ?_⟩, by simp only; omega⟩
            simp (implicitDefEqProofs := false) only [↓reduceIte, go_sem, Nat.reduceLT, Nat.reduceEqDiff, reduceCtorEq, eq_self, t2, hln]
      · rw [if_pos he] at hT
        subst hT
        simp (implicitDefEqProofs := false) only [↓reduceIte, go_sem, owrite, Nat.reduceAdd, Nat.reduceLT, Nat.reduceEqDiff, eq_self, he, runA]
        refine AEnd.ret ?_
        simp (implicitDefEqProofs := false) only [↓reduceIte, go_sem, Nat.reduceLT, Nat.reduceEqDiff, eq_self]
end Go.Proofs.YtmbagpfmfiegkaaGreat
namespace Go.Proofs.YtmbagpfmfiegkaaGreat
open Go.Proofs.YtmbagpfmfiegkaaGreatAw Go.RowKit
set_option linter.unusedVariables false
set_option linter.unusedSimpArgs false
theorem maskN (a : Nat) (ha : a < 18446744073709551616) : IntKind.u64.wrap (andI .u64 (a : Int) 4294967295) = ((a % 4294967296 : Nat) : Int) := by
  have h := bits_and_u64_nat a 4294967295 ha (by omega)
  have e : a &&& 4294967295 = a % 4294967296 := Nat.and_two_pow_sub_one_eq_mod a 32
  rw [e] at h
  exact h
theorem shrN (a : Nat) : shrI .u64 (a : Int) 32 = ((a / 4294967296 : Nat) : Int) := by
  show (a : Int).fdiv (4294967296 : Int) = _
  rw [Int.fdiv_eq_ediv_of_nonneg _ (by omega)]
  omega
theorem wrapN (a : Nat) (ha : a < 18446744073709551616) : IntKind.u64.wrap (a : Int) = (a : Int) := wrapu64_in _ (by omega) (by omega)
theorem wrapM (a : Nat) : IntKind.u64.wrap (a : Int) = ((a % 18446744073709551616 : Nat) : Int) := by
  simp [IntKind.wrap, IntKind.signed, IntKind.bits]
set_option maxRecDepth 10000 in
set_option maxHeartbeats 1000000 in
theorem mul64_does (x y : Nat) (hx : x < 18446744073709551616) (hy : y < 18446744073709551616) (H : AHeap) :
    Does Tryz.prog 178 [du x, du y] H (.ok (.tup [du (x * y / 18446744073709551616), du (x * y % 18446744073709551616)])) H := by
  obtain ⟨bd, bt, bw, hhi⟩ := Lib.mul64_hi x y hx hy
  have ba := Lib.half_mul_le (a := x / 4294967296) (b := y / 4294967296) (by omega) (by omega)
  have bb := Lib.half_mul_le (a := x / 4294967296) (b := y % 4294967296) (by omega) (by omega)
  have bc := Lib.half_mul_le (a := x % 4294967296) (b := y / 4294967296) (by omega) (by omega)
  have ba' : x / 4294967296 * (y / 4294967296) < 18446744073709551616 := by omega
  have bb' : x / 4294967296 * (y % 4294967296) < 18446744073709551616 := by omega
  have bc' : x % 4294967296 * (y / 4294967296) < 18446744073709551616 := by omega
  have bh1 : x / 4294967296 * (y / 4294967296) + (x / 4294967296 * (y % 4294967296) + x % 4294967296 * (y % 4294967296) / 4294967296) / 4294967296 < 18446744073709551616 := by omega
  have bh : x / 4294967296 * (y / 4294967296) + (x / 4294967296 * (y % 4294967296) + x % 4294967296 * (y % 4294967296) / 4294967296) / 4294967296 + ((x / 4294967296 * (y % 4294967296) + x % 4294967296 * (y % 4294967296) / 4294967296) % 4294967296 + x % 4294967296 * (y / 4294967296)) / 4294967296 < 18446744073709551616 := by omega
  refine Does.of_awp (hint := (fun _ => false)) Tryz.func178 (by kernel_rfl) rfl [4, 5] (by kernel_rfl) (by decide) (by simp [Tryz.ntmps178]) ?_
  rw [Tryz.ntmps178]
  simp (implicitDefEqProofs := false) only [↓reduceIte, go_sem, Nat.reduceLT, Nat.reduceEqDiff, Int.reduceLE, reduceCtorEq, eq_self, du]
  refine AEnd.ret0 ?_
  simp (implicitDefEqProofs := false) only [↓reduceIte, go_sem, Nat.reduceLT, Nat.reduceEqDiff, eq_self]
  simp only [maskN x hx, maskN y hy, shrN, ← Int.natCast_mul, ← Int.natCast_add, wrapN _ bd, wrapN _ bb', wrapN _ bt, maskN _ bt, wrapN _ bc', wrapN _ bw, wrapN _ ba', wrapN _ bh1, wrapM (x * y), hhi]
  rw [wrapN _ (by rw [← hhi]; exact bh)]

end Go.Proofs.YtmbagpfmfiegkaaGreat
namespace Go.Proofs.YtmbagpfmfiegkaaGreat
open Go.Proofs.YtmbagpfmfiegkaaGreatAw Go.RowKit
set_option linter.unusedVariables false
set_option linter.unusedSimpArgs false
set_option maxRecDepth 10000 in
theorem bmul_does (x y : Nat) (hx : x < 18446744073709551616) (hy : y < 18446744073709551616) (H : AHeap) : Does Tryz.prog 171 [du x, du y] H (.ok (.tup [du (x * y / 18446744073709551616), du (x * y % 18446744073709551616)])) H := by
  have hm := fun H => mul64_does x y hx hy H
  generalize x * y / 18446744073709551616 = p at *
  generalize x * y % 18446744073709551616 = q at *
  refine Does.of_awp (hint := (fun _ => false)) Tryz.func171 (by kernel_rfl) rfl [4, 5] (by kernel_rfl) (by decide) (by simp [Tryz.ntmps171]) ?_
  rw [Tryz.ntmps171]
  simp (implicitDefEqProofs := false) only [↓reduceIte, go_sem, Nat.reduceLT, Nat.reduceEqDiff, reduceCtorEq, eq_self]
  refine KCall.ok (hm _) ?_
  simp (implicitDefEqProofs := false) only [↓reduceIte, go_sem, Nat.reduceLT, Nat.reduceEqDiff, eq_self]
  refine AEnd.ret0 ?_
  simp (implicitDefEqProofs := false) only [↓reduceIte, go_sem, Nat.reduceLT, Nat.reduceEqDiff, eq_self]
def zE : List D := [.v (.int .i64 0), .v (.int .i64 0), .v (.string ⟨#[]⟩)]
/-- So many of a value, and the rest as it was made. -/
def repR (v : Val) (m n : Nat) : List (List D) := List.replicate n v.enc ++ List.replicate (m - n) zE
theorem repR_len (v : Val) {m n : Nat} (h : n ≤ m) : (repR v m n).length = m := by simp [repR]; omega
theorem repR_three (v : Val) (m n k : Nat) : ∀ c ∈ (repR v m n).take k, c.length = 3 := by
  intro c hc
  have := List.mem_of_mem_take hc
  unfold repR at this
  rcases List.mem_append.1 this with h | h <;> rw [List.eq_of_mem_replicate h] <;> rfl
theorem repR_step (v : Val) {m n : Nat} (h : n ≤ m) (h0 : 0 < n) : setRows (repR v m n) n (((repR v m n).take n).take (min n (m - n))) = repR v m (n + min n (m - n)) := by
  have e1 : (repR v m n).take n = List.replicate n v.enc := by
    unfold repR
    rw [List.take_left' (by simp)]
  rw [e1, List.take_replicate, show min (min n (m - n)) n = min n (m - n) by omega]
  unfold setRows
  rw [e1]
  unfold repR
  rw [← List.replicate_append_replicate (n := n) (m := min n (m - n)), List.length_replicate, List.drop_append, List.length_replicate]
  rw [List.drop_eq_nil_of_le (by simp), List.nil_append, List.drop_replicate]
  congr 2
  omega
set_option maxRecDepth 10000 in
set_option maxHeartbeats 1000000 in
theorem repeat_does (v : Val) (nn : Bool) (m : Nat) (hm : m ≤ 4096) (H : AHeap) : Does Tryz.prog 150 [.d (.list nn [v.enc]), iA m] H (.ok (.d (.list false (List.replicate m v.enc)))) H := by
  have w1 : IntKind.u64.wrap 1 = 1 := by decide
  have w2 : IntKind.u64.wrap (m : Int) = (m : Int) := by simp [IntKind.wrap, IntKind.signed, IntKind.bits]; omega
  have w3 : IntKind.i64.wrap (m : Int) = (m : Int) := wrap64_in _ (by omega) (by omega)
  have hmul := fun H => bmul_does 1 m (by omega) (by omega) H
  rw [Nat.one_mul, Nat.div_eq_of_lt (by omega), Nat.mod_eq_of_lt (by omega)] at hmul
  have hcopy : setRows (List.replicate m zE) 0 ([v.enc].take (min 1 m)) = repR v m (min 1 m) := by
    unfold setRows repR
    rcases Nat.eq_zero_or_pos m with h | h
    · subst h; rfl
    · rw [show min 1 m = 1 by omega]
      simp
  unfold zE at hcopy
  have hc1 : (∀ c ∈ [v.enc], c.length = 3) = True := eq_true fun c hc => by rw [List.mem_singleton.1 hc]; rfl
  have hvl : v.enc.length = 3 := rfl
  generalize hV : v.enc = V at *
  refine Does.of_awp (hint := (fun _ => false)) Tryz.func150 (by kernel_rfl) rfl [4] (by kernel_rfl) (by decide) (by simp [Tryz.ntmps150]) ?_
  rw [Tryz.ntmps150]
  simp (implicitDefEqProofs := false) only [↓reduceIte, go_sem, Nat.reduceLT, Nat.reduceEqDiff, reduceCtorEq, eq_self, show ((m : Int) < 0) = False from eq_false (by omega), w1, w2]
  refine KCall.ok (hmul _) ?_
  simp (implicitDefEqProofs := false) only [↓reduceIte, go_sem, Nat.reduceLT, Nat.reduceEqDiff, Int.reduceLT, reduceCtorEq, eq_self, w3, show ((9223372036854775807 : Int) < (m : Int)) = False from eq_false (by omega)]
  refine ⟨⟨by omega, by omega⟩, hvl, ?_⟩
  refine awp_loop _ _ _ _ (fun (n : Nat) s H' => H' = H ++ [.arr 25 3 0 (repR v m n)] ∧ n ≤ m ∧ (0 < n ∨ m = 0) ∧ s 7 = .sl H.length 0 0 m ∧ s 8 = iA n) (fun n => m - n) (min 1 m) (Weak.refl _ _) ?_ ?_
  · refine ⟨by simp (implicitDefEqProofs := false) only [go_sem, eq_self, hcopy], by omega, by omega, ?_⟩
    simp (implicitDefEqProofs := false) only [↓reduceIte, go_sem, Nat.reduceLT, Nat.reduceEqDiff, eq_self]
  · rintro n s H' ⟨rfl, hn, h0, t7, t8⟩
    have hlen := repR_len v hn
    by_cases hlt : n < m
    · have hst := repR_step v hn (by omega)
      have w4 : IntKind.i64.wrap ((n : Int) + ((min n (m - n) : Nat) : Int)) = ((n + min n (m - n) : Nat) : Int) := by rw [wrap64_in _ (by omega) (by omega)]; omega
      obtain ⟨q, hq⟩ : ∃ q, q = n + min n (m - n) := ⟨_, rfl⟩
      rw [← hq] at w4 hst
      simp (implicitDefEqProofs := false) only [↓reduceIte, go_sem, Nat.reduceLT, Nat.reduceEqDiff, eq_self, t7, t8, show ((n : Int) < (m : Int)) = True from eq_true (by omega)]
      refine awp_drawL [some false, some false, some false, some false, some false, some false, some false, some true] 7 H K.mixed (by kernel_rfl) (by kernel_rfl) (by kernel_rfl) (Ext.app H _) ?_
      simp (implicitDefEqProofs := false) only [↓reduceIte, go_sem, Nat.reduceLT, Nat.reduceEqDiff, Int.reduceLE, Int.reduceToNat, eq_self, t7, t8, Nat.sub_zero, List.length_take, hlen, Nat.min_eq_left hn, w4, hst]
      refine ⟨hn, .inr hlt, hn, .inr (by omega), fun c hc => repR_three v m n n c hc, _, _, q, Weak.refl _ _, ⟨rfl, by omega, by omega, ?_⟩, by omega⟩
      simp (implicitDefEqProofs := false) only [↓reduceIte, go_sem, Nat.reduceLT, Nat.reduceEqDiff, eq_self, t7]
    · obtain rfl : n = m := by omega
      simp (implicitDefEqProofs := false) only [↓reduceIte, go_sem, Nat.reduceLT, Nat.reduceEqDiff, eq_self, t7, t8]
      refine AEnd.ret ?_
      have hrr : repR v n n = List.replicate n v.enc := by unfold repR; rw [Nat.sub_self]; simp
      rw [hV] at hrr
      simp (implicitDefEqProofs := false) only [↓reduceIte, go_sem, Nat.reduceLT, eq_self, hrr, List.take_of_length_le (show (List.replicate n V).length ≤ n by simp)]
end Go.Proofs.YtmbagpfmfiegkaaGreat
namespace Go.Proofs.YtmbagpfmfiegkaaGreat
open Go.Proofs.YtmbagpfmfiegkaaGreatAw Go.RowKit
set_option linter.unusedVariables false
set_option linter.unusedSimpArgs false
def spreadStep (l : List Val) (r : Nat × Val) : List Val := l ++ List.replicate (min r.1 (4096 - l.length)) r.2
def spreadP (R : List (Nat × Val)) : List Val := R.foldl spreadStep []
theorem spreadP_snoc (R : List (Nat × Val)) (r : Nat × Val) : spreadP (R ++ [r]) = spreadStep (spreadP R) r := by simp [spreadP]
theorem spreadStep_len (l : List Val) (r : Nat × Val) (h : l.length ≤ 4096) : (spreadStep l r).length ≤ 4096 := by simp [spreadStep]; omega
theorem spread_len (R : List (Nat × Val)) : (spreadP R).length ≤ 4096 := by
  have : ∀ (R : List (Nat × Val)) (l : List Val), l.length ≤ 4096 → (R.foldl spreadStep l).length ≤ 4096 := by
    intro R
    induction R with
    | nil => exact fun l h => h
    | cons r R ih => exact fun l h => ih _ (spreadStep_len l r h)
  exact this R [] (by simp)
set_option maxRecDepth 10000 in
set_option maxHeartbeats 1000000 in
theorem spread_does (R : List (Nat × Val)) (nn : Bool) (hl : R.length ≤ 1000000) (hn : ∀ r ∈ R, r.1 ≤ 1000000000) (H : AHeap) : Does Tryz.prog 118 [.d (.list nn (R.map encR))] H (.ok (.d (.list false ((spreadP R).map Val.enc)))) H := by
  refine Does.of_awp (hint := (fun _ => false)) Tryz.func118 (by kernel_rfl) rfl [2] (by kernel_rfl) (by decide) (by simp [Tryz.ntmps118]) ?_
  rw [Tryz.ntmps118]
  simp (implicitDefEqProofs := false) only [↓reduceIte, go_sem, Nat.reduceLT, reduceCtorEq, eq_self]
  refine awp_for (fun k s H' => ∃ ver, H' = H ++ [.arr 25 3 ver ((spreadP (R.take k)).map Val.enc)] ∧ s 3 = .sl H.length ver 0 (spreadP (R.take k)).length ∧ s 6 = .d (.list nn (R.map encR)) ∧ s 7 = iA R.length ∧ s 8 = iA k) R.length (by omega) (Weak.virt1 _ _ 3 25 3 (by decide) (by simp (implicitDefEqProofs := false) only [↓reduceIte, go_sem, Nat.reduceLT, Nat.reduceEqDiff, eq_self]) _) ?_ ?_ ?_
  · refine ⟨0, rfl, ?_⟩
    simp (implicitDefEqProofs := false) only [↓reduceIte, go_sem, Nat.reduceLT, Nat.reduceEqDiff, eq_self]
    rfl
  · rintro k s H' hk hw ⟨ver, rfl, t3, t6, t7, t8⟩
    have hx : (R.map encR)[k]? = some [.v (.int .i64 (R[k].1 : Int)), .v (.int .i64 R[k].2.kind), .v (.int .i64 R[k].2.i), .v (.string R[k].2.s)] := by rw [List.getElem?_map, List.getElem?_eq_getElem hk]; rfl
    have e1 : spreadP (R.take (k + 1)) = spreadStep (spreadP (R.take k)) R[k] := by rw [List.take_succ_eq_append_getElem hk, spreadP_snoc]
    have hll := spread_len (R.take k)
    have hnk := hn _ (List.getElem_mem hk)
    rw [e1]
    generalize spreadP (R.take k) = L at *
    generalize R[k] = r at *
    obtain ⟨n, v⟩ := r
    simp only at hnk hx
    obtain ⟨q, hq⟩ : ∃ q, q = min n (4096 - L.length) := ⟨_, rfl⟩
    have hmx : max (n : Int) 0 = (n : Int) := by omega
    have hmn : min (n : Int) (4096 - (L.length : Int)) = (q : Int) := by omega
    have wl : IntKind.i64.wrap (4096 - (L.length : Int)) = 4096 - (L.length : Int) := wrap64_in _ (by omega) (by omega)
    have hr := fun H => repeat_does v true q (by omega) H
    have hst : (spreadStep L (n, v)).map Val.enc = L.map Val.enc ++ List.replicate q v.enc := by
      unfold spreadStep
      rw [List.map_append, List.map_replicate, hq]
    have hsl : (spreadStep L (n, v)).length = L.length + q := by unfold spreadStep; rw [List.length_append, List.length_replicate, hq]
    have h3 : (∀ c ∈ List.replicate q v.enc, c.length = 3) = True := eq_true fun c hc => by rw [List.eq_of_mem_replicate hc]; rfl
    have happ : L.map Val.enc ++ List.replicate q [D.v (.int .i64 v.kind), .v (.int .i64 v.i), .v (.string v.s)] = (spreadStep L (n, v)).map Val.enc := hst.symm
    unfold Val.enc at hr h3
    simp (implicitDefEqProofs := false) only [↓reduceIte, go_sem, oread, owrite, Nat.reduceAdd, Nat.reduceLT, Nat.reduceLeDiff, Nat.reduceEqDiff, eq_self, t3, t6, t7, t8, hk, hx, hmx, wl, hmn]
    refine KCall.ok (hr _) ?_
    simp (implicitDefEqProofs := false) only [↓reduceIte, go_sem, Nat.reduceAdd, Nat.reduceLT, Nat.reduceEqDiff, eq_self, t8, h3, List.length_map, List.length_replicate, happ]
    refine ⟨by omega, by omega, ?_⟩
    refine Rnd.cut [.arr 25 3 (ver + 1) ((spreadStep L (n, v)).map Val.enc)] _ 1 rfl rfl (by simp (implicitDefEqProofs := false) only [go_sem, eq_self]) ?_
    refine ⟨ver + 1, rfl, ?_⟩
    simp (implicitDefEqProofs := false) only [↓reduceIte, go_sem, Nat.reduceLT, Nat.reduceEqDiff, eq_self, t6, t7, hw, hsl]
  · rintro s H' ⟨ver, rfl, t3, t6, t7, t8⟩
    rw [List.take_length] at *
    simp (implicitDefEqProofs := false) only [↓reduceIte, go_sem, Nat.reduceLT, Nat.reduceEqDiff, eq_self, t3, t7, t8]
    refine AEnd.ret ?_
    simp (implicitDefEqProofs := false) only [↓reduceIte, go_sem, Nat.reduceLT, eq_self, List.take_of_length_le (show ((spreadP R).map Val.enc).length ≤ (spreadP R).length by rw [List.length_map]; exact Nat.le_refl _)]
def rleOfP (b : List Nat) (n k : Int) : List Val × Int := if (toRunsP b n k).2 ≠ 0 then ([], (toRunsP b n k).2) else (spreadP (toRunsP b n k).1, 0)
theorem toR_le (k : Int) : ∀ (f : Nat) (R : List (Nat × Val)) (n : Nat) (b : List Nat) (m : Nat), n ≤ m → R.length + n ≤ 4096 → (∀ r ∈ R, r.1 ≤ m) → (toR k f R n b).1.length ≤ 4096 ∧ ∀ r ∈ (toR k f R n b).1, r.1 ≤ m := by
  intro f
  induction f with
  | zero => intro R n b m h1 h2 h3; exact ⟨by simp only [toR]; omega, h3⟩
  | succ f ih =>
    intro R n b m h1 h2 h3
    unfold toR
    split
    · exact ⟨by simp only; omega, h3⟩
    rename_i hn0
    split
    · exact ⟨by simp, by simp⟩
    rename_i he
    split
    · exact ⟨by simp, by simp⟩
    obtain ⟨q, r, e, hq⟩ : ∃ q r e, nextP b n k = (q, r, e) := ⟨_, _, _, rfl⟩
    rw [hq] at he ⊢
    obtain rfl : e = 0 := by simpa using he
    obtain ⟨g1, g2, _⟩ := nextP_ok hq
    refine ih _ _ _ m (by simp only; omega) (by simp only [List.length_append, List.length_singleton]; omega) ?_
    intro x hx
    rcases List.mem_append.1 hx with h | h
    · exact h3 x h
    · rw [List.mem_singleton.1 h]; simp only; omega
theorem toRuns_le (b : List Nat) (n k : Int) : (toRunsP b n k).1.length ≤ 4096 ∧ ∀ r ∈ (toRunsP b n k).1, r.1 ≤ 4096 := by
  unfold toRunsP
  split
  · exact ⟨by simp, by simp⟩
  split
  · exact ⟨by simp, by simp⟩
  split
  · exact ⟨by simp, by simp⟩
  split
  · exact ⟨by simp, by simp⟩
  split
  · exact ⟨by simp, by simp⟩
  exact toR_le k _ [] _ b 4096 (by omega) (by simp; omega) (by simp)
set_option maxRecDepth 10000 in
set_option maxHeartbeats 1000000 in
theorem rleOf_does (b : List Nat) (n k : Int) (hl : b.length ≤ 140737488351232) (hb : ∀ c ∈ b, c < 256) (H : AHeap) :
    Does Tryz.prog 82 [.d (.list false (bys b)), iA n, iA k] H (.ok (.tup [.d (.list false ((rleOfP b n k).1.map Val.enc)), iA (rleOfP b n k).2])) H := by
  have ht := fun H => toRuns_does b n k hl hb H
  obtain ⟨h1, h2⟩ := toRuns_le b n k
  unfold rleOfP
  generalize toRunsP b n k = q at *
  obtain ⟨R, e⟩ := q
  simp only at ht h1 h2 ⊢
  have hs := fun H => spread_does R false (by omega) (fun r hr => by have := h2 r hr; omega) H
  by_cases he : e = 0
  · rw [if_neg (by simpa using he)]
    subst he
    refine Does.of_awp (hint := (fun _ => false)) Tryz.func82 (by kernel_rfl) rfl [6, 7] (by kernel_rfl) (by decide) (by simp [Tryz.ntmps82]) ?_
    rw [Tryz.ntmps82]
    simp (implicitDefEqProofs := false) only [↓reduceIte, go_sem, Nat.reduceLT, Nat.reduceEqDiff, reduceCtorEq, eq_self]
    refine KCall.ok (ht _) ?_
    simp (implicitDefEqProofs := false) only [↓reduceIte, go_sem, Nat.reduceLT, Nat.reduceEqDiff, eq_self]
    refine KCall.ok (hs _) ?_
    simp (implicitDefEqProofs := false) only [↓reduceIte, go_sem, Nat.reduceLT, eq_self]
    refine AEnd.ret0 ?_
    simp (implicitDefEqProofs := false) only [↓reduceIte, go_sem, Nat.reduceLT, Nat.reduceEqDiff, eq_self]
  · rw [if_pos he]
    refine Does.subT (cs := [.d (.v (.slice none 0 0)), iA e]) ?_ (.cons .nil (.cons (.refl _) .nil))
    refine Does.of_awp (hint := (fun _ => false)) Tryz.func82 (by kernel_rfl) rfl [6, 7] (by kernel_rfl) (by decide) (by simp [Tryz.ntmps82]) ?_
    rw [Tryz.ntmps82]
    simp (implicitDefEqProofs := false) only [↓reduceIte, go_sem, Nat.reduceLT, Nat.reduceEqDiff, reduceCtorEq, eq_self]
    refine KCall.ok (ht _) ?_
    simp (implicitDefEqProofs := false) only [↓reduceIte, go_sem, Nat.reduceLT, Nat.reduceEqDiff, eq_self, he]
    refine AEnd.ret0 ?_
    simp (implicitDefEqProofs := false) only [↓reduceIte, go_sem, Nat.reduceLT, Nat.reduceEqDiff, eq_self]
set_option maxRecDepth 10000 in
theorem getRle_does (b : List Nat) (n k : Int) (hl : b.length ≤ 140737488351232) (hb : ∀ c ∈ b, c < 256) (G : AHeap) (id : Nat) (h : G[id]? = some (kB k)) :
    Does Tryz.prog 81 [.d (.list false (bys b)), iA n, .ptr id 0 0 0] G (.ok (.tup [.d (.list false ((rleOfP b n k).1.map Val.enc)), iA (rleOfP b n k).2])) G := by
  have hd := fun H => rleOf_does b n k hl hb H
  unfold kB at h
  refine Does.of_awp (hint := (fun _ => false)) Tryz.func81 (by kernel_rfl) rfl [5, 6] (by kernel_rfl) (by decide) (by simp [Tryz.ntmps81]) ?_
  rw [Tryz.ntmps81]
  simp (implicitDefEqProofs := false) only [↓reduceIte, go_sem, oread, Nat.reduceLT, Nat.reduceEqDiff, reduceCtorEq, eq_self, h]
  refine KCall.ok (hd _) ?_
  simp (implicitDefEqProofs := false) only [↓reduceIte, go_sem, Nat.reduceLT, Nat.reduceEqDiff, eq_self]
  refine AEnd.ret0 ?_
  simp (implicitDefEqProofs := false) only [↓reduceIte, go_sem, Nat.reduceLT, Nat.reduceEqDiff, eq_self]
end Go.Proofs.YtmbagpfmfiegkaaGreat
namespace Go.Proofs.YtmbagpfmfiegkaaGreat
open Go.Proofs.YtmbagpfmfiegkaaGreatAw Go.RowKit
set_option linter.unusedVariables false
set_option linter.unusedSimpArgs false
def sumN (x : Int) (S : List Nat) : Nat → Int
  | 0 => x
  | k + 1 => IntKind.i64.wrap (sumN x S k + zagP (S.getD k 0))
def sumL (x : Int) (S : List Nat) (n : Nat) : List Val := (List.range n).map fun k => num10 (sumN x S k)
theorem sumL_len (x : Int) (S : List Nat) (n : Nat) : (sumL x S n).length = n := by simp [sumL]
theorem sumL_succ (x : Int) (S : List Nat) (n : Nat) : sumL x S (n + 1) = sumL x S n ++ [num10 (sumN x S n)] := by simp [sumL, List.range_succ]
theorem sumL_get (x : Int) (S : List Nat) {n k : Nat} (h : k < n) : (sumL x S n)[k]? = some (num10 (sumN x S k)) := by simp [sumL, h]
def ofB (b : List Nat) (n : Nat) : Option (List Val) × Int :=
  if (getP b).2.2 ≠ 0 then (none, (getP b).2.2)
  else if (getP (b.drop (getP b).2.1)).2.2 ≠ 0 then (none, (getP (b.drop (getP b).2.1)).2.2)
  else if 64 < (getP (b.drop (getP b).2.1)).1 then (none, 4)
  else if unpackE (b.drop ((getP b).2.1 + (getP (b.drop (getP b).2.1)).2.1)) (n - 1) (getP (b.drop (getP b).2.1)).1 ≠ 0 then (none, unpackE (b.drop ((getP b).2.1 + (getP (b.drop (getP b).2.1)).2.1)) (n - 1) (getP (b.drop (getP b).2.1)).1)
  else if widthP (unpackL (b.drop ((getP b).2.1 + (getP (b.drop (getP b).2.1)).2.1)) (n - 1) (getP (b.drop (getP b).2.1)).1) ≠ (getP (b.drop (getP b).2.1)).1 then (none, 4)
  else (some (sumL (zagP (getP b).1) (unpackL (b.drop ((getP b).2.1 + (getP (b.drop (getP b).2.1)).2.1)) (n - 1) (getP (b.drop (getP b).2.1)).1) n), 0)
def ofR (b : List Nat) (n : Int) : Option (List Val) × Int :=
  if n < 0 ∨ 4096 < n then (none, 2)
  else if n = 0 then (none, if 0 < b.length then 4 else 0)
  else ofB b n.toNat
def valsA : Option (List Val) → AV
  | some l => .d (.list false (l.map Val.enc))
  | none => .d (.v (.slice none 0 0))
set_option maxRecDepth 10000 in
set_option maxHeartbeats 1000000 in
theorem of_does (b : List Nat) (n : Int) (nn : Bool) (hl : b.length ≤ 140737488351232) (hb : ∀ c ∈ b, c < 256) (H : AHeap) :
    Does Tryz.prog 88 [.d (.list nn (bys b)), iA n] H (.ok (.tup [valsA (ofR b n).1, iA (ofR b n).2])) H := by
  refine Does.of_awp (hint := (fun t => t == 79)) Tryz.func88 (by kernel_rfl) rfl [4, 5] (by kernel_rfl) (by decide) (by simp [Tryz.ntmps88]) ?_
  rw [Tryz.ntmps88]
  by_cases h1 : n < 0
  · simp (implicitDefEqProofs := false) only [↓reduceIte, go_sem, Nat.reduceLT, Nat.reduceEqDiff, eq_self, h1]
    refine AEnd.ret0 ?_
    simp (implicitDefEqProofs := false) only [↓reduceIte, go_sem, Nat.reduceLT, Nat.reduceEqDiff, eq_self]
    simp [ofR, h1, valsA]
  by_cases h2 : 4096 < n
  · simp (implicitDefEqProofs := false) only [↓reduceIte, go_sem, Nat.reduceLT, Nat.reduceEqDiff, reduceCtorEq, eq_self, h1, h2]
    refine AEnd.ret0 ?_
    simp (implicitDefEqProofs := false) only [↓reduceIte, go_sem, Nat.reduceLT, Nat.reduceEqDiff, eq_self]
    simp [ofR, h2, valsA]
  by_cases h3 : n = 0
  · subst h3
    by_cases h4 : 0 < b.length
    · have h4' : (0 < (b.length : Int)) = True := eq_true (by omega)
      simp (implicitDefEqProofs := false) only [↓reduceIte, go_sem, Nat.reduceLT, Nat.reduceEqDiff, Int.reduceLT, reduceCtorEq, eq_self, bys_len, h4']
      refine AEnd.ret0 ?_
      simp (implicitDefEqProofs := false) only [↓reduceIte, go_sem, Nat.reduceLT, Nat.reduceEqDiff, eq_self]
      simp [ofR, h4, valsA]
    · have h4' : (0 < (b.length : Int)) = False := eq_false (by omega)
      simp (implicitDefEqProofs := false) only [↓reduceIte, go_sem, Nat.reduceLT, Nat.reduceEqDiff, Int.reduceLT, reduceCtorEq, eq_self, bys_len, h4']
      refine AEnd.ret0 ?_
      simp (implicitDefEqProofs := false) only [↓reduceIte, go_sem, Nat.reduceLT, Nat.reduceEqDiff, eq_self]
      simp [ofR, h4, valsA]
  have hR : ofR b n = ofB b n.toNat := by simp [ofR, h1, h2, h3]
  rw [hR]
  obtain ⟨m, hm⟩ : ∃ m : Nat, n = ((m + 1 : Nat) : Int) := ⟨n.toNat - 1, by omega⟩
  have hwn : IntKind.i64.wrap (n - 1) = (m : Int) := by rw [wrap64_in _ (by omega) (by omega)]; omega
  unfold ofB
  rw [show n.toNat = m + 1 by omega, show m + 1 - 1 = m from rfl]
  have hgl := getP_le b
  have hglt := getP_lt b
  simp (implicitDefEqProofs := false) only [↓reduceIte, go_sem, Nat.reduceAdd, Nat.reduceLT, Nat.reduceEqDiff, Nat.reduceBEq, reduceCtorEq, eq_self, h1, h2, h3]
  refine KCall.ok (getN_does b nn (by omega) hb H) ?_
  generalize getP b = g1 at *
  obtain ⟨first, k, e⟩ := g1
  simp only at hgl hglt
  by_cases he : e = 0
  · subst he
    have hk0 : ((0 : Int) ≤ (k : Int)) = True := eq_true (by omega)
    simp (implicitDefEqProofs := false) only [↓reduceIte, go_sem, Nat.reduceAdd, Nat.reduceLT, Nat.reduceEqDiff, Nat.reduceBEq, reduceCtorEq, eq_self, bys_one, bys_len, hk0]
    refine ⟨by omega, ?_⟩
    rw [show (bys b).take b.length = bys b from take_len _ _ (bys_len _), drop_bys]
    have hgl2 := getP_le (b.drop k)
    have hglt2 := getP_lt (b.drop k)
    have hb2 : ∀ c ∈ b.drop k, c < 256 := fun c hc => hb c (List.mem_of_mem_drop hc)
    refine KCall.ok (getN_does (b.drop k) false (by simp; omega) hb2 H) ?_
    rw [List.length_drop] at hgl2
    generalize getP (b.drop k) = g2 at *
    obtain ⟨w, j, e⟩ := g2
    simp only at hgl2 hglt2
    by_cases he : e = 0
    · subst he
      by_cases hw : 64 < w
      · have hw' : (64 < (w : Int)) = True := eq_true (by omega)
        simp (implicitDefEqProofs := false) only [↓reduceIte, go_sem, Nat.reduceAdd, Nat.reduceLT, Nat.reduceEqDiff, Nat.reduceBEq, eq_self, hw']
        refine AEnd.ret0 ?_
        simp (implicitDefEqProofs := false) only [↓reduceIte, go_sem, Nat.reduceLT, Nat.reduceEqDiff, eq_self]
        simp [hw, valsA]
      · have hw' : (64 < (w : Int)) = False := eq_false (by omega)
        have hkj : IntKind.i64.wrap ((k : Int) + (j : Int)) = ((k + j : Nat) : Int) := by rw [wrap64_in _ (by omega) (by omega)]; rfl
        have hww : IntKind.i64.wrap (w : Int) = (w : Int) := wrap64_in _ (by omega) (by omega)
        obtain ⟨p, hp⟩ : ∃ p, p = k + j := ⟨_, rfl⟩
        rw [← hp] at hkj
        simp only [← hp]
        have hp0 : ((0 : Int) ≤ (p : Int)) = True := eq_true (by omega)
        simp (implicitDefEqProofs := false) only [↓reduceIte, go_sem, Nat.reduceAdd, Nat.reduceLT, Nat.reduceEqDiff, Nat.reduceBEq, reduceCtorEq, eq_self, hw', hkj, hww, hwn, bys_one, bys_len, hp0]
        refine ⟨by omega, ?_⟩
        rw [show (bys b).take b.length = bys b from take_len _ _ (bys_len _), drop_bys]
        have hb3 : ∀ c ∈ b.drop p, c < 256 := fun c hc => hb c (List.mem_of_mem_drop hc)
        have hSl := unpackL_lt (b.drop p) m w (by omega)
        have hSn := unpackL_len (b.drop p) m w
        have hu := unpack_does (b.drop p) m w false (by simp; omega) hb3 (by omega) (by omega) H
        unfold unpackA at hu
        generalize unpackL (b.drop p) m w = S at *
        by_cases hue : unpackE (b.drop p) m w = 0
        · rw [hue] at hu ⊢
          refine KCall.ok hu ?_
          simp (implicitDefEqProofs := false) only [↓reduceIte, go_sem, Nat.reduceAdd, Nat.reduceLT, Nat.reduceEqDiff, Nat.reduceBEq, eq_self]
          refine KCall.ok (width_does S false H (by omega) hSl) ?_
          by_cases hwd : widthP S = w
          · have hwd' : (((widthP S : Nat) : Int) = (w : Int)) = True := eq_true (by omega)
            simp (implicitDefEqProofs := false) only [↓reduceIte, go_sem, Nat.reduceAdd, Nat.reduceLT, Nat.reduceEqDiff, Nat.reduceBEq, eq_self, hww, hwd']
            refine KCall.ok (zag_does first hglt H) ?_
            simp (implicitDefEqProofs := false) only [↓reduceIte, go_sem, Nat.reduceAdd, Nat.reduceLT, Nat.reduceLeDiff, Nat.reduceEqDiff, Nat.reduceBEq, eq_self, us_len, hSn]
            refine awp_for (fun i s H' => H' = H ++ [.arr 25 3 i ((sumL (zagP first) S (i + 1)).map Val.enc)] ∧ s 12 = .sl H.length i 0 (i + 1) ∧ s 80 = .d (.list false (us S)) ∧ s 81 = iA m ∧ s 82 = iA i) m (by omega) (Weak.refl _ _) ?_ ?_ ?_
            · refine ⟨?_, ?_⟩
              · simp (implicitDefEqProofs := false) only [go_sem]
                rfl
              · simp (implicitDefEqProofs := false) only [↓reduceIte, go_sem, Nat.reduceLT, Nat.reduceEqDiff, eq_self]
            · rintro i s H' hi hw2 ⟨rfl, t12, t80, t81, t82⟩
              have hx := us_get S i (by omega)
              have hgd : S.getD i 0 = S[i]'(by omega) := by simp [List.getD, show i < S.length by omega]
              have hsx := hSl _ (List.getElem_mem (show i < S.length by omega))
              have hsu : sumL (zagP first) S (i + 1 + 1) = sumL (zagP first) S (i + 1) ++ [num10 (IntKind.i64.wrap (sumN (zagP first) S i + zagP (S[i]'(by omega))))] := by rw [sumL_succ, ← hgd]; rfl
              have hlst := sumL_get (zagP first) S (show i < i + 1 by omega)
              have hln := sumL_len (zagP first) S (i + 1)
              generalize S[i]'(by omega) = x at hx hsx hsu
              rw [hsu]
              generalize sumN (zagP first) S i = y at *
              generalize sumL (zagP first) S (i + 1) = L at *
              simp (implicitDefEqProofs := false) only [↓reduceIte, go_sem, Nat.reduceAdd, Nat.reduceLT, Nat.reduceEqDiff, Nat.reduceBEq, eq_self, t80, t81, t82, hi, hx]
              have hii : ((i : Int) < (i : Int) + 1) = True := eq_true (by omega)
              refine awp_drawK 11 K.mixed (by kernel_rfl) (by kernel_rfl) ?_
              simp (implicitDefEqProofs := false) only [↓reduceIte, go_sem, oread, Nat.reduceAdd, Nat.reduceLT, Nat.reduceLeDiff, Nat.reduceEqDiff, eq_self, t12, hlst, hii, Val.enc, num10]
              refine KCall.ok (zag_does x hsx _) ?_
              have hsn : L.map Val.enc ++ [[D.v (.int .i64 1), D.v (.int .i64 (IntKind.i64.wrap (y + zagP x))), D.v (.string ⟨#[]⟩)]] = (L ++ [num10 (IntKind.i64.wrap (y + zagP x))]).map Val.enc := by simp [Val.enc, num10, noS]
              simp (implicitDefEqProofs := false) only [↓reduceIte, go_sem, Nat.reduceAdd, Nat.reduceLT, Nat.reduceLeDiff, Nat.reduceEqDiff, Nat.reduceBEq, eq_self, List.length_map, hln, hsn]
              refine ⟨by omega, by omega, ?_⟩
              simp (implicitDefEqProofs := false) only [↓reduceIte, go_sem, Nat.reduceLT, eq_self, t82]
              refine Rnd.same ⟨?_, ?_⟩
              · simp (implicitDefEqProofs := false) only [go_sem, eq_self]
              · simp (implicitDefEqProofs := false) only [↓reduceIte, go_sem, Nat.reduceLT, Nat.reduceEqDiff, eq_self, t80, t81, hw2]
            · rintro s H' ⟨rfl, t12, t80, t81, t82⟩
              simp (implicitDefEqProofs := false) only [↓reduceIte, go_sem, Nat.reduceAdd, Nat.reduceLT, Nat.reduceEqDiff, Nat.reduceBEq, eq_self, t12, t81, t82]
              refine AEnd.ret ?_
              simp (implicitDefEqProofs := false) only [↓reduceIte, go_sem, Nat.reduceLT, Nat.reduceEqDiff, eq_self]
              rw [show ((sumL (zagP first) S (m + 1)).map Val.enc).take (m + 1) = (sumL (zagP first) S (m + 1)).map Val.enc from take_len _ _ (by rw [List.length_map, sumL_len])]
              simp [hw, hwd, valsA]
          · have hwd' : (((widthP S : Nat) : Int) = (w : Int)) = False := eq_false (by omega)
            simp (implicitDefEqProofs := false) only [↓reduceIte, go_sem, Nat.reduceLT, Nat.reduceEqDiff, eq_self, hww, hwd']
            refine AEnd.ret0 ?_
            simp (implicitDefEqProofs := false) only [↓reduceIte, go_sem, Nat.reduceLT, Nat.reduceEqDiff, eq_self]
            simp [hw, hwd, valsA]
        · rw [if_neg hue] at hu
          refine KCall.ok hu ?_
          simp (implicitDefEqProofs := false) only [↓reduceIte, go_sem, Nat.reduceAdd, Nat.reduceLT, Nat.reduceEqDiff, Nat.reduceBEq, eq_self, hue]
          refine AEnd.ret0 ?_
          simp (implicitDefEqProofs := false) only [↓reduceIte, go_sem, Nat.reduceLT, Nat.reduceEqDiff, eq_self]
          simp [hw, hue, valsA]
    · simp (implicitDefEqProofs := false) only [↓reduceIte, go_sem, Nat.reduceAdd, Nat.reduceLT, Nat.reduceEqDiff, Nat.reduceBEq, eq_self, he]
      refine AEnd.ret0 ?_
      simp (implicitDefEqProofs := false) only [↓reduceIte, go_sem, Nat.reduceLT, Nat.reduceEqDiff, eq_self]
      simp [he, valsA]
  · simp (implicitDefEqProofs := false) only [↓reduceIte, go_sem, Nat.reduceAdd, Nat.reduceLT, Nat.reduceEqDiff, Nat.reduceBEq, eq_self, he]
    refine AEnd.ret0 ?_
    simp (implicitDefEqProofs := false) only [↓reduceIte, go_sem, Nat.reduceLT, Nat.reduceEqDiff, eq_self]
    simp [he, valsA]
end Go.Proofs.YtmbagpfmfiegkaaGreat
namespace Go.Proofs.YtmbagpfmfiegkaaGreatAw
open Go.RowKit
set_option linter.unusedVariables false
set_option linter.unusedSimpArgs false
section
variable (P : Program) (hint : Nat → Bool) (n : Nat) (ops : Array Oper) (a p : Nat) (bx : AObj) (B : AHeap)
/-- What makes operation a the one that lays the variable down. -/
def AllocAt (o : Oper) (H : AHeap) : Prop := ∃ e z k b e', o.op = .alloc e ∧ o.guard = none ∧ TI P e = some (z, k, b) ∧ (0 < k ∧ z.cells.size = k ∧ z.cells.all Value.oneCell' = true) ∧ hintOf hint o.dst = true ∧ bx = .box e k 1 1 (dcells z.cells) ∧ H[p]? = some (.arr e' k 0 [])
/-- The region in the order of its text: true: it changes the heap (ahead of a: alike with the variable and without it); false: it does not look at it; none: it is looked at in B. -/
def awpMixA (Q : Post) : Nat → List (Option Bool) → List Oper → (Nat → AV) → AHeap → Prop
  | _, [], l, s, H => awpList P hint n ops Q l s H
  | _, _ :: _, [], s, H => awpList P hint n ops Q [] s H
  | i, b :: bs, o :: rest, s, H => if i = a then AllocAt P hint p bx o H ∧ awpMixA Q (i + 1) bs rest (aput n s o.dst (.ptr p 1 0 0)) (H.set p bx) else match b with
    | some false => awpOp P hint n ops (fun _ _ _ => False) o (fun s' H' => H' = H ∧ awpMixA Q (i + 1) bs rest s' H') s H
    | none => awpOp P hint n ops (fun _ _ _ => False) o (fun s' H' => H' = B ∧ awpMixA Q (i + 1) bs rest s' H) s B
    | some true => o.guard = none ∧ (if i < a then astep P hint s H o (fun r H' => astep P hint s (H.set p bx) o (fun r' H'' => r' = r ∧ H'' = H'.set p bx ∧ H'[p]? = H[p]? ∧ Ext B H' ∧ awpMixA Q (i + 1) bs rest (aput n s o.dst r) H') (fun _ _ => False)) (fun _ _ => False)
        else astep P hint s H o (fun r H' => Ext B H' ∧ awpMixA Q (i + 1) bs rest (aput n s o.dst r) H') (fun _ _ => False))
end
section
variable {P : Program} {hint : Nat → Bool} {n : Nat} {ops : Array Oper} {Q : Post} {a p : Nat} {bx : AObj} {B : AHeap}
/-- What the walk says of one operation. -/
def SayA (P : Program) (hint : Nat → Bool) (n : Nat) (ops : Array Oper) (a p : Nat) (bx : AObj) (B : AHeap) (b : Option Bool) (i : Nat) (o : Oper) (s : Nat → AV) (r : AV) (H H' : AHeap) : Prop :=
  if i = a then AllocAt P hint p bx o H ∧ r = .ptr p 1 0 0 ∧ H' = H.set p bx else match b with
  | some false => StepT P hint n ops H s o r H ∧ H' = H
  | none => StepT P hint n ops B s o r B ∧ H' = H
  | some true => StepT P hint n ops H s o r H' ∧ Ext B H' ∧ (i < a → StepT P hint n ops (H.set p bx) s o r (H'.set p bx) ∧ H'[p]? = H[p]?)
theorem stepT_none {H H' : AHeap} {s : Nat → AV} {o : Oper} {r : AV} (hg : o.guard = none) (h : ∀ K KP, K r H' → astep P hint s H o K KP) : StepT P hint n ops H s o r H' := by
  unfold StepT
  rw [hg]
  exact h
theorem awpMixA_steps (hdt : ∀ (i : Nat) (o : Oper), ops[i]? = some o → detOp hint o.op = true) (s0 : Nat → AV) : ∀ (bs : List (Option Bool)) (k : Nat) (rs0 : Nat → AV) (hp0 : Nat → AHeap), k + bs.length ≤ ops.size → awpMixA P hint n ops a p bx B Q k bs (ops.toList.drop k) (stAt n ops s0 rs0 k) (hp0 k) →
    ∃ (rs : Nat → AV) (hp : Nat → AHeap), (∀ i, i < k → rs i = rs0 i) ∧ (∀ i, i ≤ k → hp i = hp0 i) ∧
      (∀ i o b, k ≤ i → i < k + bs.length → ops[i]? = some o → bs[i - k]? = some b → SayA P hint n ops a p bx B b i o (stAt n ops s0 rs i) (rs i) (hp i) (hp (i + 1))) ∧
      awpList P hint n ops Q (ops.toList.drop (k + bs.length)) (stAt n ops s0 rs (k + bs.length)) (hp (k + bs.length))
  | [], k, rs0, hp0, hk, h => ⟨rs0, hp0, fun _ _ => rfl, fun _ _ => rfl, fun i o b h1 h2 => by simp at h2; omega, by
      have h : awpList P hint n ops Q (ops.toList.drop k) (stAt n ops s0 rs0 k) (hp0 k) := by
        cases hd : ops.toList.drop k <;> (rw [hd] at h; exact h)
      exact h⟩
  | b :: bs, k, rs0, hp0, hk, h => by
    simp only [List.length_cons] at hk
    have hlt : k < ops.size := by omega
    have hget : ops[k]? = some ops[k] := by simp [hlt]
    have hd : ops.toList.drop k = ops[k] :: ops.toList.drop (k + 1) := by
      rw [List.drop_eq_getElem_cons (by simpa using hlt)]; simp
    rw [hd] at h
    have hdst : dstAt ops k = (ops[k]).dst := by simp [dstAt, hget]
    have step : ∃ r H', SayA P hint n ops a p bx B b k ops[k] (stAt n ops s0 rs0 k) r (hp0 k) H' ∧ awpMixA P hint n ops a p bx B Q (k + 1) bs (ops.toList.drop (k + 1)) (aput n (stAt n ops s0 rs0 k) (ops[k]).dst r) H' := by
      unfold SayA
      unfold awpMixA at h
      by_cases hka : k = a
      · rw [if_pos hka] at h
        refine ⟨.ptr p 1 0 0, (hp0 k).set p bx, ?_, h.2⟩
        rw [if_pos hka]
        exact ⟨h.1, rfl, rfl⟩
      · rw [if_neg hka] at h
        simp only [if_neg hka]
        match b, h with
        | some false, h =>
          obtain ⟨r, H', h1, rfl, h3⟩ := step_of (hdt k _ hget) h
          exact ⟨r, _, ⟨h1, rfl⟩, h3⟩
        | none, h =>
          obtain ⟨r, H', h1, rfl, h3⟩ := step_of (hdt k _ hget) h
          exact ⟨r, _, ⟨h1, rfl⟩, h3⟩
        | some true, ⟨hg, h⟩ =>
          by_cases hlta : k < a
          · rw [if_pos hlta] at h
            obtain ⟨r, H', h1, h2⟩ := astep_det (hdt k _ hget) h
            obtain ⟨r', H'', ⟨rfl, rfl, h3, h4, h5⟩, h6⟩ := astep_det (hdt k _ hget) h1
            exact ⟨r', H', ⟨stepT_none hg h2, h4, fun _ => ⟨stepT_none hg h6, h3⟩⟩, h5⟩
          · rw [if_neg hlta] at h
            obtain ⟨r, H', ⟨h1, h3⟩, h2⟩ := astep_det (hdt k _ hget) h
            exact ⟨r, H', ⟨stepT_none hg h2, h1, fun hh => absurd hh hlta⟩, h3⟩
    obtain ⟨r, H', h1, h4⟩ := step
    let rs1 : Nat → AV := fun i => if i = k then r else rs0 i
    let hp1 : Nat → AHeap := fun i => if i = k + 1 then H' else hp0 i
    have e1 : rs1 k = r := if_pos rfl
    have e2 : hp1 (k + 1) = H' := if_pos rfl
    have hst : ∀ (rs : Nat → AV) i, i ≤ k → (∀ j, j < i → rs j = rs0 j) → stAt n ops s0 rs i = stAt n ops s0 rs0 i := by
      intro rs i
      induction i with
      | zero => intros; rfl
      | succ i ih =>
        intro hi hr
        simp only [stAt, ih (by omega) fun j hj => hr j (by omega), hr i (by omega)]
    have h5 : awpMixA P hint n ops a p bx B Q (k + 1) bs (ops.toList.drop (k + 1)) (stAt n ops s0 rs1 (k + 1)) (hp1 (k + 1)) := by
      rw [e2]
      simp only [stAt, e1, hdst]
      rw [hst rs1 k (Nat.le_refl _) fun j hj => if_neg (by omega)]
      exact h4
    obtain ⟨rs, hp, g1, g2, g3, g4⟩ := awpMixA_steps hdt s0 bs (k + 1) rs1 hp1 (by omega) h5
    have f1 : ∀ i, i < k → rs i = rs0 i := fun i hi => by rw [g1 i (by omega)]; exact if_neg (by omega)
    have f2 : ∀ i, i ≤ k → hp i = hp0 i := fun i hi => by rw [g2 i (by omega)]; exact if_neg (by omega)
    have f3 : rs k = r := by rw [g1 k (by omega)]; exact e1
    have f4 : hp (k + 1) = H' := by rw [g2 (k + 1) (by omega)]; exact e2
    refine ⟨rs, hp, f1, f2, fun i o b' hi hi2 ho hb => ?_, by rw [List.length_cons, show k + (bs.length + 1) = k + 1 + bs.length from by omega]; exact g4⟩
    rcases Nat.lt_or_ge k i with hki | hki
    · refine g3 i o b' hki (by simp only [List.length_cons] at hi2; omega) ho ?_
      rwa [show i - k = (i - (k + 1)) + 1 from by omega, List.getElem?_cons_succ] at hb
    · obtain rfl : i = k := by omega
      rw [hget] at ho
      cases ho
      rw [Nat.sub_self, List.getElem?_cons_zero] at hb
      cases hb
      rw [f2 i (Nat.le_refl _), f3, f4, hst rs i (Nat.le_refl _) fun j hj => f1 j hj]
      exact h1
theorem AllocAt.step {o : Oper} {H : AHeap} {s : Nat → AV} (h : AllocAt P hint p bx o H) : StepT P hint n ops H s o (.ptr p 1 0 0) (H.set p bx) := by
  obtain ⟨e, z, k, b, e', h1, h2, h3, h4, h5, h6, h7⟩ := h
  refine stepT_none h2 fun K KP hk => ?_
  obtain ⟨d, op, ty, ps, af, g⟩ := o
  simp only at h1 h2 h5
  subst h1 h2
  rw [st_alloc, h3]
  refine ⟨by rw [TIok_eq h3]; exact h4, ?_⟩
  rw [h5]
  exact ⟨p, e', h7, by rw [← h6]; exact hk⟩
end
def mixCheckA (hint : Nat → Bool) (ops : Array Oper) (bs : List (Option Bool)) (a : Nat) : Bool := decide (a < bs.length) && (List.range bs.length).all fun i => i == a || match bs[i]?, ops[i]? with
  | some (some false), some o => floats hint false o
  | some none, some o => floats hint true o
  | some (some true), some _ => (decide (i < a) || reachB ops 12 i a) && (List.range i).all fun c => c == a || bs[c]? == some (some false) || bs[c]? == some none || reachB ops 12 i c
  | _, _ => false
section
variable {P : Program} {hint : Nat → Bool} {n : Nat} {ops : Array Oper} {Q : Post}
theorem awp_drawA (bs : List (Option Bool)) (a p : Nat) (bx : AObj) (B : AHeap) {H0 H : AHeap} {id : Nat} {s : Nat → AV} (hm : P.follows .mixedOrders = true) (hc : pureCheck hint ops = true) (ht : tailCheck ops bs.length = true) (hx : mixCheckA hint ops bs a = true) (hB : Ext B H) (hBp : ∀ o, B[p]? = some o → o.live = false)
    (h : awpMixA P hint n ops a p bx B Q 0 bs ops.toList s H) : awp P hint n H0 (.region id ops true) Q s H := by
  obtain ⟨hms, htl⟩ := tailCheck_ok ht
  refine ⟨hm, ?_⟩
  obtain ⟨rs, w, _, g2, g3, g4⟩ := awpMixA_steps (pureCheck_ok hc).det s bs 0 (fun _ => .top) (fun _ => H) (by omega) h
  have g20 : w 0 = H := g2 0 (Nat.le_refl _)
  simp only [Nat.zero_add, Nat.sub_zero, Nat.zero_le, true_implies] at g3 g4
  unfold mixCheckA at hx
  rw [Bool.and_eq_true, List.all_eq_true] at hx
  obtain ⟨ha, hx⟩ := hx
  have ha : a < bs.length := by simpa using ha
  have hget : ∀ i, i < bs.length → ∃ o, ops[i]? = some o := fun i hi => ⟨ops[i]'(by omega), by simp [show i < ops.size by omega]⟩
  have hbs : ∀ i (hi : i < bs.length), bs[i]? = some bs[i] := fun i hi => List.getElem?_eq_getElem hi
  let T : Nat → Bool := fun i => i != a && bs[i]? == some (some true)
  have TT : ∀ i, T i = true → i ≠ a ∧ bs[i]? = some (some true) := fun i h => by
    have h : (i != a && bs[i]? == some (some true)) = true := h
    simpa using h
  have TF : ∀ i, i < bs.length → i ≠ a → T i = false → bs[i]? = some (some false) ∨ bs[i]? = some none := fun i hi hia h => by
    have h : (i != a && bs[i]? == some (some true)) = false := h
    rw [hbs i hi] at h ⊢
    rcases hb : bs[i] with _ | _ | _
    · exact .inr rfl
    · exact .inl rfl
    · rw [hb] at h; simp [hia] at h
  have say : ∀ i o, i < bs.length → ops[i]? = some o → SayA P hint n ops a p bx B bs[i]! i o (stAt n ops s rs i) (rs i) (w i) (w (i + 1)) := fun i o hi ho => g3 i o _ hi ho (by rw [hbs i hi]; simp [hi])
  have sayT : ∀ i o, i < bs.length → ops[i]? = some o → T i = true → StepT P hint n ops (w i) (stAt n ops s rs i) o (rs i) (w (i + 1)) ∧ Ext B (w (i + 1)) ∧ (i < a → StepT P hint n ops ((w i).set p bx) (stAt n ops s rs i) o (rs i) ((w (i + 1)).set p bx) ∧ (w (i + 1))[p]? = (w i)[p]?) := by
    intro i o hi ho hT
    obtain ⟨h1, h2⟩ := TT i hT
    have := g3 i o _ hi ho h2
    unfold SayA at this
    rwa [if_neg h1] at this
  have sayF : ∀ i o, i < bs.length → ops[i]? = some o → bs[i]? = some (some false) → i ≠ a → StepT P hint n ops (w i) (stAt n ops s rs i) o (rs i) (w i) ∧ w (i + 1) = w i := by
    intro i o hi ho h2 h1
    have := g3 i o _ hi ho h2
    unfold SayA at this
    rwa [if_neg h1] at this
  have sayN : ∀ i o, i < bs.length → ops[i]? = some o → bs[i]? = some none → i ≠ a → StepT P hint n ops B (stAt n ops s rs i) o (rs i) B ∧ w (i + 1) = w i := by
    intro i o hi ho h2 h1
    have := g3 i o _ hi ho h2
    unfold SayA at this
    rwa [if_neg h1] at this
  obtain ⟨oa, hoa⟩ := hget a ha
  have sayA : AllocAt P hint p bx oa (w a) ∧ rs a = .ptr p 1 0 0 ∧ w (a + 1) = (w a).set p bx := by
    have := g3 a oa _ ha hoa (hbs a ha)
    unfold SayA at this
    rwa [if_pos rfl] at this
  have stay : ∀ i, i < bs.length → i ≠ a → T i = false → w (i + 1) = w i := by
    intro i hi hia hT
    obtain ⟨o, ho⟩ := hget i hi
    rcases TF i hi hia hT with h | h
    · exact (sayF i o hi ho h hia).2
    · exact (sayN i o hi ho h hia).2
  have hext : ∀ j, j ≤ bs.length → Ext B (w j) ∧ Ext B ((w j).set p bx) := by
    have key : ∀ H : AHeap, Ext B H → Ext B (H.set p bx) := fun H hE i o ho hl => by
      by_cases e : i = p
      · subst e; rw [hBp o ho] at hl; cases hl
      · rw [List.getElem?_set_ne (Ne.symm e)]; exact hE i o ho hl
    intro j
    induction j with
    | zero => intro _; rw [g20]; exact ⟨hB, key _ hB⟩
    | succ j ih =>
      intro hj
      obtain ⟨o, ho⟩ := hget j (by omega)
      by_cases hja : j = a
      · subst hja
        rw [sayA.2.2]
        exact ⟨(ih (by omega)).2, key _ (ih (by omega)).2⟩
      · cases hT : T j with
        | true => have := (sayT j o (by omega) ho hT).2.1; exact ⟨this, key _ this⟩
        | false => rw [stay j (by omega) hja hT]; exact ih (by omega)
  -- the two heaps
  let u : Nat → AHeap := fun i => if i ≤ a then (w i).set p bx else w i
  have u1 : ∀ i, i ≤ a → u i = (w i).set p bx := fun i hi => if_pos hi
  have u2 : ∀ i, a < i → u i = w i := fun i hi => if_neg (by omega)
  have ustay : ∀ i, i < bs.length → T i = false → u (i + 1) = u i := by
    intro i hi hT
    rcases Nat.lt_trichotomy i a with h | h | h
    · rw [u1 i (by omega), u1 (i + 1) (by omega), stay i hi (by omega) hT]
    · subst h; rw [u1 i (Nat.le_refl _), u2 (i + 1) (by omega), sayA.2.2]
    · rw [u2 i h, u2 (i + 1) (by omega), stay i hi (by omega) hT]
  have chain : ∀ (f : Nat → AHeap) (N : Nat), (∀ i, i < N → T i = false → f (i + 1) = f i) → ∀ q i, q ≤ N → i ≤ N → (∀ c, c < N → T c = true → (c < q ↔ c < i)) → f q = f i := by
    intro f N hf
    have up : ∀ d q, q + d ≤ N → (∀ c, c < N → T c = true → (c < q ↔ c < q + d)) → f (q + d) = f q := by
      intro d
      induction d with
      | zero => intros; rfl
      | succ d ihd =>
        intro q hq hcc
        have h1 : T (q + d) = false := by
          cases h : T (q + d) with
          | false => rfl
          | true => have := (hcc (q + d) (by omega) h).2 (by omega); omega
        rw [← Nat.add_assoc, hf (q + d) (by omega) h1]
        exact ihd q (by omega) fun c hcm hct => ⟨fun h => by omega, fun h => (hcc c hcm hct).2 (by omega)⟩
    intro q i hq hi hcc
    rcases Nat.le_total q i with h | h
    · obtain ⟨d, rfl⟩ := Nat.exists_eq_add_of_le h
      exact (up d q hi hcc).symm
    · obtain ⟨d, rfl⟩ := Nat.exists_eq_add_of_le h
      exact up d i hq fun c hcm hct => (hcc c hcm hct).symm
  have hsu := chain u bs.length ustay
  have hsw := chain w a fun i hi hT => stay i (by omega) (by omega) hT
  have hole : ∀ j, j ≤ a → (w j)[p]? = (w 0)[p]? := by
    intro j
    induction j with
    | zero => intro _; rfl
    | succ j ih =>
      intro hj
      obtain ⟨o, ho⟩ := hget j (by omega)
      cases hT : T j with
      | true => rw [((sayT j o (by omega) ho hT).2.2 (by omega)).2]; exact ih (by omega)
      | false => rw [stay j (by omega) (by omega) hT]; exact ih (by omega)
  have chk : ∀ i o, i < bs.length → ops[i]? = some o → T i = true → (i < a ∨ reachB ops 12 i a = true) ∧ ∀ c, c < i → T c = true → reachB ops 12 i c = true := by
    intro i o hi ho hT
    obtain ⟨h1, h2⟩ := TT i hT
    have := hx i (List.mem_range.2 hi)
    rw [h2, ho] at this
    simp only [Bool.or_eq_true, beq_iff_eq, h1, false_or, Bool.and_eq_true, decide_eq_true_eq, List.all_eq_true] at this
    refine ⟨this.1, fun c hci hct => ?_⟩
    obtain ⟨h3, h4⟩ := TT c hct
    have := this.2 c (List.mem_range.2 hci)
    rw [h4] at this
    simpa [h3] using this
  refine awpAny_rel (pureCheck_ok hc) bs.length hms htl s rs (fun L G => ∃ q, q ≤ bs.length ∧ (∀ c, c < bs.length → T c = true → (L c = true ↔ c < q)) ∧ ((L a = true ∧ G = u q) ∨ (L a = false ∧ q ≤ a ∧ G = w q))) ?_ ?_ ?_ ops.size (Array.replicate ops.size false) s H (by simp) ?_ ?_ ?_ ?_ ?_ ⟨0, Nat.zero_le _, fun c hcm hct => ?_, .inr ⟨?_, Nat.zero_le _, g20.symm⟩⟩
  · rintro L L' G hL ⟨q, h1, h2, h3⟩
    exact ⟨q, h1, fun c hcm hct => by rw [← hL c hcm]; exact h2 c hcm hct, by rw [← hL a ha]; exact h3⟩
  · rintro L G i o ⟨q, hqm, hql, hG⟩ him hgo hun hcl hbi
    have hnew : ∀ c, c ≠ i → (if c = i then true else L c) = L c := fun c hc => if_neg hc
    by_cases hia : i = a
    · subst hia
      rcases hG with ⟨hL, _⟩ | ⟨_, hqa, rfl⟩
      · rw [hL] at hun; cases hun
      have e : o = oa := Option.some.inj (hgo.symm.trans hoa)
      subst e
      obtain ⟨e, z, k, b, e', k1, k2, k3, k4, k5, k6, k7⟩ := sayA.1
      have hA : AllocAt P hint p bx o (w q) := ⟨e, z, k, b, e', k1, k2, k3, k4, k5, k6, by rw [hole q hqa, ← hole i (Nat.le_refl _)]; exact k7⟩
      refine ⟨_, by rw [sayA.2.1]; exact hA.step, q, hqm, fun c hcm hct => ?_, .inl ⟨by simp, (u1 q hqa).symm⟩⟩
      show (if c = i then true else L c) = true ↔ c < q
      rw [hnew c (TT c hct).1]
      exact hql c hcm hct
    · have hLa : (if a = i then true else L a) = L a := if_neg (Ne.symm hia)
      cases hT : T i with
      | false =>
        have hS : StepT P hint n ops G (stAt n ops s rs i) o (rs i) G := by
          have hfl := hx i (List.mem_range.2 him)
          have hEx : Ext B G := by
            rcases hG with ⟨_, rfl⟩ | ⟨_, _, rfl⟩
            · rcases Nat.lt_or_ge a q with h | h
              · rw [u2 q h]; exact (hext q hqm).1
              · rw [u1 q h]; exact (hext q hqm).2
            · exact (hext q hqm).1
          rcases TF i him hia hT with hk | hk
          · rw [hk, hgo] at hfl
            simp only [Bool.or_eq_true, beq_iff_eq, hia, false_or] at hfl
            exact floats_stepT hfl (fun hf => by cases hf) (sayF i o him hgo hk hia).1
          · rw [hk, hgo] at hfl
            simp only [Bool.or_eq_true, beq_iff_eq, hia, false_or] at hfl
            exact floats_stepT (first := true) hfl (fun _ => hEx) (sayN i o him hgo hk hia).1
        refine ⟨G, hS, q, hqm, fun c hcm hct => ?_, by simp only [hLa]; exact hG⟩
        show (if c = i then true else L c) = true ↔ c < q
        rw [hnew c (by intro e; rw [e, hT] at hct; cases hct)]
        exact hql c hcm hct
      | true =>
        obtain ⟨hra, hrc⟩ := chk i o him hgo hT
        have breach : ∀ c o', ops[c]? = some o' → (∀ j, bindsOn o' j = true → L j = true) → ∀ i', reachB ops 12 c i' = true → L i' = true := fun c o' hoc hb i' hr => reachL_listed hcl 12 c o' hoc hb i' hr
        have hbef : ∀ c, c < bs.length → T c = true → (L c = true ↔ c < i) := by
          intro c hcm hct
          refine ⟨fun hl => ?_, fun hlt => breach i o hgo hbi c (hrc c hlt hct)⟩
          rcases Nat.lt_trichotomy c i with h | h | h
          · exact h
          · subst h; rw [hun] at hl; cases hl
          · exfalso
            obtain ⟨oc, hgc⟩ := hget c hcm
            have := breach c oc hgc (fun j hj => hcl c oc j hgc hl hj) i ((chk c oc hcm hgc hct).2 i h hT)
            rw [hun] at this
            cases this
        have heq : ∀ c, c < bs.length → T c = true → (c < q ↔ c < i) := fun c hcm hct => (hql c hcm hct).symm.trans (hbef c hcm hct)
        have hq' : ∀ c, c < bs.length → T c = true → ((if c = i then true else L c) = true ↔ c < i + 1) := fun c hcm hct => by
          by_cases e : c = i
          · subst e; simp
          · rw [if_neg e]
            exact (hbef c hcm hct).trans ⟨fun h => by omega, fun h => by omega⟩
        obtain ⟨s1, _, s3⟩ := sayT i o him hgo hT
        rcases hG with ⟨hL, rfl⟩ | ⟨hL, hqa, rfl⟩
        · have hu := hsu q i hqm (by omega) heq
          rw [hu]
          rcases Nat.lt_or_ge i a with h | h
          · refine ⟨u (i + 1), by rw [u1 i (by omega), u1 (i + 1) (by omega)]; exact (s3 h).1, i + 1, by omega, hq', .inl ⟨by show (if a = i then true else L a) = true; rw [hLa]; exact hL, rfl⟩⟩
          · refine ⟨u (i + 1), by rw [u2 i (by omega), u2 (i + 1) (by omega)]; exact s1, i + 1, by omega, hq', .inl ⟨by show (if a = i then true else L a) = true; rw [hLa]; exact hL, rfl⟩⟩
        · have hilt : i < a := by
            rcases hra with h | h
            · exact h
            · have := breach i o hgo hbi a h
              rw [hL] at this; cases this
          have hw := hsw q i hqa (by omega) fun c hcm hct => heq c (by omega) hct
          rw [hw]
          exact ⟨_, s1, i + 1, by omega, hq', .inr ⟨by show (if a = i then true else L a) = false; rw [hLa]; exact hL, by omega, rfl⟩⟩
  · rintro L G hall ⟨q, hqm, hql, hG⟩
    rcases hG with ⟨_, rfl⟩ | ⟨hL, _⟩
    · rw [hsu q bs.length hqm (Nat.le_refl _) fun c hcm hct => ⟨fun _ => hcm, fun _ => (hql c hcm hct).1 (hall c hcm)⟩, u2 _ ha]
      exact g4
    · rw [hall a ha] at hL; cases hL
  · exact Nat.le_trans List.countP_le_length (by simp)
  · intro t j hj
    have hjl := dstAt_lt hj
    rw [if_neg (by simp [Array.getD, hjl])]
  · intro t _; rfl
  · intro j oj i hoj hl
    have hjl := (Array.getElem?_eq_some_iff.1 hoj).1
    simp [Array.getD, hjl] at hl
  · intro i hi hi2
    simp [Array.getD, hi2]
  · have : c < ops.size := by omega
    simp [Array.getD, this]
  · simp [Array.getD, show a < ops.size by omega]
end
section
variable (P : Program) (hint : Nat → Bool) (n : Nat) (ops : Array Oper) (a p : Nat) (bx : AObj) (B : AHeap) (Q : Post) (i : Nat) (bs : List (Option Bool)) (rest : List Oper) (s : Nat → AV) (H : AHeap)
def KMixAn (d : Option Tmp) (H0 : AHeap) : AV → AHeap → Prop := fun r H' => H' = B ∧ awpMixA P hint n ops a p bx B Q (i + 1) bs rest (aput n s d r) H0
def KMixAf (d : Option Tmp) (H0 : AHeap) : AV → AHeap → Prop := fun r H' => H' = H0 ∧ awpMixA P hint n ops a p bx B Q (i + 1) bs rest (aput n s d r) H'
def KMixAu (d : Option Tmp) (H0 : AHeap) (r : AV) (H' : AHeap) : AV → AHeap → Prop := fun r' H'' => r' = r ∧ H'' = H'.set p bx ∧ H'[p]? = H0[p]? ∧ Ext B H' ∧ awpMixA P hint n ops a p bx B Q (i + 1) bs rest (aput n s d r) H'
def KMixAt (o : Oper) (H0 : AHeap) : AV → AHeap → Prop := fun r H' => if i < a then astep P hint s (H0.set p bx) o (KMixAu P hint n ops a p bx B Q i bs rest s o.dst H0 r H') KNo else Ext B H' ∧ awpMixA P hint n ops a p bx B Q (i + 1) bs rest (aput n s o.dst r) H'
theorem KMixAn_eq (d : Option Tmp) (H0 : AHeap) (r : AV) : KMixAn P hint n ops a p bx B Q i bs rest s d H0 r H = (H = B ∧ awpMixA P hint n ops a p bx B Q (i + 1) bs rest (aput n s d r) H0) := rfl
theorem KMixAf_eq (d : Option Tmp) (H0 : AHeap) (r : AV) : KMixAf P hint n ops a p bx B Q i bs rest s d H0 r H = (H = H0 ∧ awpMixA P hint n ops a p bx B Q (i + 1) bs rest (aput n s d r) H) := rfl
theorem KMixAu_eq (d : Option Tmp) (H0 : AHeap) (r : AV) (H' : AHeap) (r' : AV) : KMixAu P hint n ops a p bx B Q i bs rest s d H0 r H' r' H = (r' = r ∧ H = H'.set p bx ∧ H'[p]? = H0[p]? ∧ Ext B H' ∧ awpMixA P hint n ops a p bx B Q (i + 1) bs rest (aput n s d r) H') := rfl
theorem KMixAt_eq (d : Option Tmp) (op : Op) (ty : TypeId) (ps : String) (af : Array Edge) (g : Option (Nat × Bool)) (H0 : AHeap) (r : AV) : KMixAt P hint n ops a p bx B Q i bs rest s ⟨d, op, ty, ps, af, g⟩ H0 r H = (if i < a then astep P hint s (H0.set p bx) ⟨d, op, ty, ps, af, g⟩ (KMixAu P hint n ops a p bx B Q i bs rest s d H0 r H) KNo else Ext B H ∧ awpMixA P hint n ops a p bx B Q (i + 1) bs rest (aput n s d r) H) := rfl
theorem awpMixA_end (l : List Oper) : awpMixA P hint n ops a p bx B Q i [] l s H = awpList P hint n ops Q l s H := by cases l <;> rfl
theorem awpMixA_mk (l : List Oper) : awpMixA P hint n ops a p bx B Q i bs l.toArray.toList s H = awpMixA P hint n ops a p bx B Q i bs l s H := rfl
theorem awpMixA_f (d : Option Tmp) (op : Op) (ty : TypeId) (ps : String) (af : Array Edge) : awpMixA P hint n ops a p bx B Q i (some false :: bs) (⟨d, op, ty, ps, af, none⟩ :: rest) s H = if i = a then AllocAt P hint p bx ⟨d, op, ty, ps, af, none⟩ H ∧ awpMixA P hint n ops a p bx B Q (i + 1) bs rest (aput n s d (.ptr p 1 0 0)) (H.set p bx) else astep P hint s H ⟨d, op, ty, ps, af, none⟩ (KMixAf P hint n ops a p bx B Q i bs rest s d H) KNo := by
  simp only [awpMixA, awpOp] <;> rfl
theorem awpMixA_n (d : Option Tmp) (op : Op) (ty : TypeId) (ps : String) (af : Array Edge) : awpMixA P hint n ops a p bx B Q i (none :: bs) (⟨d, op, ty, ps, af, none⟩ :: rest) s H = if i = a then AllocAt P hint p bx ⟨d, op, ty, ps, af, none⟩ H ∧ awpMixA P hint n ops a p bx B Q (i + 1) bs rest (aput n s d (.ptr p 1 0 0)) (H.set p bx) else astep P hint s B ⟨d, op, ty, ps, af, none⟩ (KMixAn P hint n ops a p bx B Q i bs rest s d H) KNo := by
  simp only [awpMixA, awpOp] <;> rfl
theorem awpMixA_t (d : Option Tmp) (op : Op) (ty : TypeId) (ps : String) (af : Array Edge) : awpMixA P hint n ops a p bx B Q i (some true :: bs) (⟨d, op, ty, ps, af, none⟩ :: rest) s H = if i = a then AllocAt P hint p bx ⟨d, op, ty, ps, af, none⟩ H ∧ awpMixA P hint n ops a p bx B Q (i + 1) bs rest (aput n s d (.ptr p 1 0 0)) (H.set p bx) else astep P hint s H ⟨d, op, ty, ps, af, none⟩ (KMixAt P hint n ops a p bx B Q i bs rest s ⟨d, op, ty, ps, af, none⟩ H) KNo := by
  simp only [awpMixA, true_and]
  by_cases h : i < a
  · have e : KMixAt P hint n ops a p bx B Q i bs rest s ⟨d, op, ty, ps, af, none⟩ H = fun r H' => astep P hint s (H.set p bx) ⟨d, op, ty, ps, af, none⟩ (KMixAu P hint n ops a p bx B Q i bs rest s d H r H') KNo := by
      funext r H'; exact if_pos h
    rw [e, if_pos h]; rfl
  · have e : KMixAt P hint n ops a p bx B Q i bs rest s ⟨d, op, ty, ps, af, none⟩ H = fun r H' => Ext B H' ∧ awpMixA P hint n ops a p bx B Q (i + 1) bs rest (aput n s d r) H' := by
      funext r H'; exact if_neg h
    rw [e, if_neg h]; rfl
end
section
variable {P : Program} {hint : Nat → Bool} {n : Nat} {ops : Array Oper} {a p : Nat} {bx : AObj} {B : AHeap} {Q : Post} {i : Nat} {bs : List (Option Bool)} {rest : List Oper} {s : Nat → AV}
@[congr] theorem cg_mixA {l : List Oper} {H H' : AHeap} (h : nf H = H') : awpMixA P hint n ops a p bx B Q i bs l s H = awpMixA P hint n ops a p bx B Q i bs l s H' := by rw [← h]; rfl
@[congr] theorem cg_KMixAn {d : Option Tmp} {H0 H H' : AHeap} {r r' : AV} (g : nf r = r') (h : nf H = H') : KMixAn P hint n ops a p bx B Q i bs rest s d H0 r H = KMixAn P hint n ops a p bx B Q i bs rest s d H0 r' H' := by rw [← g, ← h]; rfl
@[congr] theorem cg_KMixAf {d : Option Tmp} {H0 H H' : AHeap} {r r' : AV} (g : nf r = r') (h : nf H = H') : KMixAf P hint n ops a p bx B Q i bs rest s d H0 r H = KMixAf P hint n ops a p bx B Q i bs rest s d H0 r' H' := by rw [← g, ← h]; rfl
@[congr] theorem cg_KMixAu {d : Option Tmp} {H0 H1 H H' : AHeap} {r0 r r' : AV} (g : nf r = r') (h : nf H = H') : KMixAu P hint n ops a p bx B Q i bs rest s d H0 r0 H1 r H = KMixAu P hint n ops a p bx B Q i bs rest s d H0 r0 H1 r' H' := by rw [← g, ← h]; rfl
@[congr] theorem cg_KMixAt {o : Oper} {H0 H H' : AHeap} {r r' : AV} (g : nf r = r') (h : nf H = H') : KMixAt P hint n ops a p bx B Q i bs rest s o H0 r H = KMixAt P hint n ops a p bx B Q i bs rest s o H0 r' H' := by rw [← g, ← h]; rfl
end
attribute [go_sem] KMixAn_eq KMixAf_eq KMixAu_eq KMixAt_eq awpMixA_end awpMixA_mk awpMixA_f awpMixA_n awpMixA_t
end Go.Proofs.YtmbagpfmfiegkaaGreatAw
namespace Go.Proofs.YtmbagpfmfiegkaaGreat
open Go.Proofs.YtmbagpfmfiegkaaGreatAw Go.RowKit
set_option linter.unusedVariables false
set_option linter.unusedSimpArgs false
/-- A codec's values, read. -/
noncomputable def getV (b : List Nat) (n k w : Int) : List Val × Int :=
  if w = 1 then plainOfP b n k else if w = 2 then rleOfP b n k else if w = 3 then ofDict b n k
  else if w = 4 ∧ k = 1 then ((ofR b n).1.getD [], (ofR b n).2) else ([], 1)
noncomputable def valsS (s : Sg) : List Val × Int :=
  if (getV s.body ((s.zone.rows : Int) - (countP1 s.nulls : Int)) s.kind s.codec).2 ≠ 0 ∨ s.nulls = [] then getV s.body ((s.zone.rows : Int) - (countP1 s.nulls : Int)) s.kind s.codec
  else joinP s.nulls (getV s.body ((s.zone.rows : Int) - (countP1 s.nulls : Int)) s.kind s.codec).1
theorem codecs2_does (k : Int) (H : AHeap) (o1 o2 : AObj) : Does Tryz.prog 46 [iA k] (H ++ [o1, o2]) (.ok (.mp (H.length + 3))) (H ++ [o1, o2, kB k, .mp .i64 (codecM (H.length + 2) k)]) := by
  have h := codecs_does k (H ++ [o1, o2])
  rw [List.length_append, List.append_assoc] at h
  exact h
theorem extT (H : AHeap) (o : AObj) (T : AHeap) : Ext (H ++ [o]) (H ++ o :: T) = True := eq_true (by have := Ext.app (H ++ [o]) T; rwa [List.append_assoc] at this)
/-- The method, with what the map answers and what the reader does. -/
theorem valsW_does (s : Sg) (f1 f2 : FuncId) (c1 c2 : List AV) (L : List Val) (e : Int) (H : AHeap) (hr : s.zone.rows ≤ 1000000) (hn : s.nulls.length ≤ 1000000) (hL : L.length ≤ 1000000000)
    (hg : mpGet s.codec (codecM (H.length + 2) s.kind) = some (.agg [.fn f1 c1, .fn f2 c2]))
    (hd : ∀ G : AHeap, G[H.length + 2]? = some (kB s.kind) → Does Tryz.prog f2 ([.d (.list false (bys s.body)), iA ((s.zone.rows : Int) - (countP1 s.nulls : Int))] ++ c2) G (.ok (.tup [.d (.list false (L.map Val.enc)), iA e])) G) :
    Does Tryz.prog 21 [.agg s.cs] H (.ok (if e ≠ 0 ∨ s.nulls = [] then .tup [.d (.list false (L.map Val.enc)), iA e] else .tup [.d (.list false ((joinP s.nulls L).1.map Val.enc)), iA (joinP s.nulls L).2])) H := by
  obtain ⟨k, w, ⟨zr, zn, zmn, zmx⟩, ns, b⟩ := s
  simp only at hg hd hr hn ⊢
  have hcn := fun G => count_does ns false (by omega) G
  have hcl := countP1_le ns
  have hwr : IntKind.i64.wrap ((zr : Int) - (countP1 ns : Int)) = (zr : Int) - (countP1 ns : Int) := wrap64_in _ (by omega) (by omega)
  unfold Sg.cs
  have hc := codecs2_does k H
  have hE := extT H
  have hd1 := hd
  refine Does.of_awp (hint := (fun t => t == 4 || t == 1000001)) Tryz.func21 (by kernel_rfl) rfl [2, 3] (by kernel_rfl) (by decide) (by simp [Tryz.ntmps21]) ?_
  rw [Tryz.ntmps21]
  simp (implicitDefEqProofs := false) only [↓reduceIte, go_sem, Nat.reduceAdd, Nat.reduceLT, Nat.reduceBEq, eq_self]
  have hti : TI Tryz.prog 97 = some ((.agg #[.nilFunc, .nilFunc] : Value), 2, 16) := by kernel_rfl
  refine ⟨_, _, Weak.virt1 _ _ 2 97 2 (by decide) (by simp (implicitDefEqProofs := false) only [↓reduceIte, go_sem, Nat.reduceLT, Nat.reduceEqDiff, eq_self]) _, ?_⟩
  simp (implicitDefEqProofs := false) only [go_sem]
  refine awp_drawA [none, none, some true, none, none, some true, some false, some false, some false, some false, some true] 9 (H.length + 1) (.box 97 2 1 1 [.d (.v .nilFunc), .d (.v .nilFunc)]) (H ++ [.box 30 12 0 1 [iA k, iA w, iA zr, iA zn, iA zmn.kind, iA zmn.i, sA zmn.s, iA zmx.kind, iA zmx.i, sA zmx.s, .d (.list false (boolR ns)), .d (.list false (bys b))]]) K.mixed (by kernel_rfl) (by kernel_rfl) (by kernel_rfl) ?_ ?_ ?_
  · rw [hE]; trivial
  · intro o ho
    simp at ho
  simp (implicitDefEqProofs := false) only [↓reduceIte, go_sem, oread, Nat.reduceAdd, Nat.reduceLT, Nat.reduceLeDiff, Nat.reduceEqDiff, reduceCtorEq, eq_self]
  refine KCall.ok (hc _ _) ?_
  simp (implicitDefEqProofs := false) only [↓reduceIte, go_sem, Nat.reduceAdd, Nat.reduceLT, eq_self]
  refine KCall.ok (hc _ _) ?_
  simp (implicitDefEqProofs := false) only [↓reduceIte, go_sem, oread, owrite, Nat.reduceAdd, Nat.reduceLT, Nat.reduceLeDiff, Nat.reduceEqDiff, Nat.reduceBEq, eq_self, hE, hg, Option.getD_some, Option.isSome_some]
  refine ⟨⟨_, _, _, _, 97, rfl, rfl, hti, ⟨by decide, by kernel_rfl, by kernel_rfl⟩, rfl, rfl, by simp (implicitDefEqProofs := false) only [go_sem, eq_self]⟩, ?_⟩
  refine awp_drawL [none, none, none, none, none, none, none, none, none, some true, some false, some true, some false, some false, some false, some false] 9 _ K.mixed (by kernel_rfl) (by kernel_rfl) (by kernel_rfl) (Ext.refl _) ?_
  simp (implicitDefEqProofs := false) only [↓reduceIte, go_sem, oread, Nat.reduceAdd, Nat.reduceLT, Nat.reduceLeDiff, Nat.reduceEqDiff, eq_self]
  refine KCall.ok (hcn _) ?_
  simp (implicitDefEqProofs := false) only [↓reduceIte, go_sem, Nat.reduceLT, Nat.reduceEqDiff, eq_self, hwr]
  refine KCall.ok (hd _ (by simp (implicitDefEqProofs := false) only [go_sem, eq_self])) ?_
  by_cases he : e = 0
  · by_cases h0 : ns = []
    · rw [if_pos (.inr h0)]
      subst h0
      simp (implicitDefEqProofs := false) only [↓reduceIte, go_sem, oread, Nat.reduceAdd, Nat.reduceLT, Nat.reduceLeDiff, Nat.reduceEqDiff, Nat.reduceBEq, reduceCtorEq, eq_self, he, boolR_len]
      refine AEnd.ret ?_
      simp (implicitDefEqProofs := false) only [↓reduceIte, go_sem, Nat.reduceLT, Nat.reduceEqDiff, eq_self, he]
    · rw [if_neg (fun h => h.elim (fun h => h he) h0)]
      have hj := fun H => join_does ns L hn hL H
      have hnl : ((ns.length : Int) = 0) = False := eq_false (by have := List.length_pos_iff.2 h0; omega)
      simp (implicitDefEqProofs := false) only [↓reduceIte, go_sem, oread, Nat.reduceAdd, Nat.reduceLT, Nat.reduceLeDiff, Nat.reduceEqDiff, Nat.reduceBEq, reduceCtorEq, eq_self, he, boolR_len, hnl]
      refine KCall.ok (hj _) ?_
      simp (implicitDefEqProofs := false) only [↓reduceIte, go_sem, Nat.reduceLT, Nat.reduceEqDiff, eq_self]
      refine AEnd.ret ?_
      simp (implicitDefEqProofs := false) only [↓reduceIte, go_sem, Nat.reduceLT, Nat.reduceEqDiff, eq_self]
  · rw [if_pos (.inl he)]
    simp (implicitDefEqProofs := false) only [↓reduceIte, go_sem, Nat.reduceAdd, Nat.reduceLT, Nat.reduceEqDiff, Nat.reduceBEq, eq_self, he]
    refine AEnd.ret ?_
    simp (implicitDefEqProofs := false) only [↓reduceIte, go_sem, Nat.reduceLT, Nat.reduceEqDiff, eq_self]
set_option maxRecDepth 10000 in
set_option maxHeartbeats 4000000 in
/-- A codec that isn't known. -/
theorem valsN_does (s : Sg) (H : AHeap) (hg : mpGet s.codec (codecM (H.length + 2) s.kind) = none) :
    Does Tryz.prog 21 [.agg s.cs] H (.ok (.tup [.d (.v (.slice none 0 0)), iA 1])) H := by
  obtain ⟨k, w, ⟨zr, zn, zmn, zmx⟩, ns, b⟩ := s
  simp only at hg
  unfold Sg.cs
  have hc := codecs2_does k H
  have hE := extT H
  refine Does.of_awp (hint := (fun t => t == 4 || t == 1000001)) Tryz.func21 (by kernel_rfl) rfl [2, 3] (by kernel_rfl) (by decide) (by simp [Tryz.ntmps21]) ?_
  rw [Tryz.ntmps21]
  simp (implicitDefEqProofs := false) only [↓reduceIte, go_sem, Nat.reduceAdd, Nat.reduceLT, Nat.reduceBEq, eq_self]
  have hti : TI Tryz.prog 97 = some ((.agg #[.nilFunc, .nilFunc] : Value), 2, 16) := by kernel_rfl
  refine ⟨_, _, Weak.virt1 _ _ 2 97 2 (by decide) (by simp (implicitDefEqProofs := false) only [↓reduceIte, go_sem, Nat.reduceLT, Nat.reduceEqDiff, eq_self]) _, ?_⟩
  simp (implicitDefEqProofs := false) only [go_sem]
  refine awp_drawA [none, none, some true, none, none, some true, some false, some false, some false, some false, some true] 9 (H.length + 1) (.box 97 2 1 1 [.d (.v .nilFunc), .d (.v .nilFunc)]) (H ++ [.box 30 12 0 1 [iA k, iA w, iA zr, iA zn, iA zmn.kind, iA zmn.i, sA zmn.s, iA zmx.kind, iA zmx.i, sA zmx.s, .d (.list false (boolR ns)), .d (.list false (bys b))]]) K.mixed (by kernel_rfl) (by kernel_rfl) (by kernel_rfl) ?_ ?_ ?_
  · rw [hE]; trivial
  · intro o ho
    simp at ho
  simp (implicitDefEqProofs := false) only [↓reduceIte, go_sem, oread, Nat.reduceAdd, Nat.reduceLT, Nat.reduceLeDiff, Nat.reduceEqDiff, reduceCtorEq, eq_self]
  refine KCall.ok (hc _ _) ?_
  simp (implicitDefEqProofs := false) only [↓reduceIte, go_sem, Nat.reduceAdd, Nat.reduceLT, eq_self]
  refine KCall.ok (hc _ _) ?_
  simp (implicitDefEqProofs := false) only [↓reduceIte, go_sem, oread, owrite, Nat.reduceAdd, Nat.reduceLT, Nat.reduceLeDiff, Nat.reduceEqDiff, Nat.reduceBEq, eq_self, hE, hg, Option.getD_none, Option.isSome_none]
  refine ⟨⟨_, _, _, _, 97, rfl, rfl, hti, ⟨by decide, by kernel_rfl, by kernel_rfl⟩, rfl, rfl, by simp (implicitDefEqProofs := false) only [go_sem, eq_self]⟩, ?_⟩
  refine AEnd.ret ?_
  simp (implicitDefEqProofs := false) only [↓reduceIte, go_sem, Nat.reduceLT, Nat.reduceEqDiff, eq_self]
/-- What the values of a segment are. -/
theorem vals_does (s : Sg) (hr : s.zone.rows ≤ 1000000) (hn : s.nulls.length ≤ 1000000) (hb : ∀ c ∈ s.body, c < 256) (hl : s.body.length ≤ 140737488351232) (H : AHeap) (hL : (getV s.body ((s.zone.rows : Int) - (countP1 s.nulls : Int)) s.kind s.codec).1.length ≤ 1000000000) :
    Does Tryz.prog 21 [.agg s.cs] H (.ok (.tup [.d (.list false ((valsS s).1.map Val.enc)), iA (valsS s).2])) H := by
  have hg := codecM_get (H.length + 2) s.kind s.codec
  unfold codecA at hg
  unfold valsS
  have key : ∀ (f1 f2 : FuncId) (c1 c2 : List AV), mpGet s.codec (codecM (H.length + 2) s.kind) = some (.agg [.fn f1 c1, .fn f2 c2]) →
      (∀ G : AHeap, G[H.length + 2]? = some (kB s.kind) → Does Tryz.prog f2 ([.d (.list false (bys s.body)), iA ((s.zone.rows : Int) - (countP1 s.nulls : Int))] ++ c2) G (.ok (.tup [.d (.list false ((getV s.body ((s.zone.rows : Int) - (countP1 s.nulls : Int)) s.kind s.codec).1.map Val.enc)), iA (getV s.body ((s.zone.rows : Int) - (countP1 s.nulls : Int)) s.kind s.codec).2])) G) →
      Does Tryz.prog 21 [.agg s.cs] H (.ok (.tup [.d (.list false ((if (getV s.body ((s.zone.rows : Int) - (countP1 s.nulls : Int)) s.kind s.codec).2 ≠ 0 ∨ s.nulls = [] then getV s.body ((s.zone.rows : Int) - (countP1 s.nulls : Int)) s.kind s.codec
        else joinP s.nulls (getV s.body ((s.zone.rows : Int) - (countP1 s.nulls : Int)) s.kind s.codec).1).1.map Val.enc)), iA (if (getV s.body ((s.zone.rows : Int) - (countP1 s.nulls : Int)) s.kind s.codec).2 ≠ 0 ∨ s.nulls = [] then getV s.body ((s.zone.rows : Int) - (countP1 s.nulls : Int)) s.kind s.codec
        else joinP s.nulls (getV s.body ((s.zone.rows : Int) - (countP1 s.nulls : Int)) s.kind s.codec).1).2])) H := by
    intro f1 f2 c1 c2 h1 h2
    have h := valsW_does s f1 f2 c1 c2 _ _ H hr hn hL h1 h2
    by_cases c : (getV s.body ((s.zone.rows : Int) - (countP1 s.nulls : Int)) s.kind s.codec).2 ≠ 0 ∨ s.nulls = []
    · rw [if_pos c] at h; rw [if_pos c]; exact h
    · rw [if_neg c] at h; rw [if_neg c]; exact h
  by_cases h1 : s.codec = 1
  · rw [if_pos h1] at hg
    refine key _ _ _ _ hg fun G hG => ?_
    rw [show getV s.body ((s.zone.rows : Int) - (countP1 s.nulls : Int)) s.kind s.codec = _ from if_pos h1]
    exact getPlain_does _ _ _ hl hb G _ hG
  by_cases h2 : s.codec = 2
  · rw [if_neg h1, if_pos h2] at hg
    refine key _ _ _ _ hg fun G hG => ?_
    rw [show getV s.body ((s.zone.rows : Int) - (countP1 s.nulls : Int)) s.kind s.codec = _ from (if_neg h1).trans (if_pos h2)]
    exact getRle_does _ _ _ hl hb G _ hG
  by_cases h3 : s.codec = 3
  · rw [if_neg h1, if_neg h2, if_pos h3] at hg
    refine key _ _ _ _ hg fun G hG => ?_
    rw [show getV s.body ((s.zone.rows : Int) - (countP1 s.nulls : Int)) s.kind s.codec = _ from (if_neg h1).trans ((if_neg h2).trans (if_pos h3))]
    exact getDict_does _ _ _ hl hb G _ hG
  by_cases h4 : s.codec = 4 ∧ s.kind = 1
  · rw [if_neg h1, if_neg h2, if_neg h3, if_pos h4] at hg
    refine key _ _ _ _ hg fun G hG => ?_
    rw [show getV s.body ((s.zone.rows : Int) - (countP1 s.nulls : Int)) s.kind s.codec = _ from (if_neg h1).trans ((if_neg h2).trans ((if_neg h3).trans (if_pos h4)))]
    have h := of_does s.body ((s.zone.rows : Int) - (countP1 s.nulls : Int)) false hl hb G
    simp only [List.append_nil]
    generalize ofR s.body ((s.zone.rows : Int) - (countP1 s.nulls : Int)) = q at *
    obtain ⟨o, e⟩ := q
    cases o with
    | none => exact Does.subT h (.cons .nil (.cons (.refl _) .nil))
    | some l => exact h
  · rw [if_neg h1, if_neg h2, if_neg h3, if_neg h4] at hg
    have h := valsN_does s H hg
    have e : getV s.body ((s.zone.rows : Int) - (countP1 s.nulls : Int)) s.kind s.codec = ([], 1) := (if_neg h1).trans ((if_neg h2).trans ((if_neg h3).trans (if_neg h4)))
    rw [e, if_pos (.inl (by decide))]
    exact Does.subT h (.cons .nil (.cons (.refl _) .nil))
end Go.Proofs.YtmbagpfmfiegkaaGreat
namespace Go.Proofs.YtmbagpfmfiegkaaGreat
open Go.Proofs.YtmbagpfmfiegkaaGreatAw Go.RowKit
set_option linter.unusedVariables false
set_option linter.unusedSimpArgs false
theorem numP_put : ∀ (k acc n : Nat) (r : List Nat), k ≤ 9 → acc + n * 128 ^ (9 - k) < 18446744073709551616 → (9 ≤ k ∨ n ≠ 0) → numP (k + 1) acc (putP n ++ r) = (.ok (acc + n * 128 ^ (9 - k)), r) := by
  intro k
  induction k with
  | zero =>
    intro acc n r hk h hn
    have : n ≤ 1 := by
      rcases Nat.lt_or_ge n 2 with h' | h'
      · omega
      · have : 2 * 128 ^ 9 ≤ n * 128 ^ 9 := Nat.mul_le_mul_right _ h'
        simp only [Nat.sub_zero] at h
        omega
    rw [putP_small (by omega)]
    have hb : ¬ ((0 = 0 ∧ 1 < n) ∨ (0 < 9 ∧ n = 0)) := by omega
    rw [List.singleton_append]
    unfold numP
    rw [if_neg hb, if_pos (show n < 128 by omega), Nat.mod_eq_of_lt (show n < 128 by omega)]
  | succ k ih =>
    intro acc n r hk h hn
    by_cases hlt : n < 128
    · rw [putP_small hlt]
      have hb : ¬ ((k + 1 = 0 ∧ 1 < n) ∨ (k + 1 < 9 ∧ n = 0)) := by omega
      rw [List.singleton_append]
      unfold numP
      rw [if_neg hb, if_pos hlt, Nat.mod_eq_of_lt hlt]
    · rw [putP_big hlt]
      have hb : ¬ ((k + 1 = 0 ∧ 1 < n % 128 + 128) ∨ (k + 1 < 9 ∧ n % 128 + 128 = 0)) := by omega
      have hc : (n % 128 + 128) % 128 = n % 128 := by omega
      rw [List.cons_append]
      unfold numP
      rw [if_neg hb, if_neg (show ¬ n % 128 + 128 < 128 by omega), hc]
      have e : 9 - k = (9 - (k + 1)) + 1 := by omega
      have hp : n / 128 * 128 ^ (9 - k) = n / 128 * 128 * 128 ^ (9 - (k + 1)) := by rw [e, Nat.pow_succ, Nat.mul_comm (128 ^ _) 128, Nat.mul_assoc]
      have hs : acc + n % 128 * 128 ^ (9 - (k + 1)) + n / 128 * 128 ^ (9 - k) = acc + n * 128 ^ (9 - (k + 1)) := by
        rw [hp, Nat.add_assoc, ← Nat.add_mul]
        congr 2
        omega
      rw [ih _ _ r (by omega) (by rw [hs]; exact h) (.inr (by omega)), hs]
theorem getP_put (n : Nat) (h : n < 18446744073709551616) (r : List Nat) : getP (putP n ++ r) = (n, (putP n).length, 0) := by
  have := numP_put 9 0 n r (Nat.le_refl _) (by simpa using h) (.inl (Nat.le_refl _))
  unfold getP
  rw [this]
  simp
theorem numP_canon : ∀ (k acc : Nat) (b r : List Nat) (N : Nat), (∀ c ∈ b, c < 256) → k ≤ 9 → numP (k + 1) acc b = (.ok N, r) → ∃ n, b = putP n ++ r ∧ N = acc + n * 128 ^ (9 - k) ∧ (9 ≤ k ∨ n ≠ 0) := by
  intro k
  induction k with
  | zero =>
    intro acc b r N hb hk h
    cases b with
    | nil => simp [numP] at h
    | cons c b =>
      simp only [numP] at h
      split at h
      · simp at h
      · split at h
        · rename_i h1 h2
          simp only [Prod.mk.injEq, Except.ok.injEq] at h
          obtain ⟨rfl, rfl⟩ := h
          refine ⟨c, by rw [putP_small h2]; rfl, by rw [Nat.mod_eq_of_lt h2], .inr (by omega)⟩
        · simp at h
  | succ k ih =>
    intro acc b r N hb hk h
    cases b with
    | nil => simp [numP] at h
    | cons c b =>
      unfold numP at h
      split at h
      · simp at h
      · split at h
        · rename_i h1 h2
          simp only [Prod.mk.injEq, Except.ok.injEq] at h
          obtain ⟨rfl, rfl⟩ := h
          refine ⟨c, by rw [putP_small h2]; rfl, by rw [Nat.mod_eq_of_lt h2], ?_⟩
          omega
        · rename_i h1 h2
          obtain ⟨m, rfl, hN, hm⟩ := ih _ b r N (fun x hx => hb x (by simp [hx])) (by omega) h
          have hc := hb c (by simp)
          have hm0 : m ≠ 0 := by omega
          refine ⟨c % 128 + 128 * m, ?_, ?_, .inr (by omega)⟩
          · rw [putP_big (n := c % 128 + 128 * m) (by omega), show (c % 128 + 128 * m) % 128 + 128 = c by omega, show (c % 128 + 128 * m) / 128 = m by omega]; rfl
          · rw [hN, show 9 - k = (9 - (k + 1)) + 1 by omega, Nat.pow_succ, Nat.add_mul, Nat.add_assoc]
            congr 2
            rw [Nat.mul_comm (128 ^ _) 128, ← Nat.mul_assoc, Nat.mul_comm m 128]
theorem numP_err : ∀ (k acc : Nat) (b r : List Nat) (e : Int), numP k acc b = (.error e, r) → e ≠ 0
  | 0, _, _, _, _, h => by simp only [numP, Prod.mk.injEq, Except.error.injEq] at h; omega
  | _ + 1, _, [], _, _, h => by simp only [numP, Prod.mk.injEq, Except.error.injEq] at h; omega
  | k + 1, acc, c :: b, r, e, h => by
    unfold numP at h
    split at h
    · simp only [Prod.mk.injEq, Except.error.injEq] at h; omega
    · split at h
      · simp at h
      · exact numP_err k _ b r e h
theorem getP_canon {b : List Nat} {n k : Nat} (hb : ∀ c ∈ b, c < 256) (h : getP b = (n, k, 0)) : k = (putP n).length ∧ b = putP n ++ b.drop k := by
  unfold getP at h
  split at h
  · rename_i N r hn
    obtain ⟨m, rfl, hN, _⟩ := numP_canon 9 0 b r N hb (Nat.le_refl _) hn
    simp only [Prod.mk.injEq] at h
    obtain ⟨rfl, rfl, _⟩ := h
    have : N = m := by simpa using hN
    subst this
    refine ⟨by simp, by simp⟩
  · rename_i e r hn
    simp only [Prod.mk.injEq] at h
    exact absurd h.2.2 (numP_err _ _ _ _ _ hn)
theorem byteOf_bit : ∀ (l : List Bool) (j : Nat), (byteOf l).testBit j = l.getD j false
  | [], j => by simp [byteOf]
  | b :: r, 0 => by
    rw [Nat.testBit_zero]
    simp only [byteOf, List.getD_cons_zero]
    cases b <;> simp <;> omega
  | b :: r, j + 1 => by
    rw [Nat.testBit_succ]
    have : (byteOf (b :: r)) / 2 = byteOf r := by simp only [byteOf]; cases b <;> simp <;> omega
    rw [this, byteOf_bit r j, List.getD_cons_succ]
theorem bitsN_byteOf (l : List Bool) : bitsN (byteOf l) l.length = l := by
  apply List.ext_getElem
  · rw [bitsN_len]
  · intro i h1 h2
    simp only [bitsN, List.getElem_map, List.getElem_range, byteOf_bit]
    simp [List.getD, h2]
theorem byteOf_bitsN (n w : Nat) (h : n < 2 ^ w) : byteOf (bitsN n w) = n := by
  apply Nat.eq_of_testBit_eq
  intro j
  rw [byteOf_bit]
  by_cases hj : j < w
  · simp [List.getD, bitsN, hj]
  · have : n.testBit j = false := Nat.testBit_lt_two_pow (Nat.lt_of_lt_of_le h (Nat.pow_le_pow_right (by decide) (by omega)))
    simp [List.getD, bitsN, hj, this]
theorem byteOf_pad (l : List Bool) : ∀ m : Nat, byteOf (l ++ List.replicate m false) = byteOf l := by
  intro m
  apply Nat.eq_of_testBit_eq
  intro j
  rw [byteOf_bit, byteOf_bit]
  simp only [List.getD]
  by_cases hj : j < l.length
  · rw [List.getElem?_append_left hj]
  · rw [List.getElem?_append_right (by omega), List.getElem?_eq_none (by omega : l.length ≤ j), List.getElem?_replicate]
    split <;> rfl
theorem byteOf_zero : ∀ l : List Bool, byteOf l = 0 → l = List.replicate l.length false
  | [], _ => rfl
  | b :: r, h => by
    have hb : b = false := by
      cases b
      · rfl
      · simp only [byteOf, Bool.toNat_true] at h; omega
    have hr : byteOf r = 0 := by simp only [byteOf] at h; omega
    rw [List.length_cons, List.replicate_succ, hb, ← byteOf_zero r hr]
/-- The bits of bytes of bits are these and some that are none. -/
theorem bitsB_pack (L : List Bool) : bitsB (packB L) = L ++ List.replicate (8 * ((L.length + 7) / 8) - L.length) false := by
  have hlen : (bitsB (packB L)).length = 8 * ((L.length + 7) / 8) := by rw [bitsB_len, packB_len]
  apply List.ext_getElem
  · rw [hlen, List.length_append, List.length_replicate]; omega
  · intro i h1 h2
    rw [hlen] at h1
    have hq : i / 8 < (L.length + 7) / 8 := by omega
    have hp : (packB L)[i / 8]? = some (byteAt L (i / 8)) := by simp [packB, hq]
    have h3 := bitsB_get (packB L) i _ hp
    rw [List.getElem?_eq_getElem (by rw [hlen]; exact h1)] at h3
    rw [Option.some.inj h3]
    unfold byteAt
    rw [byteOf_bit]
    have h8 : i % 8 < 8 := Nat.mod_lt _ (by decide)
    simp only [List.getD]
    rw [List.getElem?_take_of_lt h8, List.getElem?_drop, show 8 * (i / 8) + i % 8 = i by omega]
    by_cases hi : i < L.length
    · rw [List.getElem_append_left hi, List.getElem?_eq_getElem hi]; rfl
    · rw [List.getElem_append_right (by omega), List.getElem?_eq_none (by omega : L.length ≤ i)]
      simp
theorem bitsL_at : ∀ (S : List Nat) (w k : Nat) (x : Nat), S[k]? = some x → ((bitsL S w).drop (k * w)).take w = bitsN x w
  | [], w, k, x, h => by simp at h
  | y :: S, w, 0, x, h => by
    obtain rfl : y = x := by simpa using h
    have e : bitsL (y :: S) w = bitsN y w ++ bitsL S w := rfl
    rw [e, Nat.zero_mul, List.drop_zero, List.take_append_of_le_length (by rw [bitsN_len]; exact Nat.le_refl _), List.take_of_length_le (by rw [bitsN_len]; exact Nat.le_refl _)]
  | y :: S, w, k + 1, x, h => by
    have e : bitsL (y :: S) w = bitsN y w ++ bitsL S w := rfl
    rw [e, Nat.add_mul, Nat.one_mul, Nat.add_comm, ← List.drop_drop, List.drop_left' (bitsN_len y w)]
    exact bitsL_at S w k x h
/-- What is packed is unpacked. -/
theorem unpack_pack (S : List Nat) (w : Nat) (h : ∀ n ∈ S, n < 2 ^ w) : unpackL (packP S w) S.length w = S ∧ unpackE (packP S w) S.length w = 0 := by
  have hL := bitsL_len S w
  have hB := bitsB_pack (bitsL S w)
  have hpl : (packP S w).length = ((bitsL S w).length + 7) / 8 := packB_len _
  constructor
  · apply List.ext_getElem
    · rw [unpackL_len]
    · intro k h1 h2
      have hx := List.getElem?_eq_getElem h2
      have hlt := h _ (List.getElem_mem h2)
      simp only [unpackL, List.getElem_map, List.getElem_range, partP]
      unfold packP
      rw [hB]
      have hk : k * w + w ≤ (bitsL S w).length := by rw [hL, ← Nat.succ_mul]; exact Nat.mul_le_mul_right _ h2
      rw [List.drop_append_of_le_length (by omega), List.take_append_of_le_length (by rw [List.length_drop]; omega), bitsL_at S w k _ hx, byteOf_bitsN _ _ hlt]
  · unfold unpackE
    rw [if_neg (by omega), if_neg (by omega)]
    unfold packP
    rw [hB, List.drop_append_of_le_length (by omega), List.drop_of_length_le (by omega), byteOf_pad]
    rfl
theorem bitsN_at (b : List Nat) (i c : Nat) (h : b[i]? = some c) : ((bitsB b).drop (8 * i)).take 8 = bitsN c 8 := by
  have := bitsL_at b 8 i c h
  rw [Nat.mul_comm]
  exact this
/-- What is unpacked is packed as these very bytes. -/
theorem pack_unpack (b : List Nat) (n w : Nat) (hb : ∀ c ∈ b, c < 256) (h : unpackE b n w = 0) : packP (unpackL b n w) w = b := by
  unfold unpackE at h
  split at h
  · simp at h
  rename_i h1
  split at h
  · simp at h
  rename_i h2
  split at h
  · rename_i h3
    have hz := byteOf_zero _ h3
    have hlen := bitsB_len b
    have hU : ∀ m, m ≤ n → bitsL (unpackL b m w) w = (bitsB b).take (m * w) := by
      intro m
      induction m with
      | zero => intro _; simp [unpackL, bitsL]
      | succ m ih =>
        intro hm
        have hmw : (m + 1) * w ≤ n * w := Nat.mul_le_mul_right _ hm
        rw [unpackL_succ, bitsL_snoc, ih (by omega), Nat.succ_mul, List.take_add]
        congr 1
        unfold partP
        have hl : (((bitsB b).drop (m * w)).take w).length = w := by
          rw [Nat.succ_mul] at hmw
          rw [List.length_take, List.length_drop]; omega
        have := bitsN_byteOf (((bitsB b).drop (m * w)).take w)
        rw [hl] at this
        exact this
    have hB : bitsB b = bitsL (unpackL b n w) w ++ List.replicate ((bitsB b).drop (n * w)).length false := by
      rw [hU n (Nat.le_refl _), ← hz, List.take_append_drop]
    have hLl : (bitsL (unpackL b n w) w).length = n * w := by rw [bitsL_len, unpackL_len]
    apply List.ext_getElem
    · rw [packP, packB_len, hLl]; omega
    · intro i h4 h5
      have hx := List.getElem?_eq_getElem h5
      have hlt := hb _ (List.getElem_mem h5)
      have e8 := bitsN_at b i _ hx
      rw [hB] at e8
      simp only [packP, packB, List.getElem_map, List.getElem_range, byteAt]
      rw [← byteOf_bitsN b[i] 8 (by omega), ← e8]
      rw [List.drop_append, List.take_append, List.drop_replicate, List.take_replicate, byteOf_pad]
  · simp at h
end Go.Proofs.YtmbagpfmfiegkaaGreat
namespace Go.Proofs.YtmbagpfmfiegkaaGreat
open Go.Proofs.YtmbagpfmfiegkaaGreatAw Go.RowKit
set_option linter.unusedVariables false
set_option linter.unusedSimpArgs false
theorem zag_zig (n : Int) (h : I64 n) : zagP (zigP n) = n := by
  obtain ⟨h1, h2⟩ := h
  unfold zigP zagP
  by_cases h0 : 0 ≤ n
  · rw [if_pos h0, if_neg (by omega)]; omega
  · rw [if_neg h0, if_pos (by omega)]; omega
theorem zagP_rng (n : Nat) (h : n < 18446744073709551616) : I64 (zagP n) := by
  unfold zagP I64
  split <;> omega
theorem zig_zag (n : Nat) (h : n < 18446744073709551616) : zigP (zagP n) = n := by
  unfold zagP zigP
  split
  · rw [if_neg (by omega)]; omega
  · rw [if_pos (by omega)]; omega
end Go.Proofs.YtmbagpfmfiegkaaGreat
namespace Go.Proofs.YtmbagpfmfiegkaaGreat
open Go.Proofs.YtmbagpfmfiegkaaGreatAw Go.RowKit
set_option linter.unusedVariables false
set_option linter.unusedSimpArgs false
theorem wrap64_q (n : Int) : ∃ q : Int, IntKind.i64.wrap n = n + q * 18446744073709551616 := by
  have h1 := Int.emod_add_mul_ediv n 18446744073709551616
  simp only [IntKind.wrap, IntKind.signed, IntKind.bits]
  simp only [show ((2 : Int) ^ 64) = 18446744073709551616 from rfl, show ((2 : Int) ^ (64 - 1)) = 9223372036854775808 from rfl]
  by_cases h : n % 18446744073709551616 ≥ 9223372036854775808
  · refine ⟨-(n / 18446744073709551616) - 1, ?_⟩
    simp only [h, decide_true, Bool.true_and, if_true]
    omega
  · refine ⟨-(n / 18446744073709551616), ?_⟩
    simp only [h, decide_false, Bool.and_false, Bool.false_eq_true, if_false]
    omega
end Go.Proofs.YtmbagpfmfiegkaaGreat
namespace Go.Proofs.YtmbagpfmfiegkaaGreat
open Go.Proofs.YtmbagpfmfiegkaaGreatAw Go.RowKit
set_option linter.unusedVariables false
set_option linter.unusedSimpArgs false
theorem cleanN_idem (u : Nat) : cleanN (cleanN u) = cleanN u := by
  unfold cleanN
  by_cases h : nanN u = true
  · rw [if_pos h]; decide
  · rw [if_neg h, if_neg h]
theorem ubits_key (u : Nat) (h : u < 18446744073709551616) : ubitsP (keyN u) = cleanN u := by
  have hl := cleanN_lt u h
  have hi := cleanN_idem u
  unfold keyN
  generalize cleanN u = c at *
  unfold ubitsP
  by_cases h1 : 9223372036854775808 ≤ c
  · rw [if_pos h1, if_neg (by omega), show 18446744073709551615 - (18446744073709551615 - c) = c by omega, hi]
  · rw [if_neg h1, if_pos (by omega), show c + 9223372036854775808 - 9223372036854775808 = c by omega, hi]
theorem toI_toU {i : Int} (h : I64 i) : toI (toU i) = i := by
  obtain ⟨h1, h2⟩ := h
  unfold toI
  obtain ⟨q, hq⟩ := wrap64_q ((toU i : Nat) : Int)
  have hr := wrap64_rng ((toU i : Nat) : Int)
  have ht : ((toU i : Nat) : Int) = i % 18446744073709551616 := by unfold toU; omega
  omega
theorem toU_toI {n : Nat} (h : n < 18446744073709551616) : toU (toI n) = n := by
  unfold toI
  obtain ⟨q, hq⟩ := wrap64_q (n : Int)
  rw [hq]
  unfold toU
  omega
theorem toI_I64 (n : Nat) : I64 (toI n) := wrap64_rng _
theorem beN_take (n : Nat) (hn : n < 18446744073709551616) : ∀ k, k ≤ 8 → beN ((beP n).take k) = n / 256 ^ (8 - k) := by
  intro k
  induction k with
  | zero => intro _; rw [List.take_zero]; exact (Nat.div_eq_of_lt hn).symm
  | succ k ih =>
    intro hk
    rw [beP_take n k (by omega), beN_snoc, ih (by omega), show 8 - k = (7 - k) + 1 by omega, show 8 - (k + 1) = 7 - k by omega, Nat.pow_succ, ← Nat.div_div_eq_div_mul]
    omega
theorem beN_beP (n : Nat) (hn : n < 18446744073709551616) : beN (beP n) = n := by
  have h := beN_take n hn 8 (Nat.le_refl _)
  rw [List.take_of_length_le (by rw [beP_len]; exact Nat.le_refl _)] at h
  rw [h]; simp
theorem beN_inj : ∀ (k : Nat) (l m : List Nat), l.length = k → m.length = k → Byte l → Byte m → beN l = beN m → l = m := by
  intro k
  induction k with
  | zero => intro l m h1 h2 _ _ _; rw [List.length_eq_zero_iff.1 h1, List.length_eq_zero_iff.1 h2]
  | succ k ih =>
    intro l m h1 h2 b1 b2 h
    have n1 : l ≠ [] := fun e => by rw [e] at h1; simp at h1
    have n2 : m ≠ [] := fun e => by rw [e] at h2; simp at h2
    rw [← List.dropLast_concat_getLast n1, ← List.dropLast_concat_getLast n2, beN_snoc, beN_snoc] at h
    have c1 := b1 _ (List.getLast_mem n1)
    have c2 := b2 _ (List.getLast_mem n2)
    have e1 := ih l.dropLast m.dropLast (by simp [h1]) (by simp [h2]) (fun c hc => b1 c (List.dropLast_subset l hc)) (fun c hc => b2 c (List.dropLast_subset m hc)) (by omega)
    rw [← List.dropLast_concat_getLast n1, ← List.dropLast_concat_getLast n2, e1, show l.getLast n1 = m.getLast n2 by omega]
theorem beP_byte (n : Nat) : Byte (beP n) := fun c hc => by
  unfold beP at hc
  obtain ⟨i, _, rfl⟩ := List.mem_map.1 hc
  exact Nat.mod_lt _ (by decide)
theorem beP_beN {l : List Nat} (hl : l.length = 8) (hb : Byte l) : beP (beN l) = l := by
  have hlt : beN l < 18446744073709551616 := beN_lt 8 l hl hb
  exact beN_inj 8 _ _ (beP_len _) hl (beP_byte _) hb (beN_beP _ hlt)
theorem bstr_sbytes (s : ByteArray) : bstr (sbytes s) = s := by
  apply toList_inj
  rw [bstr_list, sbytes, List.map_map, ByteArray.toList_eq]
  conv => rhs; rw [← List.map_id s.data.toList]
  apply List.map_congr_left
  intro x _
  simp
theorem sbytes_bstr {t : List Nat} (h : Byte t) : sbytes (bstr t) = t := by
  have hl := bstr_list t
  rw [ByteArray.toList_eq] at hl
  unfold sbytes
  rw [hl, List.map_map]
  conv => rhs; rw [← List.map_id t]
  apply List.map_congr_left
  intro x hx
  have := h x hx
  simp [Nat.mod_eq_of_lt this]
theorem numP_text (n : Nat) (h : n < 18446744073709551616) (r : List Nat) : numP 10 0 (putP n ++ r) = (.ok n, r) := by
  have := numP_put 9 0 n r (Nat.le_refl _) (by simpa using h) (.inl (Nat.le_refl _))
  simpa using this
theorem toText_put (s : ByteArray) (hs : s.size ≤ 1024) (r : List Nat) : toTextP (textP s ++ r) 1024 = (sbytes s, r, 0) := by
  unfold toTextP textP
  have hl := sbytes_len s
  rw [List.append_assoc, numP_text _ (by omega)]
  simp only
  rw [if_neg (by omega), if_neg (by rw [List.length_append]; omega), ← hl, List.take_left, List.drop_left]
theorem text_back {b t r : List Nat} (hb : Byte b) (h : toTextP b 1024 = (t, r, 0)) : b = textP (bstr t) ++ r ∧ t.length ≤ 1024 ∧ Byte t := by
  unfold toTextP at h
  split at h
  · rename_i n rr hn
    obtain ⟨m, hm, he, _⟩ := numP_canon 9 0 b rr n hb (Nat.le_refl _) hn
    have he' : n = m := by simpa using he
    subst he'
    split at h
    · simp at h
    split at h
    · simp at h
    rename_i h1 h2
    simp only [Prod.mk.injEq, and_true] at h
    obtain ⟨rfl, rfl⟩ := h
    have hrb : Byte rr := fun c hc => hb c (by rw [hm]; exact List.mem_append_right _ hc)
    have htb : Byte (rr.take n) := fun c hc => hrb c (List.mem_of_mem_take hc)
    have hsz : (bstr (rr.take n)).size = n := by
      rw [← sbytes_len, sbytes_bstr htb, List.length_take]; omega
    refine ⟨?_, by rw [List.length_take]; omega, htb⟩
    unfold textP
    rw [hsz, sbytes_bstr htb, List.append_assoc, List.take_append_drop]
    exact hm
  · rename_i e rr hn
    simp only [Prod.mk.injEq] at h
    exact absurd h.2.2 (numP_err 10 0 b rr e hn)
theorem kindsP_iff (k : Int) : kindsP k = true ↔ k = 1 ∨ k = 2 ∨ k = 3 := by unfold kindsP; simp; omega
theorem mayV_one {v : Val} (h : v.kind = 1) : mayV v = true ↔ v.s = noS := by
  unfold mayV
  rw [if_neg (by omega), if_pos h, decide_eq_true_eq, toList_nil_size]
theorem mayV_two {v : Val} (h : v.kind = 2) : mayV v = true ↔ toU v.i = cleanN (toU v.i) ∧ v.s = noS := by
  unfold mayV
  rw [if_pos h, Bool.and_eq_true, decide_eq_true_eq, decide_eq_true_eq, toList_nil_size]
theorem mayV_three {v : Val} (h : v.kind = 3) : mayV v = true ↔ v.i = 0 ∧ v.s.size ≤ 1024 := by
  unfold mayV
  rw [if_neg (by omega), if_neg (by omega), if_pos h, Bool.and_eq_true, decide_eq_true_eq, decide_eq_true_eq]
theorem val_ext {a b : Val} (h1 : a.kind = b.kind) (h2 : a.i = b.i) (h3 : a.s = b.s) : a = b := by
  cases a; cases b; simp only at h1 h2 h3; subst h1 h2 h3; rfl
theorem ofV_put {v : Val} (r : List Nat) (hi : I64 v.i) (hm : mayV v = true) (hk : kindsP v.kind = true) : ofV (valB v ++ r) v.kind = (v, r, 0) := by
  rcases (kindsP_iff _).1 hk with h | h | h
  · have hs := (mayV_one h).1 hm
    unfold ofV valB
    rw [h]
    simp only [if_true, show ((1 : Int) = 0) = False from by simp, if_false]
    rw [getP_put _ (zigP_lt hi.1 hi.2)]
    simp only [if_true]
    rw [zag_zig _ hi, List.drop_left]
    rw [show num10 v.i = v from val_ext h.symm rfl hs.symm]
  · obtain ⟨hc, hs⟩ := (mayV_two h).1 hm
    have hu := toU_lt v.i
    have hk := keyN_lt _ hu
    have hbl := beP_len (keyN (toU v.i))
    have ht : (beP (keyN (toU v.i)) ++ r).take 8 = beP (keyN (toU v.i)) := List.take_left' hbl
    have hd : (beP (keyN (toU v.i)) ++ r).drop 8 = r := List.drop_left' hbl
    unfold ofV valB
    rw [h]
    simp only [if_true, show ((2 : Int) = 0) = False from by simp, show ((2 : Int) = 1) = False from by simp, if_false]
    unfold floatV
    rw [if_neg (by rw [List.length_append, hbl]; omega), ht, hd, beN_beP _ hk, ubits_key _ hu, ← hc, if_pos rfl, toI_toU hi]
    rw [show (⟨2, v.i, noS⟩ : Val) = v from val_ext h.symm rfl hs.symm]
  · obtain ⟨h0, hsz⟩ := (mayV_three h).1 hm
    unfold ofV valB
    rw [h]
    simp only [if_true, show ((3 : Int) = 0) = False from by simp, show ((3 : Int) = 1) = False from by simp, show ((3 : Int) = 2) = False from by simp, if_false]
    rw [toText_put v.s hsz]
    simp only [if_true]
    rw [bstr_sbytes, show (⟨3, 0, v.s⟩ : Val) = v from val_ext h.symm h0.symm rfl]
theorem ofV_back {b r : List Nat} {k : Int} {v : Val} (hb : Byte b) (hk : kindsP k = true) (h : ofV b k = (v, r, 0)) : b = valB v ++ r ∧ mayV v = true ∧ v.kind = k ∧ I64 v.i := by
  rcases (kindsP_iff _).1 hk with rfl | rfl | rfl
  · unfold ofV at h
    rw [if_neg (by decide), if_pos rfl] at h
    split at h
    · rename_i he
      simp only [Prod.mk.injEq, and_true] at h
      obtain ⟨rfl, rfl⟩ := h
      rcases hg : getP b with ⟨n, j, e⟩
      rw [hg] at he
      simp only at he
      subst he
      have hn : n < 18446744073709551616 := by have := getP_lt b; rw [hg] at this; exact this
      obtain ⟨hj, hbe⟩ := getP_canon hb hg
      refine ⟨?_, mayV_num _, rfl, zagP_rng n hn⟩
      rw [show valB (num10 (zagP n)) = putP (zigP (zagP n)) from if_pos rfl, zig_zag n hn]
      exact hbe
    · rename_i he
      simp only [Prod.mk.injEq] at h
      exact absurd h.2.2 he
  · unfold ofV at h
    rw [if_neg (by decide), if_neg (by decide), if_pos rfl] at h
    unfold floatV at h
    split at h
    · simp at h
    rename_i h8
    split at h
    · rename_i hkey
      simp only [Prod.mk.injEq, and_true] at h
      obtain ⟨rfl, rfl⟩ := h
      have h8l : (b.take 8).length = 8 := by rw [List.length_take]; omega
      have h8b : Byte (b.take 8) := fun c hc => hb c (List.mem_of_mem_take hc)
      have hlt : beN (b.take 8) < 18446744073709551616 := beN_lt 8 _ h8l h8b
      have hul := ubitsP_lt hlt
      have hcl : ubitsP (beN (b.take 8)) = cleanN (ubitsP (beN (b.take 8))) := by
        unfold ubitsP
        split <;> rw [cleanN_idem]
      refine ⟨?_, (mayV_two rfl).2 ⟨?_, rfl⟩, rfl, toI_I64 _⟩
      · rw [show valB ⟨2, toI (ubitsP (beN (b.take 8))), noS⟩ = beP (keyN (toU (toI (ubitsP (beN (b.take 8)))))) from rfl, toU_toI hul, hkey, beP_beN h8l h8b, List.take_append_drop]
      · show toU (toI _) = cleanN (toU (toI _))
        rw [toU_toI hul]
        exact hcl
    · simp at h
  · unfold ofV at h
    rw [if_neg (by decide), if_neg (by decide), if_neg (by decide), if_pos rfl] at h
    split at h
    · rename_i he
      simp only [Prod.mk.injEq, and_true] at h
      obtain ⟨rfl, rfl⟩ := h
      rcases ht : toTextP b 1024 with ⟨t, rr, e⟩
      rw [ht] at he
      simp only at he
      subst he
      obtain ⟨h1, h2, h3⟩ := text_back hb ht
      refine ⟨h1, (mayV_three rfl).2 ⟨rfl, ?_⟩, rfl, by unfold I64; simp⟩
      show (bstr t).size ≤ 1024
      rw [← sbytes_len, sbytes_bstr h3]
      exact h2
    · rename_i he
      simp only [Prod.mk.injEq] at h
      exact absurd h.2.2 he
theorem val_same {a b : Val} (ha : mayV a = true) (hb : mayV b = true) (hk : a.kind = b.kind) (hkk : kindsP a.kind = true) (ia : I64 a.i) (ib : I64 b.i) (h : cmpV a b = 0) : a = b := by
  unfold cmpV at h
  rw [if_neg (by simpa using hk)] at h
  rcases (kindsP_iff _).1 hkk with k | k | k
  · rw [if_pos k] at h
    exact val_ext hk (cmpI_zero.1 h) (((mayV_one k).1 ha).trans ((mayV_one (hk ▸ k)).1 hb).symm)
  · rw [if_neg (by omega), if_pos k] at h
    obtain ⟨c1, s1⟩ := (mayV_two k).1 ha
    obtain ⟨c2, s2⟩ := (mayV_two (hk ▸ k)).1 hb
    have hkey : keyN (toU a.i) = keyN (toU b.i) := by
      unfold cmpF ordI at h
      by_cases h1 : keyN (toU a.i) < keyN (toU b.i)
      · simp [h1] at h
      · by_cases h2 : keyN (toU b.i) < keyN (toU a.i)
        · simp [h1, h2] at h
        · omega
    have e : toU a.i = toU b.i := by
      rw [c1, c2, ← ubits_key _ (toU_lt a.i), ← ubits_key _ (toU_lt b.i), hkey]
    exact val_ext hk (by rw [← toI_toU ia, ← toI_toU ib, e]) (s1.trans s2.symm)
  · rw [if_neg (by omega), if_neg (by omega), if_pos k] at h
    exact val_ext hk ((((mayV_three k).1 ha).1).trans (((mayV_three (hk ▸ k)).1 hb).1).symm) (cmpS_zero.1 h)
end Go.Proofs.YtmbagpfmfiegkaaGreat
namespace Go.Proofs.YtmbagpfmfiegkaaGreat
open Go.Proofs.YtmbagpfmfiegkaaGreatAw Go.RowKit
set_option linter.unusedVariables false
set_option linter.unusedSimpArgs false
/-- What a column's value is. -/
def GoodV (k : Int) (v : Val) : Prop := mayV v = true ∧ v.kind = k ∧ I64 v.i
theorem readN_put {k : Int} (hk : kindsP k = true) : ∀ (W : List Val) (r : List Nat), (∀ v ∈ W, GoodV k v) → readN k W.length (wbytes W ++ r) = (W, r, 0)
  | [], r, _ => rfl
  | v :: W, r, h => by
    obtain ⟨h1, h2, h3⟩ := h v (by simp)
    have e : wbytes (v :: W) ++ r = valB v ++ (wbytes W ++ r) := by simp [wbytes]
    have ho := ofV_put (v := v) (wbytes W ++ r) h3 h1 (by rw [h2]; exact hk)
    rw [h2] at ho
    rw [e, List.length_cons]
    unfold readN
    rw [ho]
    simp only [if_true]
    rw [readN_put hk W r fun x hx => h x (by simp [hx])]
    simp
theorem readN_back {k : Int} (hk : kindsP k = true) : ∀ (n : Nat) (b : List Nat) (W : List Val) (r : List Nat), Byte b → readN k n b = (W, r, 0) → b = wbytes W ++ r ∧ ∀ v ∈ W, GoodV k v
  | 0, b, W, r, _, h => by
    simp only [readN, Prod.mk.injEq, and_true] at h
    obtain ⟨rfl, rfl⟩ := h
    exact ⟨by simp [wbytes], by simp⟩
  | n + 1, b, W, r, hb, h => by
    unfold readN at h
    rcases hv : ofV b k with ⟨v, c, e⟩
    rw [hv] at h
    simp only at h
    split at h
    · rename_i he
      subst he
      obtain ⟨h1, h2, h3, h4⟩ := ofV_back hb hk hv
      rcases hr : readN k n c with ⟨W', r', f⟩
      rw [hr] at h
      simp only at h
      split at h
      · rename_i hf
        subst hf
        simp only [Prod.mk.injEq, and_true] at h
        obtain ⟨rfl, rfl⟩ := h
        have hc : Byte c := fun x hx => hb x (by rw [h1]; exact List.mem_append_right _ hx)
        obtain ⟨g1, g2⟩ := readN_back hk n c W' r' hc hr
        refine ⟨?_, ?_⟩
        · rw [h1, g1]; simp [wbytes]
        · intro x hx
          rcases List.mem_cons.1 hx with rfl | hx
          · exact ⟨h2, h3, h4⟩
          · exact g2 x hx
      · rename_i hf
        simp only [Prod.mk.injEq] at h
        exact absurd h.2.2 hf
    · rename_i he
      simp only [Prod.mk.injEq] at h
      exact absurd h.2.2 he
theorem plainP_iff (l : List Val) (k : Int) : plainP l k = 0 ↔ kindsP k = true ∧ l.length ≤ 4096 ∧ ∀ v ∈ l, v.kind = k ∧ mayV v = true := by
  constructor
  · intro h
    refine ⟨?_, plainP_len h, fun v hv => ⟨?_, plainP_may h v hv⟩⟩
    · unfold plainP at h
      cases hk : kindsP k with
      | true => rfl
      | false => rw [hk] at h; simp at h
    · unfold plainP at h
      split at h
      · simp at h
      split at h
      · simp at h
      split at h
      · simp at h
      · rename_i h3
        have h3' : l.any (fun v => !decide (v.kind = k)) = false := by simpa using h3
        simpa using List.any_eq_false.1 h3' v hv
  · rintro ⟨h1, h2, h3⟩
    unfold plainP
    rw [h1, if_neg (by simp), if_neg (by omega), if_neg, if_neg]
    · rw [Bool.not_eq_true, List.any_eq_false]
      intro v hv
      simp [(h3 v hv).2]
    · rw [Bool.not_eq_true, List.any_eq_false]
      intro v hv
      simp [(h3 v hv).1]
theorem Tri.lt_trans {α : Type} {c : α → α → Int} (h : Tri c) {x y z : α} (h1 : c x y < 0) (h2 : c y z < 0) : c x z < 0 := by
  have h3 := h.le_trans (x := x) (y := y) (z := z) (by omega) (by omega)
  rcases Int.lt_or_eq_of_le h3 with h4 | h4
  · exact h4
  · have h5 := (h.congr_l (z := y) h4).1 h1
    have h6 := (h.anti y z).1 h2
    omega
theorem RiseN.rise {W : List Val} (h : RiseN W) : Rise W := by
  unfold Rise
  rw [List.pairwise_iff_getElem]
  have key : ∀ (d i : Nat) (x y : Val), W[i]? = some x → W[i + d + 1]? = some y → cmpV x y < 0 := by
    intro d
    induction d with
    | zero => intro i x y hx hy; exact h i x y hx hy
    | succ d ih =>
      intro i x y hx hy
      have hlt := (List.getElem?_eq_some_iff.1 hy).1
      have hz := List.getElem?_eq_getElem (show i + d + 1 < W.length by omega)
      exact cmpV_tri.lt_trans (ih i x _ hx hz) (h (i + d + 1) _ y hz (by rw [← hy, show i + d + 1 + 1 = i + (d + 1) + 1 by omega]))
  intro i j h1 h2 hij
  have := key (j - i - 1) i _ _ (List.getElem?_eq_getElem h1) (by rw [show i + (j - i - 1) + 1 = j by omega]; exact List.getElem?_eq_getElem h2)
  simpa [ltT] using this
theorem Rise.riseN {W : List Val} (h : Rise W) : RiseN W := fun i x y hx hy => (h.get hx hy).2 (by omega)
theorem Rise.zero {W : List Val} (h : Rise W) {i j : Nat} {x y : Val} (hx : W[i]? = some x) (hy : W[j]? = some y) (hc : cmpV x y = 0) : i = j := by
  have h1 := h.get hx hy
  have h2 := h.get hy hx
  have h3 := (cmpV_tri.zero x y).1 hc
  omega
/-- Lists that rise and have the same members are one. -/
theorem rise_ext : ∀ {A B : List Val}, Rise A → Rise B → (∀ x, x ∈ A ↔ x ∈ B) → A = B
  | [], [], _, _, _ => rfl
  | [], b :: B, _, _, h => by have := (h b).2 (by simp); simp at this
  | a :: A, [], _, _, h => by have := (h a).1 (by simp); simp at this
  | a :: A, b :: B, hA, hB, h => by
    obtain ⟨a1, a2⟩ := List.pairwise_cons.1 hA
    obtain ⟨b1, b2⟩ := List.pairwise_cons.1 hB
    have irr : ∀ x, ltT cmpV x x = true → False := fun x hx => by
      have := cmpV_tri.self x
      simp [ltT, this] at hx
    have hab : a = b := by
      rcases List.mem_cons.1 ((h a).1 (by simp)) with e | ha
      · exact e
      rcases List.mem_cons.1 ((h b).2 (by simp)) with e | hb
      · exact e.symm
      have g1 := b1 a ha
      have g2 := a1 b hb
      simp only [ltT, decide_eq_true_eq] at g1 g2
      have := (cmpV_tri.anti a b).1 g2
      omega
    subst hab
    rw [rise_ext a2 b2 fun x => ?_]
    constructor
    · intro hx
      rcases List.mem_cons.1 ((h x).1 (by simp [hx])) with rfl | hx'
      · exact absurd (a1 _ hx) (fun e => irr _ e)
      · exact hx'
    · intro hx
      rcases List.mem_cons.1 ((h x).2 (by simp [hx])) with rfl | hx'
      · exact absurd (b1 _ hx) (fun e => irr _ e)
      · exact hx'
theorem nodup_len : ∀ {A B : List Nat}, A.Nodup → (∀ x ∈ A, x ∈ B) → A.length ≤ B.length
  | [], B, _, _ => by simp
  | a :: A, B, hA, h => by
    obtain ⟨h1, h2⟩ := List.nodup_cons.1 hA
    have ha := h a (by simp)
    have := nodup_len (B := B.erase a) h2 fun x hx => by
      have hne : x ≠ a := fun e => h1 (e ▸ hx)
      exact (List.mem_erase_of_ne hne).2 (h x (by simp [hx]))
    rw [List.length_erase_of_mem ha] at this
    have hp : 0 < B.length := List.length_pos_of_mem ha
    simp only [List.length_cons]
    omega
theorem usedP_iff {C : List Nat} {n : Nat} : usedP C n = true ↔ (∀ c ∈ C, c < n) ∧ ∀ i, i < n → i ∈ C := by
  constructor
  · intro h
    have hlt := usedP_lt h
    refine ⟨hlt, fun i hi => ?_⟩
    unfold usedP at h
    rw [Bool.and_eq_true, decide_eq_true_eq] at h
    refine Classical.byContradiction fun hn => ?_
    have hT : i ∉ toldL C := fun e => hn ((toldL_mem C i).1 e)
    have := seen_len (m := n) (seen := i :: toldL C) (List.nodup_cons.2 ⟨hT, toldL_nodup C⟩) fun j hj => by
      rcases List.mem_cons.1 hj with rfl | hj
      · exact hi
      · exact hlt j ((toldL_mem C j).1 hj)
    simp only [List.length_cons] at this
    omega
  · rintro ⟨h1, h2⟩
    have g1 := seen_len (m := n) (toldL_nodup C) fun j hj => h1 j ((toldL_mem C j).1 hj)
    have g2 := nodup_len (A := List.range n) (B := toldL C) List.nodup_range fun x hx => (toldL_mem C x).2 (h2 x (List.mem_range.1 hx))
    rw [List.length_range] at g2
    unfold usedP
    rw [Bool.and_eq_true, decide_eq_true_eq, List.all_eq_true]
    exact ⟨fun c hc => by simpa using h1 c ((toldL_mem C c).1 hc), by omega⟩
theorem codeW_at {l : List Val} {i : Nat} {w : Val} (h : (wordsP cmpV l)[i]? = some w) : codeW l w = i := by
  obtain ⟨j, y, h1, h2, h3⟩ := words_place (words_mem cmpV_tri (List.mem_of_getElem? h))
  unfold codeW
  rw [h1, Int.toNat_natCast]
  exact (words_Rise l).zero h2 h h3
theorem codeW_same {l : List Val} {k : Int} {a : Val} (hk : kindsP k = true) (hg : ∀ v ∈ l, GoodV k v) (ha : a ∈ l) : (wordsP cmpV l)[codeW l a]? = some a := by
  obtain ⟨j, y, h1, h2, h3⟩ := words_place ha
  have hy := words_mem cmpV_tri (List.mem_of_getElem? h2)
  obtain ⟨m1, k1, i1⟩ := hg y hy
  obtain ⟨m2, k2, i2⟩ := hg a ha
  have e := val_same m1 m2 (by rw [k1, k2]) (by rw [k1]; exact hk) i1 i2 h3
  unfold codeW
  rw [h1, Int.toNat_natCast, h2, e]
theorem dict_of_bytes {l : List Val} {k : Int} (h : plainP l k = 0) (hok : ∀ v ∈ l, I64 v.i) : toCodesV (dictB l) l.length k = (wordsP cmpV l, l.map (codeW l), 0) ∧ ofDict (dictB l) l.length k = (l, 0) := by
  obtain ⟨hk, hl, hv⟩ := (plainP_iff l k).1 h
  have hg : ∀ v ∈ l, GoodV k v := fun v hm => ⟨(hv v hm).2, (hv v hm).1, hok v hm⟩
  have hgW : ∀ v ∈ wordsP cmpV l, GoodV k v := fun v hm => hg v (words_mem cmpV_tri hm)
  have hwl := words_len l
  have hfit := code_fits (l := l)
  have hrise := (words_Rise l).riseN
  have hu : usedP (l.map (codeW l)) (wordsP cmpV l).length = true := by
    rw [usedP_iff]
    constructor
    · intro c hc
      obtain ⟨a, ha, rfl⟩ := List.mem_map.1 hc
      exact codeW_lt ha
    · intro i hi
      have h1 := List.getElem?_eq_getElem hi
      exact List.mem_map.2 ⟨_, words_mem cmpV_tri (List.mem_of_getElem? h1), codeW_at h1⟩
  have hpick : pickV (wordsP cmpV l) (l.map (codeW l)) = l := by
    unfold pickV
    rw [List.map_map]
    conv => rhs; rw [← List.map_id l]
    apply List.map_congr_left
    intro a ha
    simp only [Function.comp_apply, id_eq, List.getD, codeW_same hk hg ha, Option.getD_some]
  have hcl : (l.map (codeW l)).length = l.length := by simp
  have hun := unpack_pack (l.map (codeW l)) (widP (wordsP cmpV l).length) hfit
  rw [hcl] at hun
  have hrd := readN_put hk (wordsP cmpV l) (packP (l.map (codeW l)) (widP (wordsP cmpV l).length)) hgW
  have hB : dictB l = putP (wordsP cmpV l).length ++ (wbytes (wordsP cmpV l) ++ packP (l.map (codeW l)) (widP (wordsP cmpV l).length)) := by unfold dictB; rw [List.append_assoc]
  have hT : toCodesV (dictB l) l.length k = (wordsP cmpV l, l.map (codeW l), 0) := by
    rw [hB]
    unfold toCodesV
    rw [hk, if_neg (by simp), if_neg (by omega), if_neg (by omega), getP_put _ (by omega)]
    simp only
    rw [if_neg (by simp), if_neg (by omega), List.drop_left, Int.toNat_natCast]
    unfold readR
    rw [hrd]
    simp only [if_true]
    rw [if_pos hrise]
    unfold tailV
    simp only
    rw [if_neg (by simp), hun.2, if_neg (by simp), hun.1, if_pos hu]
  refine ⟨hT, ?_⟩
  unfold ofDict
  rw [hT]
  simp only [if_true]
  rw [hpick]
theorem dict_back {b : List Nat} {n k : Int} {l : List Val} (hb : Byte b) (h : ofDict b n k = (l, 0)) : plainP l k = 0 ∧ dictB l = b ∧ (l.length : Int) = n ∧ ∀ v ∈ l, I64 v.i := by
  unfold ofDict at h
  rcases ht : toCodesV b n k with ⟨W, C, e⟩
  rw [ht] at h
  simp only at h
  by_cases he : e = 0
  · subst he
    simp only [if_true, Prod.mk.injEq, and_true] at h
    obtain ⟨N, many, j, i, rfl, hN, hk, hgp, hmN, hrd, hrise, hWl, huE, hC, hu⟩ := toCodes_ok ht
    obtain ⟨hj, hbe⟩ := getP_canon hb hgp
    have hdb : Byte (b.drop j) := fun c hc => hb c (List.mem_of_mem_drop hc)
    obtain ⟨hdr, hgW⟩ := readN_back hk many _ W _ hdb hrd
    generalize hr : (b.drop j).drop i = r at *
    have hrb : Byte r := fun c hc => hdb c (by rw [hdr]; exact List.mem_append_right _ hc)
    have hpu := pack_unpack r N (widP W.length) hrb huE
    rw [← hC] at hpu
    have hCl : C.length = N := by rw [hC, unpackL_len]
    obtain ⟨u1, u2⟩ := usedP_iff.1 hu
    have hat : ∀ c ∈ C, W[c]? = some (W.getD c zV) := fun c hc => by
      have := u1 c hc
      simp [List.getD, this]
    have hmem : ∀ x, x ∈ l ↔ x ∈ W := by
      intro x
      rw [← h]
      unfold pickV
      constructor
      · intro hx
        obtain ⟨c, hc, rfl⟩ := List.mem_map.1 hx
        exact List.mem_of_getElem? (hat c hc)
      · intro hx
        obtain ⟨i, hi, rfl⟩ := List.mem_iff_getElem.1 hx
        exact List.mem_map.2 ⟨i, u2 i hi, by simp [List.getD, hi]⟩
    have hgl : ∀ v ∈ l, GoodV k v := fun v hv => hgW v ((hmem v).1 hv)
    have hll : l.length = N := by rw [← h, pickV, List.length_map, hCl]
    have hwords : wordsP cmpV l = W := by
      refine rise_ext (words_Rise l) hrise.rise fun x => ?_
      constructor
      · intro hx
        exact (hmem x).1 (words_mem cmpV_tri hx)
      · intro hx
        have hxl := (hmem x).2 hx
        exact List.mem_of_getElem? (codeW_same hk hgl hxl)
    have hcodes : l.map (codeW l) = C := by
      conv => lhs; arg 2; rw [← h]
      unfold pickV
      rw [List.map_map]
      conv => rhs; rw [← List.map_id C]
      apply List.map_congr_left
      intro c hc
      exact codeW_at (by rw [hwords]; exact hat c hc)
    refine ⟨(plainP_iff l k).2 ⟨hk, by omega, fun v hv => ⟨(hgl v hv).2.1, (hgl v hv).1⟩⟩, ?_, by omega, fun v hv => (hgl v hv).2.2⟩
    unfold dictB
    rw [hwords, hcodes, hpu, List.append_assoc, ← hdr, hWl]
    exact hbe.symm
  · rw [if_neg he] at h
    simp only [Prod.mk.injEq] at h
    exact absurd h.2 he
end Go.Proofs.YtmbagpfmfiegkaaGreat
namespace Go.Proofs.YtmbagpfmfiegkaaGreat
open Go.Proofs.YtmbagpfmfiegkaaGreatAw Go.RowKit
set_option linter.unusedVariables false
set_option linter.unusedSimpArgs false
theorem wrap_sub (a z : Int) (h : I64 z) : IntKind.i64.wrap (IntKind.i64.wrap (a + z) - a) = z := by
  obtain ⟨q, hq⟩ := wrap64_q (a + z)
  obtain ⟨p, hp⟩ := wrap64_q (IntKind.i64.wrap (a + z) - a)
  have hr := wrap64_rng (IntKind.i64.wrap (a + z) - a)
  obtain ⟨h1, h2⟩ := h
  omega
theorem wrap_add (a b : Int) (h : I64 b) : IntKind.i64.wrap (a + IntKind.i64.wrap (b - a)) = b := by
  obtain ⟨q, hq⟩ := wrap64_q (b - a)
  obtain ⟨p, hp⟩ := wrap64_q (a + IntKind.i64.wrap (b - a))
  have hr := wrap64_rng (a + IntKind.i64.wrap (b - a))
  obtain ⟨h1, h2⟩ := h
  omega
theorem wrap_I64 (n : Int) : I64 (IntKind.i64.wrap n) := wrap64_rng n
theorem sumN_I64 (x : Int) (hx : I64 x) (S : List Nat) : ∀ k, I64 (sumN x S k)
  | 0 => hx
  | k + 1 => wrap_I64 _
theorem sumN_steps (l : List Val) (v : Val) (h0 : l[0]? = some v) (hok : ∀ v ∈ l, I64 v.i) : ∀ k (y : Val), l[k]? = some y → sumN v.i (stepsP l) k = y.i := by
  intro k
  induction k with
  | zero => intro y hy; rw [h0] at hy; cases hy; rfl
  | succ k ih =>
    intro y hy
    have hlt := (List.getElem?_eq_some_iff.1 hy).1
    have hx := List.getElem?_eq_getElem (show k < l.length by omega)
    have hy2 : l[k + 1] = y := (List.getElem?_eq_some_iff.1 hy).2
    have hs := stepsP_get l k hlt
    have hgd : (stepsP l).getD k 0 = diffP l[k] l[k + 1] := by simp [List.getD, hs]
    simp only [sumN]
    rw [ih _ hx, hgd, hy2]
    unfold diffP
    rw [zag_zig _ (wrap_I64 _), wrap_add _ _ (hok y (List.mem_of_getElem? hy))]
theorem sumL_steps (l : List Val) (v : Val) (h0 : l[0]? = some v) (hn : ∀ v ∈ l, v = num10 v.i) (hok : ∀ v ∈ l, I64 v.i) : sumL v.i (stepsP l) l.length = l := by
  apply List.ext_getElem
  · rw [sumL_len]
  · intro k h1 h2
    have hy := List.getElem?_eq_getElem h2
    simp only [sumL, List.getElem_map, List.getElem_range]
    rw [sumN_steps l v h0 hok k _ hy]
    exact (hn _ (List.getElem_mem h2)).symm
theorem steps_sumL (x : Int) (hx : I64 x) (S : List Nat) (hS : ∀ n ∈ S, n < 18446744073709551616) : stepsP (sumL x S (S.length + 1)) = S := by
  apply List.ext_getElem
  · rw [stepsP_len, sumL_len]; rfl
  · intro k h1 h2
    have h3 := stepsP_get (sumL x S (S.length + 1)) k (by rw [sumL_len]; omega)
    rw [List.getElem?_eq_getElem h1] at h3
    rw [Option.some.inj h3]
    simp only [sumL, List.getElem_map, List.getElem_range, diffP, num10]
    have hgd : S.getD k 0 = S[k] := by simp [List.getD, h2]
    have hlt := hS _ (List.getElem_mem h2)
    simp only [sumN, hgd]
    rw [wrap_sub _ _ (zagP_rng _ hlt), zig_zag _ hlt]
theorem bytesD_cons (v : Val) (r : List Val) : bytesD (v :: r) = putP (zigP v.i) ++ (putP (widthP (stepsP (v :: r))) ++ packP (stepsP (v :: r)) (widthP (stepsP (v :: r)))) := by
  rw [← List.append_assoc]; rfl
theorem of_bytes (l : List Val) (hl : l ≠ []) (hm : l.length ≤ 4096) (hn : ∀ v ∈ l, v = num10 v.i) (hok : ∀ v ∈ l, I64 v.i) : ofR (bytesD l) l.length = (some l, 0) := by
  cases l with
  | nil => exact absurd rfl hl
  | cons v r =>
    have hlen : (v :: r).length = r.length + 1 := rfl
    have hv := hok v (by simp)
    have hz := zigP_lt hv.1 hv.2
    have hss := stepsP_lt (v :: r)
    have hw := widthP_le hss
    have hfit := widthP_fits (l := stepsP (v :: r))
    have hsl := stepsP_len (v :: r)
    have hsum := sumL_steps (v :: r) v rfl hn hok
    unfold ofR
    rw [if_neg (by omega), if_neg (by omega)]
    unfold ofB
    rw [bytesD_cons, getP_put _ hz, List.drop_left]
    simp only
    rw [getP_put _ (by omega), ← List.append_assoc, ← List.length_append, List.drop_left]
    simp only
    have hu := unpack_pack (stepsP (v :: r)) (widthP (stepsP (v :: r))) hfit
    rw [hsl] at hu
    rw [Int.toNat_natCast, hu.1, hu.2, zag_zig _ hv, hsum]
    simp [show ¬ 64 < widthP (stepsP (v :: r)) by omega]
theorem bytes_of (b : List Nat) (n : Int) (k : List Val) (hb : ∀ c ∈ b, c < 256) (h : ofR b n = (some k, 0)) : bytesD k = b ∧ (k.length : Int) = n ∧ k ≠ [] ∧ n ≤ 4096 ∧ (∀ v ∈ k, v = num10 v.i) ∧ ∀ v ∈ k, I64 v.i := by
  unfold ofR at h
  by_cases h1 : n < 0 ∨ 4096 < n
  · rw [if_pos h1] at h; simp at h
  rw [if_neg h1] at h
  by_cases h2 : n = 0
  · rw [if_pos h2] at h; simp at h
  rw [if_neg h2] at h
  obtain ⟨m, hm⟩ : ∃ m : Nat, n = ((m + 1 : Nat) : Int) := ⟨n.toNat - 1, by omega⟩
  have hmt : n.toNat = m + 1 := by omega
  unfold ofB at h
  rw [hmt, show m + 1 - 1 = m from rfl] at h
  have hlt1 := getP_lt b
  rcases hg : getP b with ⟨first, k1, e1⟩
  rw [hg] at h hlt1
  simp only at h hlt1
  by_cases he : e1 = 0
  · subst he
    simp only [ne_eq, not_true_eq_false, if_false] at h
    obtain ⟨hk1, hb1⟩ := getP_canon hb hg
    have hb2 : ∀ c ∈ b.drop k1, c < 256 := fun c hc => hb c (List.mem_of_mem_drop hc)
    rcases hg2 : getP (b.drop k1) with ⟨w, j, e2⟩
    rw [hg2] at h
    simp only at h
    by_cases he2 : e2 = 0
    · subst he2
      simp only [not_true_eq_false, if_false] at h
      obtain ⟨hj, hb3⟩ := getP_canon hb2 hg2
      rw [List.drop_drop] at hb3
      by_cases hw : 64 < w
      · rw [if_pos hw] at h; simp at h
      rw [if_neg hw] at h
      by_cases hu : unpackE (b.drop (k1 + j)) m w = 0
      · rw [if_neg (by simp [hu])] at h
        have hpk := pack_unpack (b.drop (k1 + j)) m w (fun c hc => hb c (List.mem_of_mem_drop hc)) hu
        have hSl := unpackL_lt (b.drop (k1 + j)) m w (by omega)
        have hSn := unpackL_len (b.drop (k1 + j)) m w
        generalize unpackL (b.drop (k1 + j)) m w = S at *
        by_cases hwd : widthP S = w
        · rw [if_neg (by simp [hwd])] at h
          have hk : k = sumL (zagP first) S (m + 1) := by
            have := (Prod.mk.inj h).1
            exact (Option.some.inj this).symm
          have hsteps := steps_sumL (zagP first) (zagP_rng _ hlt1) S hSl
          rw [hSn] at hsteps
          have hnum : ∀ v ∈ k, v = num10 v.i ∧ I64 v.i := by
            intro v hv
            rw [hk] at hv
            obtain ⟨i, _, rfl⟩ := List.mem_map.1 hv
            exact ⟨rfl, sumN_I64 _ (zagP_rng _ hlt1) S i⟩
          refine ⟨?_, by rw [hk, sumL_len, hm], by rw [hk]; intro e; have := congrArg List.length e; rw [sumL_len] at this; simp at this, by omega, fun v hv => (hnum v hv).1, fun v hv => (hnum v hv).2⟩
          obtain ⟨r, hr⟩ : ∃ r, sumL (zagP first) S (m + 1) = num10 (zagP first) :: r := ⟨_, by simp only [sumL, List.range_succ_eq_map, List.map_cons]; rfl⟩
          rw [hk, hr, bytesD_cons, ← hr, hsteps, hwd, hpk]
          simp only [num10]
          rw [zig_zag _ hlt1, ← hb3, ← hb1]
        · rw [if_pos hwd] at h; simp at h
      · rw [if_pos hu] at h
        simp at h
    · rw [if_pos he2] at h; simp at h
  · rw [if_pos he] at h; simp at h
end Go.Proofs.YtmbagpfmfiegkaaGreat
namespace Go.Proofs.YtmbagpfmfiegkaaGreat
open Go.Proofs.YtmbagpfmfiegkaaGreatAw Go.RowKit
set_option linter.unusedVariables false
set_option linter.unusedSimpArgs false
theorem byte_drop {b : List Nat} (h : Byte b) (n : Nat) : Byte (b.drop n) := fun c hc => h c (List.mem_of_mem_drop hc)
theorem plainOf_good {b : List Nat} {n k : Int} {l : List Val} (hb : Byte b) (h : plainOfP b n k = (l, 0)) : kindsP k = true ∧ (∀ v ∈ l, GoodV k v) ∧ l.length ≤ 4096 ∧ b = wbytes l ∧ (l.length : Int) = n := by
  unfold plainOfP at h
  split at h
  · simp at h
  rename_i hk
  have hk : kindsP k = true := by simpa using hk
  split at h
  · simp at h
  split at h
  · simp at h
  split at h
  · rename_i he
    simp only [Prod.mk.injEq] at h
    exact absurd h.2 he
  split at h
  · simp at h
  rename_i h1 h2 h3 h4
  simp only [Prod.mk.injEq, and_true] at h
  have h3 : (readN k n.toNat b).2.2 = 0 := by simpa using h3
  have h4 : (readN k n.toNat b).2.1 = [] := by simpa using h4
  have e : readN k n.toNat b = (l, [], 0) := by rw [← h, ← h3, ← h4]
  obtain ⟨g1, g2⟩ := readN_back hk _ b l [] hb e
  have hlen := readN_len k n.toNat b h3
  rw [e] at hlen
  simp only at hlen
  exact ⟨hk, g2, by omega, by rw [g1, List.append_nil], by omega⟩
theorem nextP_good {b r : List Nat} {n : Nat} {k : Int} {q : Nat × Val} (hb : Byte b) (hk : kindsP k = true) (h : nextP b n k = (q, r, 0)) : GoodV k q.2 ∧ b = runB q ++ r ∧ 1 ≤ q.1 ∧ q.1 ≤ n ∧ Byte r := by
  obtain ⟨g1, g2, j, g3⟩ := nextP_ok h
  unfold nextP at h
  split at h
  · rename_i he
    simp only [Prod.mk.injEq] at h
    exact absurd h.2.2 he
  split at h
  · simp at h
  split at h
  · rename_i he
    simp only [Prod.mk.injEq] at h
    exact absurd h.2.2 he
  · rename_i h1 h2 h3
    simp only [Prod.mk.injEq, and_true] at h
    obtain ⟨rfl, rfl⟩ := h
    have h3 : (ofV (b.drop (getP b).2.1) k).2.2 = 0 := by simpa using h3
    obtain ⟨e1, e2, e3, e4⟩ := ofV_back (v := (ofV (b.drop (getP b).2.1) k).1) (r := (ofV (b.drop (getP b).2.1) k).2.1) (byte_drop hb _) hk (by rw [← h3])
    have h1 : (getP b).2.2 = 0 := by simpa using h1
    obtain ⟨f1, f2⟩ := getP_canon (n := (getP b).1) (k := (getP b).2.1) hb (by rw [← h1])
    refine ⟨⟨e2, e3, e4⟩, ?_, g1, g2, by rw [g3]; exact byte_drop hb _⟩
    unfold runB
    simp only
    rw [List.append_assoc, ← e1]
    exact f2
theorem toR_good (k : Int) (hk : kindsP k = true) : ∀ (f : Nat) (R : List (Nat × Val)) (n : Nat) (b : List Nat), Byte b → (∀ r ∈ R, GoodV k r.2) → ∀ r ∈ (toR k f R n b).1, GoodV k r.2
  | 0, R, n, b, hb, h => h
  | f + 1, R, n, b, hb, h => by
    unfold toR
    split
    · exact h
    split
    · simp
    rename_i he
    split
    · simp
    obtain ⟨q, r, e, hq⟩ : ∃ q r e, nextP b n k = (q, r, e) := ⟨_, _, _, rfl⟩
    rw [hq] at he ⊢
    obtain rfl : e = 0 := by simpa using he
    obtain ⟨g1, g2, g3, g4, g5⟩ := nextP_good hb hk hq
    refine toR_good k hk f _ _ _ g5 fun x hx => ?_
    rcases List.mem_append.1 hx with h' | h'
    · exact h x h'
    · rw [List.mem_singleton.1 h']; exact g1
theorem spread_mem {R : List (Nat × Val)} {v : Val} (h : v ∈ spreadP R) : ∃ r ∈ R, r.2 = v := by
  have : ∀ (R : List (Nat × Val)) (l : List Val), v ∈ R.foldl spreadStep l → v ∈ l ∨ ∃ r ∈ R, r.2 = v := by
    intro R
    induction R with
    | nil => exact fun l h => .inl h
    | cons r R ih =>
      intro l h
      rcases ih _ h with h | ⟨r', h1, h2⟩
      · rcases List.mem_append.1 h with h | h
        · exact .inl h
        · exact .inr ⟨r, by simp, (List.eq_of_mem_replicate h).symm⟩
      · exact .inr ⟨r', by simp [h1], h2⟩
  rcases this R [] h with h | h
  · cases h
  · exact h
theorem rleOf_good {b : List Nat} {n k : Int} {l : List Val} (hb : Byte b) (h : rleOfP b n k = (l, 0)) : kindsP k = true ∧ (∀ v ∈ l, GoodV k v) := by
  unfold rleOfP at h
  split at h
  · rename_i he
    simp only [Prod.mk.injEq] at h
    exact absurd h.2 he
  rename_i he
  simp only [Prod.mk.injEq, and_true] at h
  subst h
  unfold toRunsP at he ⊢
  split at he
  · simp at he
  rename_i hk
  have hk : kindsP k = true := by simpa using hk
  rw [if_neg (by simp [hk])]
  refine ⟨hk, ?_⟩
  split
  · intro v hv; simp [spreadP] at hv
  split
  · intro v hv; simp [spreadP] at hv
  split
  · intro v hv; simp [spreadP] at hv
  split
  · intro v hv; simp [spreadP] at hv
  intro v hv
  obtain ⟨r, h1, rfl⟩ := spread_mem hv
  exact toR_good k hk _ [] _ b hb (by simp) r h1
theorem rleOf_len (b : List Nat) (n k : Int) : (rleOfP b n k).1.length ≤ 4096 := by
  unfold rleOfP
  split
  · simp
  · exact spread_len _
theorem plainOf_len (b : List Nat) (n k : Int) : (plainOfP b n k).1.length ≤ 4096 := by
  unfold plainOfP
  split
  · simp
  split
  · simp
  split
  · simp
  split
  · simp
  split
  · simp
  rename_i h1 h2 h3 h4 h5
  have := readN_len k n.toNat b (by simpa using h4)
  simp only
  omega
theorem ofDict_len (b : List Nat) (n k : Int) (hb : Byte b) : (ofDict b n k).1.length ≤ 4096 := by
  obtain ⟨l, e, h⟩ : ∃ l e, ofDict b n k = (l, e) := ⟨_, _, rfl⟩
  by_cases he : e = 0
  · subst he
    have := dict_back hb h
    rw [h]
    exact ((plainP_iff l k).1 this.1).2.1
  · unfold ofDict at h ⊢
    split at h
    · rename_i h0
      simp only [Prod.mk.injEq] at h
      exact absurd h.2.symm he
    · rename_i h0
      rw [if_neg h0]; simp
theorem ofR_len (b : List Nat) (n : Int) (hb : Byte b) : ((ofR b n).1.getD []).length ≤ 4096 := by
  obtain ⟨o, e, h⟩ : ∃ o e, ofR b n = (o, e) := ⟨_, _, rfl⟩
  rw [h]
  cases o with
  | none => simp
  | some l =>
    have he : e = 0 := by
      unfold ofR at h
      split at h
      · simp at h
      split at h
      · simp at h
      unfold ofB at h
      repeat' split at h
      all_goals simp at h
      all_goals first | exact h.2.symm | exact absurd h id
    subst he
    have := bytes_of b n l hb h
    simp only [Option.getD_some]
    omega
/-- What is read is good. -/
theorem getV_good {b : List Nat} {n k w : Int} {l : List Val} (hb : Byte b) (h : getV b n k w = (l, 0)) : kindsP k = true ∧ (∀ v ∈ l, GoodV k v) ∧ 1 ≤ w ∧ w ≤ 4 := by
  unfold getV at h
  split at h
  · obtain ⟨h1, h2, _⟩ := plainOf_good hb h
    exact ⟨h1, h2, by omega, by omega⟩
  split at h
  · obtain ⟨h1, h2⟩ := rleOf_good hb h
    exact ⟨h1, h2, by omega, by omega⟩
  split at h
  · obtain ⟨h1, _, _, h4⟩ := dict_back hb h
    obtain ⟨g1, _, g3⟩ := (plainP_iff l k).1 h1
    exact ⟨g1, fun v hv => ⟨(g3 v hv).2, (g3 v hv).1, h4 v hv⟩, by omega, by omega⟩
  split at h
  · rename_i hw
    obtain ⟨hw, rfl⟩ := hw
    simp only [Prod.mk.injEq] at h
    obtain ⟨h1, h2⟩ := h
    refine ⟨rfl, ?_, by omega, by omega⟩
    cases ho : (ofR b n).1 with
    | none => rw [ho] at h1; subst h1; simp
    | some l' =>
      rw [ho] at h1
      subst h1
      obtain ⟨_, _, _, _, g1, g2⟩ := bytes_of b n l' hb (by rw [← ho, ← h2])
      intro v hv
      refine ⟨?_, ?_, g2 v hv⟩
      · rw [g1 v hv]; exact (mayV_one rfl).2 rfl
      · rw [g1 v hv]; rfl
  · simp at h
theorem getV_len (b : List Nat) (n k w : Int) (hb : Byte b) : (getV b n k w).1.length ≤ 4096 := by
  unfold getV
  split
  · exact plainOf_len b n k
  split
  · exact rleOf_len b n k
  split
  · exact ofDict_len b n k hb
  split
  · exact ofR_len b n hb
  · simp
end Go.Proofs.YtmbagpfmfiegkaaGreat
namespace Go.Proofs.YtmbagpfmfiegkaaGreat
open Go.Proofs.YtmbagpfmfiegkaaGreatAw Go.RowKit
set_option linter.unusedVariables false
set_option linter.unusedSimpArgs false
def natR (l : List Nat) : List (List D) := l.map fun (n : Nat) => [D.v (.int .i64 (n : Int))]
def numsB (l : List Nat) : List Nat := l.flatMap putP
theorem numsB_snoc (l : List Nat) (n : Nat) : numsB (l ++ [n]) = numsB l ++ putP n := by simp [numsB]
set_option maxRecDepth 10000 in
set_option maxHeartbeats 1000000 in
theorem numbersOwn_does (l : List Nat) (nn : Bool) (hl : l.length ≤ 1000) (hn : ∀ n ∈ l, n < 9223372036854775808) (H : AHeap) : Does Tryz.prog 33 [.d (.list nn (natR l))] H (.ok (.sl H.length l.length 0 (numsB l).length)) (H ++ [.arr 5 1 l.length (bys (numsB l))]) := by
  have hWb : ∀ k, k ≤ l.length → (numsB (l.take k)).length ≤ k * 11 := by
    intro k
    induction k with
    | zero => intro _; simp [numsB]
    | succ k ih =>
      intro hk
      have hk' : k < l.length := by omega
      rw [List.take_succ_eq_append_getElem hk', numsB_snoc, List.length_append]
      have h1 := ih (by omega)
      have h2 := putP_len 10 l[k] (by have := hn _ (List.getElem_mem hk'); omega)
      omega
  refine Does.of_awp (hint := (fun _ => false)) Tryz.func33 (by kernel_rfl) rfl [2] (by kernel_rfl) (by decide) (by simp [Tryz.ntmps33]) ?_
  rw [Tryz.ntmps33]
  simp (implicitDefEqProofs := false) only [↓reduceIte, go_sem, Nat.reduceLT, reduceCtorEq, eq_self]
  refine awp_for (fun j s H' => H' = H ++ [.arr 5 1 j (bys (numsB (l.take j)))] ∧ s 3 = .sl H.length j 0 (numsB (l.take j)).length ∧ s 6 = .d (.list nn (natR l)) ∧ s 7 = iA l.length ∧ s 8 = iA j) l.length (by omega) (Weak.virt1 _ _ 3 5 1 (by decide) (by simp (implicitDefEqProofs := false) only [↓reduceIte, go_sem, Nat.reduceLT, Nat.reduceEqDiff, eq_self]) _) ?_ ?_ ?_
  · refine ⟨rfl, ?_⟩
    simp (implicitDefEqProofs := false) only [↓reduceIte, go_sem, Nat.reduceLT, Nat.reduceEqDiff, eq_self, natR, List.length_map]
    rfl
  · rintro j s H' hj hw ⟨rfl, t3, t6, t7, t8⟩
    have hx : (natR l)[j]? = some [.v (.int .i64 ((l[j] : Nat) : Int))] := by unfold natR; rw [List.getElem?_map, List.getElem?_eq_getElem hj]; rfl
    have hm := hn _ (List.getElem_mem hj)
    have hb := hWb j (by omega)
    have e1 : numsB (l.take (j + 1)) = numsB (l.take j) ++ putP l[j] := by rw [List.take_succ_eq_append_getElem hj, numsB_snoc]
    rw [e1]
    generalize numsB (l.take j) = B at *
    generalize l[j] = m at *
    have wm := wrapU64N m (by omega)
    have hpl := putP_len 10 m (by omega)
    simp (implicitDefEqProofs := false) only [↓reduceIte, go_sem, Nat.reduceLT, Nat.reduceEqDiff, eq_self, t3, t6, t7, t8, hj, hx, wm]
    refine KCall.ok (put_does m (by omega) _) ?_
    simp (implicitDefEqProofs := false) only [↓reduceIte, go_sem, Nat.reduceLT, Nat.reduceEqDiff, eq_self, bys_one, bys_len, bys_app]
    refine ⟨by omega, by omega, ?_⟩
    simp (implicitDefEqProofs := false) only [↓reduceIte, go_sem, Nat.reduceLT, eq_self, t8]
    refine Rnd.same ⟨rfl, ?_⟩
    simp (implicitDefEqProofs := false) only [↓reduceIte, go_sem, Nat.reduceLT, Nat.reduceEqDiff, eq_self, t6, t7, hw]
  · rintro s H' ⟨rfl, t3, t6, t7, t8⟩
    rw [show l.take l.length = l from List.take_length] at *
    simp (implicitDefEqProofs := false) only [↓reduceIte, go_sem, Nat.reduceLT, Nat.reduceEqDiff, eq_self, t3, t7, t8]
    exact ⟨_, Weak.refl _ _, by simp (implicitDefEqProofs := false) only [↓reduceIte, go_sem, Nat.reduceLT, eq_self]⟩
end Go.Proofs.YtmbagpfmfiegkaaGreat

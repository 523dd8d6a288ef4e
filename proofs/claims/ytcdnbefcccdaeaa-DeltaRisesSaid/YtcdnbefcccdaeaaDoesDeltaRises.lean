/- The law DeltaRises: what it does. -/
import Derived.Test.YtcdnbefcccdaeaaLaw10
namespace Go.Proofs.Ytcdnbefcccdaeaa
open Go.Proofs.YtcdnbefcccdaeaaAw Go.RowKit
set_option linter.unusedVariables false
set_option linter.unusedSimpArgs false
def riseL (f : Int) (n : Nat) : List Val := (List.range n).map fun (i : Nat) => num10 (f + i)
theorem riseL_len (f : Int) (n : Nat) : (riseL f n).length = n := by simp [riseL]
theorem riseL_snoc (f : Int) (n : Nat) : riseL f (n + 1) = riseL f n ++ [num10 (f + n)] := by simp [riseL, List.range_succ]
theorem riseL_get {f : Int} {n k : Nat} (h : k < n) : (riseL f n)[k]? = some (num10 (f + k)) := by simp [riseL, h]
theorem riseL_num (f : Int) (n : Nat) : ∀ v ∈ riseL f n, ∃ m, v = num10 m := by
  intro v hv
  obtain ⟨i, _, rfl⟩ := List.mem_map.1 hv
  exact ⟨_, rfl⟩
theorem riseL_ok {f : Int} {n : Nat} (h1 : -2147483648 ≤ f) (h2 : f ≤ 2147483647) (hn : n ≤ 1000000) : ∀ v ∈ riseL f n, I64 v.i := by
  intro v hv
  obtain ⟨i, hi, rfl⟩ := List.mem_map.1 hv
  have := List.mem_range.1 hi
  exact ⟨by simp [num10]; omega, by simp [num10]; omega⟩
theorem riseL_steps (f : Int) (n : Nat) : stepsP (riseL f n) = List.replicate (n - 1) 2 := by
  apply List.ext_getElem?
  intro k
  rcases Nat.lt_or_ge (k + 1) n with h | h
  · rw [stepsP_get _ _ (by rw [riseL_len]; exact h), List.getElem?_replicate, if_pos (by omega)]
    have e1 := riseL_get (f := f) (show k < n by omega)
    have e2 := riseL_get (f := f) h
    rw [List.getElem?_eq_getElem (by rw [riseL_len]; omega)] at e1 e2
    rw [Option.some.inj e1, Option.some.inj e2]
    simp only [diffP, num10]
    rw [show f + ((k + 1 : Nat) : Int) - (f + (k : Int)) = 1 by omega]
    rfl
  · rw [List.getElem?_eq_none (by rw [stepsP_len, riseL_len]; omega), List.getElem?_eq_none (by simp; omega)]
theorem foldOr_rep (x : Nat) : ∀ (n a : Nat), (List.replicate n x).foldl (· ||| ·) (a ||| x) = a ||| x
  | 0, a => rfl
  | n + 1, a => by
    rw [List.replicate_succ, List.foldl_cons, Nat.or_assoc, Nat.or_self]
    exact foldOr_rep x n a
theorem width_rep (n : Nat) : widthP (List.replicate (n + 1) 2) = 2 := by
  unfold widthP
  rw [List.replicate_succ, List.foldl_cons, foldOr_rep]
  decide
theorem riseL_cons (f : Int) (n : Nat) : ∃ r, riseL f (n + 1) = num10 f :: r := ⟨(List.range n).map fun (i : Nat) => num10 (f + (i + 1 : Nat)), by
  simp [riseL, List.range_succ_eq_map, List.map_map, Function.comp_def]⟩
theorem bytes_rise (f : Int) (n : Nat) (hn : 2 ≤ n) : (bytesD (riseL f n)).length = (putP (zigP f)).length + 1 + (2 * (n - 1) + 7) / 8 := by
  obtain ⟨m, rfl⟩ : ∃ m, n = m + 2 := ⟨n - 2, by omega⟩
  obtain ⟨r, hr⟩ := riseL_cons f (m + 1)
  have hs := riseL_steps f (m + 2)
  rw [hr] at hs ⊢
  unfold bytesD
  simp only
  rw [hs, show m + 2 - 1 = m + 1 from rfl, width_rep, putP_small (n := 2) (by decide)]
  simp only [List.length_append, List.length_singleton, packP, packB_len, bitsL_len, List.length_replicate, num10]
  rw [Nat.mul_comm]
theorem bytes_one (v : Val) : bytesD [v] = putP (zigP v.i) ++ [0] := by
  unfold bytesD
  simp only
  have h1 : stepsP [v] = [] := rfl
  rw [h1, show widthP [] = 0 from rfl, putP_small (n := 0) (by decide), show packP [] 0 = [] from rfl, List.append_nil]
theorem riseL_sorted {f : Int} {n : Nat} : sortedP (riseL f n) = true := by
  rw [sortedP_iff]
  intro k x y hx hy
  have h := (List.getElem?_eq_some_iff.1 hy).1
  rw [riseL_len] at h
  rw [riseL_get (by omega)] at hx
  rw [riseL_get h] at hy
  cases hx; cases hy
  simp only [cmpV, num10]
  simp [cmpI, ordI]
  omega
theorem putP_pos (n : Nat) : 0 < (putP n).length := by rw [putP]; split <;> simp
theorem enc3 (l : List Val) : (∀ c ∈ l.map Val.enc, c.length = 3) = True := eq_true fun c hc => by obtain ⟨a, _, rfl⟩ := List.mem_map.1 hc; rfl
set_option maxRecDepth 10000 in
set_option maxHeartbeats 1000000 in
theorem deltaRises_walk (f : Int) (many : Nat) (h1 : -2147483648 ≤ f) (h2 : f ≤ 2147483647) (hm : many ≤ 65535) (H : AHeap) :
    Does Try.prog 4 [.d (.v (.int .i32 f)), .d (.v (.int .u16 many))] H (.ok (bA true)) H := by
  obtain ⟨n, hn, hn2, hn3⟩ : ∃ n, n = 2 + many % 4000 ∧ 2 ≤ n ∧ n ≤ 4002 := ⟨_, rfl, by omega, by omega⟩
  have e1 : Int.tmod (many : Int) 4000 = ((many % 4000 : Nat) : Int) := by rw [Int.tmod_eq_emod_of_nonneg (by omega)]; rfl
  have e2 : IntKind.i64.wrap ((many % 4000 : Nat) : Int) = ((many % 4000 : Nat) : Int) := wrapI _ (by omega)
  have e3 : IntKind.i64.wrap (2 + ((many % 4000 : Nat) : Int)) = (n : Int) := by rw [wrap64_in _ (by omega) (by omega)]; omega
  have e4 : IntKind.i64.wrap f = f := wrap64_in _ (by omega) (by omega)
  have d1 := dbytes_does (riseL f n) (riseL_ok h1 h2 (by omega)) false H (by rw [riseL_len]; omega)
  rw [deltaR_ok (riseL_num f n) (by rw [riseL_len]; omega) (by intro h; have := riseL_len f n; rw [h] at this; simp at this; omega)] at d1
  have d2 := dbytes_does [num10 f] (by intro v hv; simp at hv; subst hv; exact ⟨by simp [num10]; omega, by simp [num10]; omega⟩) false H (by simp)
  rw [deltaR_ok (by intro v hv; simp at hv; exact ⟨_, hv⟩) (by simp) (by simp), bytes_one] at d2
  have d3 := sorted_does (riseL f n) false H (by rw [riseL_len]; omega)
  rw [riseL_sorted] at d3
  have e5 := bytes_rise f n hn2
  have e6 := putP_pos (zigP f)
  have e7 : zigP (num10 f).i = zigP f := rfl
  have e8 : (riseL f n).take 1 = [num10 f] := by
    obtain ⟨r, hr⟩ := riseL_cons f (n - 1)
    rw [show n - 1 + 1 = n by omega] at hr
    rw [hr]; rfl
  have e9 := riseL_len f n
  have e10 := putP_len 10 (zigP f) (by have := zigP_lt (n := f) (by omega) (by omega); omega)
  rw [e7] at d2
  refine Does.of_awp (hint := (fun t => t == 1000008)) Try.func4 (by kernel_rfl) rfl [4] (by kernel_rfl) (by decide) (by simp [Try.ntmps4]) ?_
  rw [Try.ntmps4]
  simp (implicitDefEqProofs := false) only [↓reduceIte, go_sem, oread, owrite, Nat.reduceAdd, Nat.reduceSub, Nat.reduceMul, Nat.reduceLT, Nat.reduceLeDiff, Nat.reduceEqDiff, Nat.reduceBEq, Int.reduceLE, Int.reduceLT, Int.reduceEq, Int.reduceNe, Int.reduceAdd, Int.reduceSub, Int.reduceMul, Int.reduceNeg, Int.reduceToNat, Int.reduceNatCast, reduceCtorEq, eq_self]
  refine KCall.ok (shown10_does _) ?_
  simp (implicitDefEqProofs := false) only [↓reduceIte, go_sem, oread, owrite, Nat.reduceAdd, Nat.reduceSub, Nat.reduceMul, Nat.reduceLT, Nat.reduceLeDiff, Nat.reduceEqDiff, Nat.reduceBEq, Int.reduceLE, Int.reduceLT, Int.reduceEq, Int.reduceNe, Int.reduceAdd, Int.reduceSub, Int.reduceMul, Int.reduceNeg, Int.reduceToNat, Int.reduceNatCast, reduceCtorEq, eq_self, e1, e2, e3]
  refine awp_for3 (fun k s H' => H' = H ++ [.arr 26 3 k ((riseL f k).map Val.enc)] ∧ s 0 = .d (.v (.int .i32 f)) ∧ s 5 = bA true ∧ s 6 = iA n ∧ s 7 = .sl H.length k 0 k ∧ s 8 = iA k) n (by omega) (Weak.virt1 _ _ 7 26 3 (by decide) (by simp (implicitDefEqProofs := false) only [↓reduceIte, go_sem, oread, owrite, Nat.reduceAdd, Nat.reduceSub, Nat.reduceMul, Nat.reduceLT, Nat.reduceLeDiff, Nat.reduceEqDiff, Nat.reduceBEq, Int.reduceLE, Int.reduceLT, Int.reduceEq, Int.reduceNe, Int.reduceAdd, Int.reduceSub, Int.reduceMul, Int.reduceNeg, Int.reduceToNat, Int.reduceNatCast, reduceCtorEq, eq_self]) _) ?_ ?_ ?_
  · refine ⟨rfl, ?_⟩
    simp (implicitDefEqProofs := false) only [↓reduceIte, go_sem, oread, owrite, Nat.reduceAdd, Nat.reduceSub, Nat.reduceMul, Nat.reduceLT, Nat.reduceLeDiff, Nat.reduceEqDiff, Nat.reduceBEq, Int.reduceLE, Int.reduceLT, Int.reduceEq, Int.reduceNe, Int.reduceAdd, Int.reduceSub, Int.reduceMul, Int.reduceNeg, Int.reduceToNat, Int.reduceNatCast, reduceCtorEq, eq_self]
  · rintro k s H' hk hw ⟨rfl, t0, t5, t6, t7, t8⟩
    have hs := riseL_snoc f k
    have hw2 : IntKind.i64.wrap (f + (k : Int)) = f + (k : Int) := wrap64_in _ (by omega) (by omega)
    have hlk := riseL_len f k
    simp (implicitDefEqProofs := false) only [↓reduceIte, go_sem, oread, owrite, Nat.reduceAdd, Nat.reduceSub, Nat.reduceMul, Nat.reduceLT, Nat.reduceLeDiff, Nat.reduceEqDiff, Nat.reduceBEq, Int.reduceLE, Int.reduceLT, Int.reduceEq, Int.reduceNe, Int.reduceAdd, Int.reduceSub, Int.reduceMul, Int.reduceNeg, Int.reduceToNat, Int.reduceNatCast, reduceCtorEq, eq_self, t0, t6, t7, t8, hk, e4, hw2, hlk]
    refine ⟨by omega, by omega, Rnd.same ⟨?_, ?_⟩⟩
    · simp (implicitDefEqProofs := false) only [↓reduceIte, go_sem, oread, owrite, Nat.reduceAdd, Nat.reduceSub, Nat.reduceMul, Nat.reduceLT, Nat.reduceLeDiff, Nat.reduceEqDiff, Nat.reduceBEq, Int.reduceLE, Int.reduceLT, Int.reduceEq, Int.reduceNe, Int.reduceAdd, Int.reduceSub, Int.reduceMul, Int.reduceNeg, Int.reduceToNat, Int.reduceNatCast, reduceCtorEq, eq_self, hs, List.map_append, Val.enc, num10]
      rfl
    · simp (implicitDefEqProofs := false) only [↓reduceIte, go_sem, oread, owrite, Nat.reduceAdd, Nat.reduceSub, Nat.reduceMul, Nat.reduceLT, Nat.reduceLeDiff, Nat.reduceEqDiff, Nat.reduceBEq, Int.reduceLE, Int.reduceLT, Int.reduceEq, Int.reduceNe, Int.reduceAdd, Int.reduceSub, Int.reduceMul, Int.reduceNeg, Int.reduceToNat, Int.reduceNatCast, reduceCtorEq, eq_self, t0, t5, t6, hw]
  · rintro s H' ⟨rfl, t0, t5, t6, t7, t8⟩
    simp (implicitDefEqProofs := false) only [↓reduceIte, go_sem, oread, owrite, Nat.reduceAdd, Nat.reduceSub, Nat.reduceMul, Nat.reduceLT, Nat.reduceLeDiff, Nat.reduceEqDiff, Nat.reduceBEq, Int.reduceLE, Int.reduceLT, Int.reduceEq, Int.reduceNe, Int.reduceAdd, Int.reduceSub, Int.reduceMul, Int.reduceNeg, Int.reduceToNat, Int.reduceNatCast, reduceCtorEq, eq_self, t6, t8]
    refine ⟨_, _, Weak.drop H _ _, ?_⟩
    simp (implicitDefEqProofs := false) only [↓reduceIte, go_sem, oread, owrite, Nat.reduceAdd, Nat.reduceSub, Nat.reduceMul, Nat.reduceLT, Nat.reduceLeDiff, Nat.reduceEqDiff, Nat.reduceBEq, Int.reduceLE, Int.reduceLT, Int.reduceEq, Int.reduceNe, Int.reduceAdd, Int.reduceSub, Int.reduceMul, Int.reduceNeg, Int.reduceToNat, Int.reduceNatCast, reduceCtorEq, eq_self, t5, t6, t7, take_len, e9]
    refine KCall.ok d1 ?_
    simp (implicitDefEqProofs := false) only [↓reduceIte, go_sem, oread, owrite, Nat.reduceAdd, Nat.reduceSub, Nat.reduceMul, Nat.reduceLT, Nat.reduceLeDiff, Nat.reduceEqDiff, Nat.reduceBEq, Int.reduceLE, Int.reduceLT, Int.reduceEq, Int.reduceNe, Int.reduceAdd, Int.reduceSub, Int.reduceMul, Int.reduceNeg, Int.reduceToNat, Int.reduceNatCast, reduceCtorEq, eq_self, t5, t6, t7, take_len, e9, enc3]
    refine ⟨by omega, ?_⟩
    rw [← List.map_take, e8]
    refine KCall.ok d2 ?_
    have w1 : IntKind.i64.wrap ((n : Int) - 1) = (n : Int) - 1 := wrap64_in _ (by omega) (by omega)
    have w2 : IntKind.i64.wrap (2 * ((n : Int) - 1)) = 2 * ((n : Int) - 1) := wrap64_in _ (by omega) (by omega)
    have w3 : IntKind.i64.wrap (2 * ((n : Int) - 1) + 7) = 2 * ((n : Int) - 1) + 7 := wrap64_in _ (by omega) (by omega)
    have w4 : Int.tdiv (2 * ((n : Int) - 1) + 7) 8 = (((2 * (n - 1) + 7) / 8 : Nat) : Int) := by rw [Int.tdiv_eq_ediv_of_nonneg (by omega)]; omega
    have w5 : IntKind.i64.wrap (((2 * (n - 1) + 7) / 8 : Nat) : Int) = (((2 * (n - 1) + 7) / 8 : Nat) : Int) := wrapI _ (by omega)
    have hq : (2 * (n - 1) + 7) / 8 ≤ 2000 := by omega
    generalize (2 * (n - 1) + 7) / 8 = q at e5 w4 w5 hq
    have w6 : IntKind.i64.wrap (((putP (zigP f)).length : Int) + 1 + (q : Int)) = ((putP (zigP f)).length : Int) + 1 + (q : Int) := wrap64_in _ (by omega) (by omega)
    have w7 : ((2 : Int) ≤ ((putP (zigP f)).length : Int) + 1) = True := eq_true (by omega)
    simp (implicitDefEqProofs := false) only [↓reduceIte, go_sem, oread, owrite, Nat.reduceAdd, Nat.reduceSub, Nat.reduceMul, Nat.reduceLT, Nat.reduceLeDiff, Nat.reduceEqDiff, Nat.reduceBEq, Int.reduceLE, Int.reduceLT, Int.reduceEq, Int.reduceNe, Int.reduceAdd, Int.reduceSub, Int.reduceMul, Int.reduceNeg, Int.reduceToNat, Int.reduceNatCast, reduceCtorEq, eq_self, t5, t6, t7, take_len, e9, bys_len, List.length_append, e5, w1, w2, w3, w4, w5, w6, w7]
    refine KCall.ok d3 ?_
    simp (implicitDefEqProofs := false) only [↓reduceIte, go_sem, oread, owrite, Nat.reduceAdd, Nat.reduceSub, Nat.reduceMul, Nat.reduceLT, Nat.reduceLeDiff, Nat.reduceEqDiff, Nat.reduceBEq, Int.reduceLE, Int.reduceLT, Int.reduceEq, Int.reduceNe, Int.reduceAdd, Int.reduceSub, Int.reduceMul, Int.reduceNeg, Int.reduceToNat, Int.reduceNatCast, reduceCtorEq, eq_self]
    refine AEnd.ret0 ?_
    simp (implicitDefEqProofs := false) only [↓reduceIte, go_sem, oread, owrite, Nat.reduceAdd, Nat.reduceSub, Nat.reduceMul, Nat.reduceLT, Nat.reduceLeDiff, Nat.reduceEqDiff, Nat.reduceBEq, Int.reduceLE, Int.reduceLT, Int.reduceEq, Int.reduceNe, Int.reduceAdd, Int.reduceSub, Int.reduceMul, Int.reduceNeg, Int.reduceToNat, Int.reduceNatCast, reduceCtorEq, eq_self]
theorem argI32 {x : AV} (h : ArgOk Try.prog 21 x) : ∃ n : Int, x = .d (.v (.int .i32 n)) ∧ -2147483648 ≤ n ∧ n ≤ 2147483647 := by
  obtain ⟨d, rfl, hf⟩ := arg_one h K.agB21 (sh := .int .i32) (by kernel_rfl)
  obtain ⟨n, rfl, hn⟩ := Fits.int_inv hf
  have hn : IntKind.i32.min ≤ n ∧ n ≤ IntKind.i32.max := by simpa [Lit.wf] using hn
  have h0 : IntKind.i32.min = -2147483648 := by decide
  have h1 : IntKind.i32.max = 2147483647 := by decide
  exact ⟨n, rfl, by omega, by omega⟩
theorem argU16 {x : AV} (h : ArgOk Try.prog 36 x) : ∃ n : Nat, x = .d (.v (.int .u16 n)) ∧ n ≤ 65535 := by
  obtain ⟨d, rfl, hf⟩ := arg_one h K.agB36 (sh := .int .u16) (by kernel_rfl)
  obtain ⟨n, rfl, hn⟩ := Fits.int_inv hf
  have hn : IntKind.u16.min ≤ n ∧ n ≤ IntKind.u16.max := by simpa [Lit.wf] using hn
  have h0 : IntKind.u16.min = 0 := by decide
  have h1 : IntKind.u16.max = 65535 := by decide
  exact ⟨n.toNat, by rw [Int.toNat_of_nonneg (by omega)], by omega⟩
theorem deltaRises_does (x0 : AV) (h0 : ArgOk Try.prog 21 x0) (x1 : AV) (h1 : ArgOk Try.prog 36 x1) : Does Try.prog 4 [x0, x1] [] (.ok (.d (.v (.bool true)))) [] := by
  obtain ⟨f, rfl, g1, g2⟩ := argI32 h0
  obtain ⟨m, rfl, h3⟩ := argU16 h1
  exact deltaRises_walk f m g1 g2 h3 []
end Go.Proofs.Ytcdnbefcccdaeaa

/- bits.Width, leb.Put, bits.Pack: what they do. -/
import Derived.Test.YtcdnbefcccdaeaaLen
import Derived.Test.YtcdnbefcccdaeaaAwJ
import Derived.Test.YtcdnbefcccdaeaaUs
namespace Go.Proofs.Ytcdnbefcccdaeaa
open Go.Proofs.YtcdnbefcccdaeaaAw Go.RowKit
set_option linter.unusedVariables false
set_option linter.unusedSimpArgs false
/-! ### Width -/
def widthP (l : List Nat) : Nat := lenN (l.foldl (· ||| ·) 0)
theorem foldOr_lt {l : List Nat} (h : ∀ n ∈ l, n < 18446744073709551616) : ∀ {a : Nat}, a < 18446744073709551616 → l.foldl (· ||| ·) a < 18446744073709551616 := by
  induction l with
  | nil => exact fun h => h
  | cons x l ih => exact fun {a} ha => ih (fun n hn => h n (by simp [hn])) (Nat.or_lt_two_pow (n := 64) ha (h x (by simp)))
set_option maxRecDepth 10000 in
set_option maxHeartbeats 1000000 in
theorem width_does (l : List Nat) (nn : Bool) (H : AHeap) (hl : l.length ≤ 9223372036854775807) (hu : ∀ n ∈ l, n < 18446744073709551616) : Does Try.prog 21 [.d (.list nn (us l))] H (.ok (iA (widthP l))) H := by
  refine Does.of_awp (hint := (fun _ => false)) Try.func21 (by kernel_rfl) rfl [2] (by kernel_rfl) (by decide) (by simp [Try.ntmps21]) ?_
  rw [Try.ntmps21]
  simp (implicitDefEqProofs := false) only [↓reduceIte, go_sem, oread, owrite, Nat.reduceAdd, Nat.reduceSub, Nat.reduceMul, Nat.reduceLT, Nat.reduceLeDiff, Nat.reduceEqDiff, Nat.reduceBEq, Int.reduceLE, Int.reduceLT, Int.reduceEq, Int.reduceNe, Int.reduceAdd, Int.reduceSub, Int.reduceMul, Int.reduceNeg, Int.reduceToNat, Int.reduceNatCast, reduceCtorEq, eq_self, us_len]
  refine awp_for (fun k s H' => H' = H ∧ s 3 = du ((l.take k).foldl (· ||| ·) 0) ∧ s 6 = .d (.list nn (us l)) ∧ s 7 = iA l.length ∧ s 8 = iA k) l.length hl (Weak.refl _ _) ?_ ?_ ?_
  · refine ⟨rfl, ?_⟩
    simp (implicitDefEqProofs := false) only [↓reduceIte, go_sem, oread, owrite, Nat.reduceAdd, Nat.reduceSub, Nat.reduceMul, Nat.reduceLT, Nat.reduceLeDiff, Nat.reduceEqDiff, Nat.reduceBEq, Int.reduceLE, Int.reduceLT, Int.reduceEq, Int.reduceNe, Int.reduceAdd, Int.reduceSub, Int.reduceMul, Int.reduceNeg, Int.reduceToNat, Int.reduceNatCast, reduceCtorEq, eq_self, List.take_zero, List.foldl_nil]
    rfl
  · rintro k s H' hk hw ⟨rfl, t3, t6, t7, t8⟩
    have hx := us_get l k hk
    have e1 := List.take_succ_eq_append_getElem hk
    have hb : (l.take k).foldl (· ||| ·) 0 < 18446744073709551616 := foldOr_lt (fun n hn => hu n (List.mem_of_mem_take hn)) (by decide)
    have hc := hu _ (List.getElem_mem hk)
    have e2 : (l.take (k + 1)).foldl (· ||| ·) 0 = (l.take k).foldl (· ||| ·) 0 ||| l[k] := by rw [e1, List.foldl_append]; rfl
    generalize l[k] = x at hx hc e2
    generalize (l.take k).foldl (· ||| ·) 0 = A at *
    have hor := orI_nat .u64 A x hb hc
    have hd : A ||| x < 18446744073709551616 := Nat.or_lt_two_pow (n := 64) hb hc
    simp (implicitDefEqProofs := false) only [↓reduceIte, go_sem, oread, owrite, Nat.reduceAdd, Nat.reduceSub, Nat.reduceMul, Nat.reduceLT, Nat.reduceLeDiff, Nat.reduceEqDiff, Nat.reduceBEq, Int.reduceLE, Int.reduceLT, Int.reduceEq, Int.reduceNe, Int.reduceAdd, Int.reduceSub, Int.reduceMul, Int.reduceNeg, Int.reduceToNat, Int.reduceNatCast, reduceCtorEq, eq_self, t3, t6, t7, t8, hk, hx, hor, wrapU64N _ hd]
    refine Rnd.same ⟨rfl, ?_⟩
    simp (implicitDefEqProofs := false) only [↓reduceIte, go_sem, oread, owrite, Nat.reduceAdd, Nat.reduceSub, Nat.reduceMul, Nat.reduceLT, Nat.reduceLeDiff, Nat.reduceEqDiff, Nat.reduceBEq, Int.reduceLE, Int.reduceLT, Int.reduceEq, Int.reduceNe, Int.reduceAdd, Int.reduceSub, Int.reduceMul, Int.reduceNeg, Int.reduceToNat, Int.reduceNatCast, reduceCtorEq, eq_self, t6, t7, hw, e2]
  · rintro s H' ⟨rfl, t3, t6, t7, t8⟩
    simp (implicitDefEqProofs := false) only [↓reduceIte, go_sem, oread, owrite, Nat.reduceAdd, Nat.reduceSub, Nat.reduceMul, Nat.reduceLT, Nat.reduceLeDiff, Nat.reduceEqDiff, Nat.reduceBEq, Int.reduceLE, Int.reduceLT, Int.reduceEq, Int.reduceNe, Int.reduceAdd, Int.reduceSub, Int.reduceMul, Int.reduceNeg, Int.reduceToNat, Int.reduceNatCast, reduceCtorEq, eq_self, t3, t7, t8]
    rw [List.take_length]
    refine KCall.ok (len64_does _ (foldOr_lt hu (by decide)) _) ?_
    simp (implicitDefEqProofs := false) only [↓reduceIte, go_sem, oread, owrite, Nat.reduceAdd, Nat.reduceSub, Nat.reduceMul, Nat.reduceLT, Nat.reduceLeDiff, Nat.reduceEqDiff, Nat.reduceBEq, Int.reduceLE, Int.reduceLT, Int.reduceEq, Int.reduceNe, Int.reduceAdd, Int.reduceSub, Int.reduceMul, Int.reduceNeg, Int.reduceToNat, Int.reduceNatCast, reduceCtorEq, eq_self]
    refine AEnd.ret0 ?_
    simp (implicitDefEqProofs := false) only [↓reduceIte, go_sem, oread, owrite, Nat.reduceAdd, Nat.reduceSub, Nat.reduceMul, Nat.reduceLT, Nat.reduceLeDiff, Nat.reduceEqDiff, Nat.reduceBEq, Int.reduceLE, Int.reduceLT, Int.reduceEq, Int.reduceNe, Int.reduceAdd, Int.reduceSub, Int.reduceMul, Int.reduceNeg, Int.reduceToNat, Int.reduceNatCast, reduceCtorEq, eq_self, widthP]
/-! ### leb.Put -/
def putP (n : Nat) : List Nat := if h : n < 128 then [n] else (n % 128 + 128) :: putP (n / 128)
termination_by n
theorem putP_small {n : Nat} (h : n < 128) : putP n = [n] := by rw [putP]; simp [h]
theorem putP_big {n : Nat} (h : ¬ n < 128) : putP n = (n % 128 + 128) :: putP (n / 128) := by rw [putP]; simp [h]
theorem or128 : ∀ m, m < 256 → m ||| 128 = m % 128 + 128 := by decide +kernel
theorem putByte (n : Nat) : IntKind.u8.wrap (orI .u8 ((n % 256 : Nat) : Int) 128) = ((n % 128 + 128 : Nat) : Int) := by
  have := orI_nat .u8 (n % 256) 128 (Nat.mod_lt _ (by decide)) (by decide)
  rw [show ((128 : Nat) : Int) = 128 from rfl] at this
  rw [this, or128 _ (Nat.mod_lt _ (by decide))]
  rw [show n % 256 % 128 = n % 128 from Nat.mod_mod_of_dvd n (by decide)]
  exact wrapu8_in _ (by omega) (by omega)
set_option maxRecDepth 10000 in
set_option maxHeartbeats 1000000 in
theorem putOwn_does (n0 : Nat) (hn : n0 < 18446744073709551616) (H : AHeap) : Does Try.prog 22 [du n0] H (.ok (.sl H.length (putP n0).length 0 (putP n0).length)) (H ++ [.arr 5 1 (putP n0).length (bys (putP n0))]) := by
  have s7 : ∀ n : Nat, shrI .u64 (n : Int) 7 = ((n / 128 : Nat) : Int) := fun n => shrU n 7 (by decide)
  refine Does.of_awp (hint := (fun _ => false)) Try.func22 (by kernel_rfl) rfl [2] (by kernel_rfl) (by decide) (by simp [Try.ntmps22]) ?_
  rw [Try.ntmps22]
  simp (implicitDefEqProofs := false) only [↓reduceIte, go_sem, oread, owrite, Nat.reduceAdd, Nat.reduceSub, Nat.reduceMul, Nat.reduceLT, Nat.reduceLeDiff, Nat.reduceEqDiff, Nat.reduceBEq, Int.reduceLE, Int.reduceLT, Int.reduceEq, Int.reduceNe, Int.reduceAdd, Int.reduceSub, Int.reduceMul, Int.reduceNeg, Int.reduceToNat, Int.reduceNatCast, reduceCtorEq, eq_self]
  refine awp_loop _ _ _ _ (fun (x : Nat × List Nat) s H' => H' = H ++ [.arr 5 1 x.2.length (bys x.2)] ∧ x.1 * 128 ^ x.2.length ≤ n0 ∧ (x.2.length = 0 ∨ 0 < x.1) ∧ putP n0 = x.2 ++ putP x.1 ∧ s 0 = du x.1 ∧ s 3 = .sl H.length x.2.length 0 x.2.length) (fun x => x.1) (n0, []) (Weak.virt1 _ _ 3 5 1 (by decide) (by simp (implicitDefEqProofs := false) only [↓reduceIte, go_sem, oread, owrite, Nat.reduceAdd, Nat.reduceSub, Nat.reduceMul, Nat.reduceLT, Nat.reduceLeDiff, Nat.reduceEqDiff, Nat.reduceBEq, Int.reduceLE, Int.reduceLT, Int.reduceEq, Int.reduceNe, Int.reduceAdd, Int.reduceSub, Int.reduceMul, Int.reduceNeg, Int.reduceToNat, Int.reduceNatCast, reduceCtorEq, eq_self]) _) ?_ ?_
  · refine ⟨?_, by simp, .inl rfl, by simp, ?_⟩
    · simp (implicitDefEqProofs := false) only [↓reduceIte, go_sem, oread, owrite, Nat.reduceAdd, Nat.reduceSub, Nat.reduceMul, Nat.reduceLT, Nat.reduceLeDiff, Nat.reduceEqDiff, Nat.reduceBEq, Int.reduceLE, Int.reduceLT, Int.reduceEq, Int.reduceNe, Int.reduceAdd, Int.reduceSub, Int.reduceMul, Int.reduceNeg, Int.reduceToNat, Int.reduceNatCast, reduceCtorEq, eq_self, bys_nil, List.length_nil]
    · simp (implicitDefEqProofs := false) only [↓reduceIte, go_sem, oread, owrite, Nat.reduceAdd, Nat.reduceSub, Nat.reduceMul, Nat.reduceLT, Nat.reduceLeDiff, Nat.reduceEqDiff, Nat.reduceBEq, Int.reduceLE, Int.reduceLT, Int.reduceEq, Int.reduceNe, Int.reduceAdd, Int.reduceSub, Int.reduceMul, Int.reduceNeg, Int.reduceToNat, Int.reduceNatCast, reduceCtorEq, eq_self, List.length_nil]
  · rintro ⟨n, bs⟩ s H' ⟨rfl, h1, h3, h2, t0, t3⟩
    simp only at h1 h2 h3 t0 t3
    have hb : bs.length < 10 := by
      rcases Nat.lt_or_ge bs.length 10 with h | h
      · exact h
      · exfalso
        have h4 : 128 ^ 10 ≤ 128 ^ bs.length := Nat.pow_le_pow_right (by decide) h
        have h5 : 1 * 128 ^ bs.length ≤ n * 128 ^ bs.length := Nat.mul_le_mul_right _ (by omega)
        omega
    have hnn : n ≤ n0 := Nat.le_trans (Nat.le_mul_of_pos_right _ (Nat.pow_pos (by decide))) h1
    by_cases hlt : (128 : Int) ≤ (n : Int)
    · have hpb := putByte n
      have hp2 := putP_big (n := n) (by omega)
      generalize n % 128 + 128 = m at hpb hp2
      simp (implicitDefEqProofs := false) only [↓reduceIte, go_sem, oread, owrite, Nat.reduceAdd, Nat.reduceSub, Nat.reduceMul, Nat.reduceLT, Nat.reduceLeDiff, Nat.reduceEqDiff, Nat.reduceBEq, Int.reduceLE, Int.reduceLT, Int.reduceEq, Int.reduceNe, Int.reduceAdd, Int.reduceSub, Int.reduceMul, Int.reduceNeg, Int.reduceToNat, Int.reduceNatCast, reduceCtorEq, eq_self, t0, t3, hlt, wrapU8mod, hpb, bys_len, bys_snoc, s7]
      refine ⟨by omega, by omega, _, _, (n / 128, bs ++ [m]), .refl _ _, ⟨?_, ?_, .inr (by simp only; omega), ?_, ?_⟩, by simp only; omega⟩
      · simp (implicitDefEqProofs := false) only [↓reduceIte, go_sem, oread, owrite, Nat.reduceAdd, Nat.reduceSub, Nat.reduceMul, Nat.reduceLT, Nat.reduceLeDiff, Nat.reduceEqDiff, Nat.reduceBEq, Int.reduceLE, Int.reduceLT, Int.reduceEq, Int.reduceNe, Int.reduceAdd, Int.reduceSub, Int.reduceMul, Int.reduceNeg, Int.reduceToNat, Int.reduceNatCast, reduceCtorEq, eq_self, List.length_append]
      · simp only [List.length_append, List.length_singleton, Nat.pow_succ]
        have : n / 128 * (128 ^ bs.length * 128) = (n / 128 * 128) * 128 ^ bs.length := by rw [Nat.mul_comm (128 ^ _), ← Nat.mul_assoc]
        rw [this]
        exact Nat.le_trans (Nat.mul_le_mul_right _ (Nat.div_mul_le_self n 128)) h1
      · rw [h2, hp2]; simp
      · simp (implicitDefEqProofs := false) only [↓reduceIte, go_sem, oread, owrite, Nat.reduceAdd, Nat.reduceSub, Nat.reduceMul, Nat.reduceLT, Nat.reduceLeDiff, Nat.reduceEqDiff, Nat.reduceBEq, Int.reduceLE, Int.reduceLT, Int.reduceEq, Int.reduceNe, Int.reduceAdd, Int.reduceSub, Int.reduceMul, Int.reduceNeg, Int.reduceToNat, Int.reduceNatCast, reduceCtorEq, eq_self, List.length_append]
    · have hm : n % 256 = n := by omega
      simp (implicitDefEqProofs := false) only [↓reduceIte, go_sem, oread, owrite, Nat.reduceAdd, Nat.reduceSub, Nat.reduceMul, Nat.reduceLT, Nat.reduceLeDiff, Nat.reduceEqDiff, Nat.reduceBEq, Int.reduceLE, Int.reduceLT, Int.reduceEq, Int.reduceNe, Int.reduceAdd, Int.reduceSub, Int.reduceMul, Int.reduceNeg, Int.reduceToNat, Int.reduceNatCast, reduceCtorEq, eq_self, t0, t3, hlt, wrapU8mod, bys_len, hm, bys_snoc]
      have : putP n0 = bs ++ [n] := by rw [h2, putP_small (by omega)]
      rw [this, List.length_append, List.length_singleton]
      exact ⟨by omega, by omega, _, Weak.refl _ _, by simp (implicitDefEqProofs := false) only [↓reduceIte, go_sem, oread, owrite, Nat.reduceAdd, Nat.reduceSub, Nat.reduceMul, Nat.reduceLT, Nat.reduceLeDiff, Nat.reduceEqDiff, Nat.reduceBEq, Int.reduceLE, Int.reduceLT, Int.reduceEq, Int.reduceNe, Int.reduceAdd, Int.reduceSub, Int.reduceMul, Int.reduceNeg, Int.reduceToNat, Int.reduceNatCast, reduceCtorEq, eq_self]⟩
theorem put_does (n0 : Nat) (hn : n0 < 18446744073709551616) (H : AHeap) : Does Try.prog 22 [du n0] H (.ok (.d (.list false (bys (putP n0))))) H := (putOwn_does n0 hn H).list (bys_len _)
end Go.Proofs.Ytcdnbefcccdaeaa

/- The laws of layer 10: what they share. -/
import Derived.Test.YtcdnbefcccdaeaaDelta4
import Derived.Test.YtcdnbefcccdaeaaSame01
namespace Go.Proofs.Ytcdnbefcccdaeaa
open Go.Proofs.YtcdnbefcccdaeaaAw Go.RowKit
set_option linter.unusedVariables false
set_option linter.unusedSimpArgs false
/-! ### Bytes as a text -/
def bstr (l : List Nat) : ByteArray := pushAll (l.map fun (n : Nat) => (n : Int))
theorem asBytes_bys : ∀ l : List Nat, asBytes (bys l) = some (l.map fun (n : Nat) => (n : Int))
  | [] => rfl
  | n :: l => by
    show asBytes ([.v (.int .u8 (n : Int))] :: bys l) = _
    simp only [asBytes, asBytes_bys l]; rfl
theorem bstr_eq (l : List Nat) : pushAll (l.map fun (n : Nat) => (n : Int)) = bstr l := rfl
theorem pushAll_list (ns : List Int) (b : ByteArray) : (ns.foldl (fun r n => r.push (UInt8.ofNat n.toNat)) b).data.toList = b.data.toList ++ ns.map fun n => UInt8.ofNat n.toNat := by
  induction ns generalizing b with
  | nil => simp
  | cons n ns ih => rw [List.foldl_cons, ih]; simp [ByteArray.push]
theorem bstr_list (l : List Nat) : (bstr l).toList = l.map UInt8.ofNat := by
  rw [ByteArray.toList_eq]
  unfold bstr pushAll
  rw [pushAll_list]
  simp [List.map_map, Function.comp_def]
/-- Numbers that are bytes. -/
def Byte (l : List Nat) : Prop := ∀ n ∈ l, n < 256
theorem ofNat_inj {a b : Nat} (ha : a < 256) (hb : b < 256) (h : UInt8.ofNat a = UInt8.ofNat b) : a = b := by
  have := congrArg UInt8.toNat h
  simpa [Nat.mod_eq_of_lt ha, Nat.mod_eq_of_lt hb] using this
theorem map_byte : ∀ {l m : List Nat}, Byte l → Byte m → l.map UInt8.ofNat = m.map UInt8.ofNat → l = m
  | [], [], _, _, _ => rfl
  | [], _ :: _, _, _, h => by simp at h
  | _ :: _, [], _, _, h => by simp at h
  | a :: l, b :: m, hl, hm, h => by
    simp only [List.map_cons, List.cons.injEq] at h
    rw [ofNat_inj (hl a (by simp)) (hm b (by simp)) h.1, map_byte (fun n hn => hl n (by simp [hn])) (fun n hn => hm n (by simp [hn])) h.2]
theorem bstr_beq {l m : List Nat} (hl : Byte l) (hm : Byte m) : ((bstr l).toList == (bstr m).toList) = decide (l = m) := by
  rw [bstr_list, bstr_list, Bool.eq_iff_iff]
  simp only [beq_iff_eq, decide_eq_true_eq]
  exact ⟨map_byte hl hm, fun h => by rw [h]⟩
theorem drop_bys (l : List Nat) (k : Nat) : (bys l).drop k = bys (l.drop k) := by simp [bys, List.map_drop]
theorem take_bys (l : List Nat) (k : Nat) : (bys l).take k = bys (l.take k) := by simp [bys, List.map_take]
/-! ### shown -/
def num10 (n : Int) : Val := ⟨1, n, noS⟩
theorem mayV_num (n : Int) : mayV (num10 n) = true := by simp [mayV, num10, noS_toList]
theorem plainP_num {l : List Val} (h : ∀ v ∈ l, ∃ n, v = num10 n) (hl : l.length ≤ 4096) : plainP l 1 = 0 := by
  have h1 : l.any (fun v => !decide (v.kind = 1)) = false := by
    rw [List.any_eq_false]
    intro v hv
    obtain ⟨n, rfl⟩ := h v hv
    simp [num10]
  have h2 : l.any (fun v => !mayV v) = false := by
    rw [List.any_eq_false]
    intro v hv
    obtain ⟨n, rfl⟩ := h v hv
    simp [mayV_num]
  unfold plainP
  rw [h1, h2]
  simp [kindsP, show ¬ 4096 < l.length by omega]
theorem putP_byte : ∀ (k n : Nat), n < 128 ^ k → Byte (putP n) := by
  intro k
  induction k with
  | zero => intro n hn m hm; rw [putP_small (by omega)] at hm; simp at hm; omega
  | succ k ih =>
    intro n hn
    by_cases h : n < 128
    · rw [putP_small h]; intro m hm; simp at hm; omega
    · rw [putP_big h]
      intro m hm
      rcases List.mem_cons.1 hm with rfl | hm
      · omega
      · exact ih (n / 128) (by rw [Nat.div_lt_iff_lt_mul (by decide)]; exact hn) m hm
theorem putP_byte64 {n : Nat} (h : n < 18446744073709551616) : Byte (putP n) := putP_byte 10 n (by omega)
theorem packP_byte (l : List Nat) (w : Nat) : Byte (packP l w) := by
  intro n hn
  unfold packP packB at hn
  obtain ⟨i, _, rfl⟩ := List.mem_map.1 hn
  exact byteAt_lt _ _
theorem Byte.app {l m : List Nat} (hl : Byte l) (hm : Byte m) : Byte (l ++ m) := fun n hn => by
  rcases List.mem_append.1 hn with h | h
  · exact hl n h
  · exact hm n h
theorem bytesD_byte (l : List Val) (hok : ∀ v ∈ l, I64 v.i) : Byte (bytesD l) := by
  cases l with
  | nil => intro n hn; simp [bytesD] at hn
  | cons v r =>
    have h := hok v (by simp)
    exact ((putP_byte64 (zigP_lt h.1 h.2)).app (putP_byte64 (by have := widthP_le (stepsP_lt (v :: r)); omega))).app (packP_byte _ _)
theorem deltaR_ok {l : List Val} (h : ∀ v ∈ l, ∃ n, v = num10 n) (hl : l.length ≤ 4096) (h0 : l ≠ []) : deltaR l = .tup [.d (.list false (bys (bytesD l))), iA 0] := by
  unfold deltaR
  rw [if_pos ⟨plainP_num h hl, h0⟩]
theorem ex_steps : stepsP [num10 3, num10 5, num10 4] = [4, 1] := by decide +kernel
theorem ex_bytes : bytesD [num10 3, num10 5, num10 4] = [6, 3, 12] := by
  unfold bytesD
  rw [ex_steps]
  have h1 : zigP (num10 3).i = 6 := by decide
  have h2 : widthP [4, 1] = 3 := by decide
  have h3 : packP [4, 1] 3 = [12] := by decide +kernel
  simp only [num10]
  rw [show zigP 3 = 6 by decide, h2, h3, putP_small (by decide), putP_small (by decide)]
  rfl
theorem ex_sorted : sortedP [num10 3, num10 5, num10 4] = false := by decide +kernel
set_option maxRecDepth 10000 in
set_option maxHeartbeats 1000000 in
theorem shown10_does (H : AHeap) : Does Try.prog 8 [] H (.ok (bA true)) H := by
  have hn : ∀ v ∈ [num10 3, num10 5, num10 4], ∃ n, v = num10 n := by intro v hv; simp at hv; rcases hv with rfl | rfl | rfl <;> exact ⟨_, rfl⟩
  have hok : ∀ v ∈ [num10 3, num10 5, num10 4], I64 v.i := by simp [num10, I64]
  have hd := dbytes_does [num10 3, num10 5, num10 4] hok true H (by simp)
  rw [deltaR_ok hn (by simp) (by simp), ex_bytes] at hd
  have hs := steps_does [num10 3, num10 5, num10 4] true H (by simp)
  rw [ex_steps] at hs
  have hq := sorted_does [num10 3, num10 5, num10 4] true H (by simp)
  rw [ex_sorted] at hq
  have e1 : (pushAll [6, 3, 12]).toList = [6, 3, 12] := bstr_list [6, 3, 12]
  have e2 : (⟨#[6, 3, 12]⟩ : ByteArray).toList = [6, 3, 12] := by rw [ByteArray.toList_eq]
  have e : ((pushAll [6, 3, 12]).toList == (⟨#[6, 3, 12]⟩ : ByteArray).toList) = true := by rw [e1, e2]; decide
  refine Does.of_awp (hint := (fun _ => false)) Try.func8 (by kernel_rfl) rfl [0] (by kernel_rfl) (by decide) (by simp [Try.ntmps8]) ?_
  rw [Try.ntmps8]
  simp (implicitDefEqProofs := false) only [↓reduceIte, go_sem, oread, owrite, Nat.reduceAdd, Nat.reduceSub, Nat.reduceMul, Nat.reduceLT, Nat.reduceLeDiff, Nat.reduceEqDiff, Nat.reduceBEq, Int.reduceLE, Int.reduceLT, Int.reduceEq, Int.reduceNe, Int.reduceAdd, Int.reduceSub, Int.reduceMul, Int.reduceNeg, Int.reduceToNat, Int.reduceNatCast, reduceCtorEq, eq_self]
  refine KCall.ok hd ?_
  simp (implicitDefEqProofs := false) only [↓reduceIte, go_sem, oread, owrite, Nat.reduceAdd, Nat.reduceSub, Nat.reduceMul, Nat.reduceLT, Nat.reduceLeDiff, Nat.reduceEqDiff, Nat.reduceBEq, Int.reduceLE, Int.reduceLT, Int.reduceEq, Int.reduceNe, Int.reduceAdd, Int.reduceSub, Int.reduceMul, Int.reduceNeg, Int.reduceToNat, Int.reduceNatCast, reduceCtorEq, eq_self]
  refine KCall.ok hs ?_
  simp (implicitDefEqProofs := false) only [↓reduceIte, go_sem, oread, owrite, Nat.reduceAdd, Nat.reduceSub, Nat.reduceMul, Nat.reduceLT, Nat.reduceLeDiff, Nat.reduceEqDiff, Nat.reduceBEq, Int.reduceLE, Int.reduceLT, Int.reduceEq, Int.reduceNe, Int.reduceAdd, Int.reduceSub, Int.reduceMul, Int.reduceNeg, Int.reduceToNat, Int.reduceNatCast, reduceCtorEq, eq_self]
  refine KCall.ok (same01_does [4, 1] [4, 1] false true _ (by simp)) ?_
  simp (implicitDefEqProofs := false) only [↓reduceIte, go_sem, oread, owrite, Nat.reduceAdd, Nat.reduceSub, Nat.reduceMul, Nat.reduceLT, Nat.reduceLeDiff, Nat.reduceEqDiff, Nat.reduceBEq, Int.reduceLE, Int.reduceLT, Int.reduceEq, Int.reduceNe, Int.reduceAdd, Int.reduceSub, Int.reduceMul, Int.reduceNeg, Int.reduceToNat, Int.reduceNatCast, reduceCtorEq, eq_self, asBytes_bys, e]
  refine KCall.ok hq ?_
  simp (implicitDefEqProofs := false) only [↓reduceIte, go_sem, oread, owrite, Nat.reduceAdd, Nat.reduceSub, Nat.reduceMul, Nat.reduceLT, Nat.reduceLeDiff, Nat.reduceEqDiff, Nat.reduceBEq, Int.reduceLE, Int.reduceLT, Int.reduceEq, Int.reduceNe, Int.reduceAdd, Int.reduceSub, Int.reduceMul, Int.reduceNeg, Int.reduceToNat, Int.reduceNatCast, reduceCtorEq, eq_self]
  refine AEnd.ret0 ?_
  simp (implicitDefEqProofs := false) only [↓reduceIte, go_sem, oread, owrite, Nat.reduceAdd, Nat.reduceSub, Nat.reduceMul, Nat.reduceLT, Nat.reduceLeDiff, Nat.reduceEqDiff, Nat.reduceBEq, Int.reduceLE, Int.reduceLT, Int.reduceEq, Int.reduceNe, Int.reduceAdd, Int.reduceSub, Int.reduceMul, Int.reduceNeg, Int.reduceToNat, Int.reduceNatCast, reduceCtorEq, eq_self]
end Go.Proofs.Ytcdnbefcccdaeaa

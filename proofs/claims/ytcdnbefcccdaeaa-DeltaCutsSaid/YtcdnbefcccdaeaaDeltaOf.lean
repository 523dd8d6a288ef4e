/- delta.Of: what it does. -/
import Derived.Test.YtcdnbefcccdaeaaUnpack
import Derived.Test.YtcdnbefcccdaeaaLaw10
namespace Go.Proofs.Ytcdnbefcccdaeaa
open Go.Proofs.YtcdnbefcccdaeaaAw Go.RowKit
set_option linter.unusedVariables false
set_option linter.unusedSimpArgs false
/-! ### Numbers by their steps -/
def sumN (x : Int) (S : List Nat) : Nat → Int
  | 0 => x
  | k + 1 => IntKind.i64.wrap (sumN x S k + zagP (S.getD k 0))
def sumL (x : Int) (S : List Nat) (n : Nat) : List Val := (List.range n).map fun k => num10 (sumN x S k)
theorem sumL_len (x : Int) (S : List Nat) (n : Nat) : (sumL x S n).length = n := by simp [sumL]
theorem sumL_succ (x : Int) (S : List Nat) (n : Nat) : sumL x S (n + 1) = sumL x S n ++ [num10 (sumN x S n)] := by simp [sumL, List.range_succ]
theorem sumL_get (x : Int) (S : List Nat) {n k : Nat} (h : k < n) : (sumL x S n)[k]? = some (num10 (sumN x S k)) := by simp [sumL, h]
def ofB (b : List Nat) (n : Nat) : Option (List Val) × Int :=
  if (getP b).2.2 ≠ 0 then (none, (getP b).2.2)
  else if (getP (b.drop (getP b).2.1)).2.2 ≠ 0 then (none, (getP (b.drop (getP b).2.1)).2.2)
  else if 64 < (getP (b.drop (getP b).2.1)).1 then (none, 4)
  else if unpackE (b.drop ((getP b).2.1 + (getP (b.drop (getP b).2.1)).2.1)) (n - 1) (getP (b.drop (getP b).2.1)).1 ≠ 0 then (none, unpackE (b.drop ((getP b).2.1 + (getP (b.drop (getP b).2.1)).2.1)) (n - 1) (getP (b.drop (getP b).2.1)).1)
  else if widthP (unpackL (b.drop ((getP b).2.1 + (getP (b.drop (getP b).2.1)).2.1)) (n - 1) (getP (b.drop (getP b).2.1)).1) ≠ (getP (b.drop (getP b).2.1)).1 then (none, 4)
  else (some (sumL (zagP (getP b).1) (unpackL (b.drop ((getP b).2.1 + (getP (b.drop (getP b).2.1)).2.1)) (n - 1) (getP (b.drop (getP b).2.1)).1) n), 0)
def ofR (b : List Nat) (n : Int) : Option (List Val) × Int :=
  if n < 0 ∨ 4096 < n then (none, 2)
  else if n = 0 then (none, if 0 < b.length then 4 else 0)
  else ofB b n.toNat
def valsA : Option (List Val) → AV
  | some l => .d (.list false (l.map Val.enc))
  | none => .d (.v (.slice none 0 0))
theorem getP_le (b : List Nat) : (getP b).2.1 ≤ b.length := by
  unfold getP
  split <;> simp
theorem numP_lt : ∀ (k acc : Nat) (b : List Nat) (n : Nat), acc < 128 ^ (10 - k) → k ≤ 10 → (numP k acc b).1 = .ok n → n < 18446744073709551616
  | 0, _, _, _, _, _, h => by simp [numP] at h
  | _ + 1, _, [], _, _, _, h => by simp [numP] at h
  | k + 1, acc, c :: b, n, ha, hk, h => by
    have hm : c % 128 < 128 := Nat.mod_lt _ (by decide)
    have hi : 10 - (k + 1) = 9 - k := by omega
    rw [hi] at ha
    have hA : acc + c % 128 * 128 ^ (9 - k) < 128 ^ (9 - k) * 128 := by
      have : c % 128 * 128 ^ (9 - k) ≤ 127 * 128 ^ (9 - k) := Nat.mul_le_mul_right _ (by omega)
      omega
    simp only [numP] at h
    split at h
    · cases h
    · rename_i hbad
      split at h
      · cases h
        by_cases h0 : k = 0
        · subst h0
          have hc : c % 128 ≤ 1 := by omega
          have h2 : c % 128 * 128 ^ 9 ≤ 1 * 128 ^ 9 := Nat.mul_le_mul_right _ hc
          simp only [Nat.sub_zero] at ha ⊢
          omega
        · have h9 : 128 ^ (9 - k) ≤ 128 ^ 8 := Nat.pow_le_pow_right (by decide) (by omega)
          omega
      · by_cases h0 : k = 0
        · subst h0; simp [numP] at h
        · refine numP_lt k _ b n ?_ (by omega) h
          rw [show 10 - k = (9 - k) + 1 by omega, Nat.pow_succ]
          exact hA
theorem getP_lt (b : List Nat) : (getP b).1 < 18446744073709551616 := by
  unfold getP
  split
  · rename_i n r h
    exact numP_lt 10 0 b n (by decide) (Nat.le_refl _) (by rw [h])
  · exact (by decide : (0 : Nat) < 18446744073709551616)
theorem unpackL_lt (b : List Nat) (n w : Nat) (hw : w ≤ 64) : ∀ x ∈ unpackL b n w, x < 18446744073709551616 := by
  intro x hx
  obtain ⟨k, _, rfl⟩ := List.mem_map.1 hx
  have h1 := byteOf_lt (((bitsB b).drop (k * w)).take w)
  have h2 : 2 ^ (((bitsB b).drop (k * w)).take w).length ≤ 2 ^ 64 := Nat.pow_le_pow_right (by decide) (by simp; omega)
  unfold partP
  omega
set_option maxRecDepth 10000 in
set_option maxHeartbeats 1000000 in
theorem of_does (b : List Nat) (n : Int) (nn : Bool) (hl : b.length ≤ 140737488351232) (hb : ∀ c ∈ b, c < 256) (H : AHeap) :
    Does Try.prog 15 [.d (.list nn (bys b)), iA n] H (.ok (.tup [valsA (ofR b n).1, iA (ofR b n).2])) H := by
  refine Does.of_awp (hint := (fun t => t == 79)) Try.func15 (by kernel_rfl) rfl [4, 5] (by kernel_rfl) (by decide) (by simp [Try.ntmps15]) ?_
  rw [Try.ntmps15]
  by_cases h1 : n < 0
  · simp (implicitDefEqProofs := false) only [↓reduceIte, go_sem, oread, owrite, Nat.reduceAdd, Nat.reduceSub, Nat.reduceMul, Nat.reduceLT, Nat.reduceLeDiff, Nat.reduceEqDiff, Nat.reduceBEq, Int.reduceLE, Int.reduceLT, Int.reduceEq, Int.reduceNe, Int.reduceAdd, Int.reduceSub, Int.reduceMul, Int.reduceNeg, Int.reduceToNat, Int.reduceNatCast, reduceCtorEq, eq_self, h1]
    refine AEnd.ret0 ?_
    simp (implicitDefEqProofs := false) only [↓reduceIte, go_sem, oread, owrite, Nat.reduceAdd, Nat.reduceSub, Nat.reduceMul, Nat.reduceLT, Nat.reduceLeDiff, Nat.reduceEqDiff, Nat.reduceBEq, Int.reduceLE, Int.reduceLT, Int.reduceEq, Int.reduceNe, Int.reduceAdd, Int.reduceSub, Int.reduceMul, Int.reduceNeg, Int.reduceToNat, Int.reduceNatCast, reduceCtorEq, eq_self]
    simp [ofR, h1, valsA]
  by_cases h2 : 4096 < n
  · simp (implicitDefEqProofs := false) only [↓reduceIte, go_sem, oread, owrite, Nat.reduceAdd, Nat.reduceSub, Nat.reduceMul, Nat.reduceLT, Nat.reduceLeDiff, Nat.reduceEqDiff, Nat.reduceBEq, Int.reduceLE, Int.reduceLT, Int.reduceEq, Int.reduceNe, Int.reduceAdd, Int.reduceSub, Int.reduceMul, Int.reduceNeg, Int.reduceToNat, Int.reduceNatCast, reduceCtorEq, eq_self, h1, h2]
    refine AEnd.ret0 ?_
    simp (implicitDefEqProofs := false) only [↓reduceIte, go_sem, oread, owrite, Nat.reduceAdd, Nat.reduceSub, Nat.reduceMul, Nat.reduceLT, Nat.reduceLeDiff, Nat.reduceEqDiff, Nat.reduceBEq, Int.reduceLE, Int.reduceLT, Int.reduceEq, Int.reduceNe, Int.reduceAdd, Int.reduceSub, Int.reduceMul, Int.reduceNeg, Int.reduceToNat, Int.reduceNatCast, reduceCtorEq, eq_self]
    simp [ofR, h2, valsA]
  by_cases h3 : n = 0
  · subst h3
    by_cases h4 : 0 < b.length
    · have h4' : (0 < (b.length : Int)) = True := eq_true (by omega)
      simp (implicitDefEqProofs := false) only [↓reduceIte, go_sem, oread, owrite, Nat.reduceAdd, Nat.reduceSub, Nat.reduceMul, Nat.reduceLT, Nat.reduceLeDiff, Nat.reduceEqDiff, Nat.reduceBEq, Int.reduceLE, Int.reduceLT, Int.reduceEq, Int.reduceNe, Int.reduceAdd, Int.reduceSub, Int.reduceMul, Int.reduceNeg, Int.reduceToNat, Int.reduceNatCast, reduceCtorEq, eq_self, bys_len, h4']
      refine AEnd.ret0 ?_
      simp (implicitDefEqProofs := false) only [↓reduceIte, go_sem, oread, owrite, Nat.reduceAdd, Nat.reduceSub, Nat.reduceMul, Nat.reduceLT, Nat.reduceLeDiff, Nat.reduceEqDiff, Nat.reduceBEq, Int.reduceLE, Int.reduceLT, Int.reduceEq, Int.reduceNe, Int.reduceAdd, Int.reduceSub, Int.reduceMul, Int.reduceNeg, Int.reduceToNat, Int.reduceNatCast, reduceCtorEq, eq_self]
      simp [ofR, h4, valsA]
    · have h4' : (0 < (b.length : Int)) = False := eq_false (by omega)
      simp (implicitDefEqProofs := false) only [↓reduceIte, go_sem, oread, owrite, Nat.reduceAdd, Nat.reduceSub, Nat.reduceMul, Nat.reduceLT, Nat.reduceLeDiff, Nat.reduceEqDiff, Nat.reduceBEq, Int.reduceLE, Int.reduceLT, Int.reduceEq, Int.reduceNe, Int.reduceAdd, Int.reduceSub, Int.reduceMul, Int.reduceNeg, Int.reduceToNat, Int.reduceNatCast, reduceCtorEq, eq_self, bys_len, h4']
      refine AEnd.ret0 ?_
      simp (implicitDefEqProofs := false) only [↓reduceIte, go_sem, oread, owrite, Nat.reduceAdd, Nat.reduceSub, Nat.reduceMul, Nat.reduceLT, Nat.reduceLeDiff, Nat.reduceEqDiff, Nat.reduceBEq, Int.reduceLE, Int.reduceLT, Int.reduceEq, Int.reduceNe, Int.reduceAdd, Int.reduceSub, Int.reduceMul, Int.reduceNeg, Int.reduceToNat, Int.reduceNatCast, reduceCtorEq, eq_self]
      simp [ofR, h4, valsA]
  have hR : ofR b n = ofB b n.toNat := by simp [ofR, h1, h2, h3]
  rw [hR]
  obtain ⟨m, hm⟩ : ∃ m : Nat, n = ((m + 1 : Nat) : Int) := ⟨n.toNat - 1, by omega⟩
  have hwn : IntKind.i64.wrap (n - 1) = (m : Int) := by rw [wrap64_in _ (by omega) (by omega)]; omega
  unfold ofB
  rw [show n.toNat = m + 1 by omega, show m + 1 - 1 = m from rfl]
  have hgl := getP_le b
  have hglt := getP_lt b
  simp (implicitDefEqProofs := false) only [↓reduceIte, go_sem, oread, owrite, Nat.reduceAdd, Nat.reduceSub, Nat.reduceMul, Nat.reduceLT, Nat.reduceLeDiff, Nat.reduceEqDiff, Nat.reduceBEq, Int.reduceLE, Int.reduceLT, Int.reduceEq, Int.reduceNe, Int.reduceAdd, Int.reduceSub, Int.reduceMul, Int.reduceNeg, Int.reduceToNat, Int.reduceNatCast, reduceCtorEq, eq_self, h1, h2, h3]
  refine KCall.ok (getN_does b nn (by omega) hb H) ?_
  generalize getP b = g1 at *
  obtain ⟨first, k, e⟩ := g1
  simp only at hgl hglt
  by_cases he : e = 0
  · subst he
    have hk0 : ((0 : Int) ≤ (k : Int)) = True := eq_true (by omega)
    simp (implicitDefEqProofs := false) only [↓reduceIte, go_sem, oread, owrite, Nat.reduceAdd, Nat.reduceSub, Nat.reduceMul, Nat.reduceLT, Nat.reduceLeDiff, Nat.reduceEqDiff, Nat.reduceBEq, Int.reduceLE, Int.reduceLT, Int.reduceEq, Int.reduceNe, Int.reduceAdd, Int.reduceSub, Int.reduceMul, Int.reduceNeg, Int.reduceToNat, Int.reduceNatCast, reduceCtorEq, eq_self, bys_one, bys_len, hk0, drop_bys]
    refine ⟨by omega, ?_⟩
    rw [show (bys b).take b.length = bys b from take_len _ _ (bys_len _), drop_bys]
    have hgl2 := getP_le (b.drop k)
    have hglt2 := getP_lt (b.drop k)
    have hb2 : ∀ c ∈ b.drop k, c < 256 := fun c hc => hb c (List.mem_of_mem_drop hc)
    refine KCall.ok (getN_does (b.drop k) false (by simp; omega) hb2 H) ?_
    rw [List.length_drop] at hgl2
    generalize getP (b.drop k) = g2 at *
    obtain ⟨w, j, e⟩ := g2
    simp only at hgl2 hglt2
    by_cases he : e = 0
    · subst he
      by_cases hw : 64 < w
      · have hw' : (64 < (w : Int)) = True := eq_true (by omega)
        simp (implicitDefEqProofs := false) only [↓reduceIte, go_sem, oread, owrite, Nat.reduceAdd, Nat.reduceSub, Nat.reduceMul, Nat.reduceLT, Nat.reduceLeDiff, Nat.reduceEqDiff, Nat.reduceBEq, Int.reduceLE, Int.reduceLT, Int.reduceEq, Int.reduceNe, Int.reduceAdd, Int.reduceSub, Int.reduceMul, Int.reduceNeg, Int.reduceToNat, Int.reduceNatCast, reduceCtorEq, eq_self, hw']
        refine AEnd.ret0 ?_
        simp (implicitDefEqProofs := false) only [↓reduceIte, go_sem, oread, owrite, Nat.reduceAdd, Nat.reduceSub, Nat.reduceMul, Nat.reduceLT, Nat.reduceLeDiff, Nat.reduceEqDiff, Nat.reduceBEq, Int.reduceLE, Int.reduceLT, Int.reduceEq, Int.reduceNe, Int.reduceAdd, Int.reduceSub, Int.reduceMul, Int.reduceNeg, Int.reduceToNat, Int.reduceNatCast, reduceCtorEq, eq_self]
        simp [hw, valsA]
      · have hw' : (64 < (w : Int)) = False := eq_false (by omega)
        have hkj : IntKind.i64.wrap ((k : Int) + (j : Int)) = ((k + j : Nat) : Int) := by rw [wrap64_in _ (by omega) (by omega)]; rfl
        have hww : IntKind.i64.wrap (w : Int) = (w : Int) := wrap64_in _ (by omega) (by omega)
        obtain ⟨p, hp⟩ : ∃ p, p = k + j := ⟨_, rfl⟩
        rw [← hp] at hkj
        simp only [← hp]
        have hp0 : ((0 : Int) ≤ (p : Int)) = True := eq_true (by omega)
        simp (implicitDefEqProofs := false) only [↓reduceIte, go_sem, oread, owrite, Nat.reduceAdd, Nat.reduceSub, Nat.reduceMul, Nat.reduceLT, Nat.reduceLeDiff, Nat.reduceEqDiff, Nat.reduceBEq, Int.reduceLE, Int.reduceLT, Int.reduceEq, Int.reduceNe, Int.reduceAdd, Int.reduceSub, Int.reduceMul, Int.reduceNeg, Int.reduceToNat, Int.reduceNatCast, reduceCtorEq, eq_self, hw', hkj, hww, hwn, bys_one, bys_len, hp0]
        refine ⟨by omega, ?_⟩
        rw [show (bys b).take b.length = bys b from take_len _ _ (bys_len _), drop_bys]
        have hb3 : ∀ c ∈ b.drop p, c < 256 := fun c hc => hb c (List.mem_of_mem_drop hc)
        have hSl := unpackL_lt (b.drop p) m w (by omega)
        have hSn := unpackL_len (b.drop p) m w
        have hu := unpack_does (b.drop p) m w false (by simp; omega) hb3 (by omega) (by omega) H
        unfold unpackA at hu
        generalize unpackL (b.drop p) m w = S at *
        by_cases hue : unpackE (b.drop p) m w = 0
        · rw [hue] at hu ⊢
          refine KCall.ok hu ?_
          simp (implicitDefEqProofs := false) only [↓reduceIte, go_sem, oread, owrite, Nat.reduceAdd, Nat.reduceSub, Nat.reduceMul, Nat.reduceLT, Nat.reduceLeDiff, Nat.reduceEqDiff, Nat.reduceBEq, Int.reduceLE, Int.reduceLT, Int.reduceEq, Int.reduceNe, Int.reduceAdd, Int.reduceSub, Int.reduceMul, Int.reduceNeg, Int.reduceToNat, Int.reduceNatCast, reduceCtorEq, eq_self]
          refine KCall.ok (width_does S false H (by omega) hSl) ?_
          by_cases hwd : widthP S = w
          · have hwd' : (((widthP S : Nat) : Int) = (w : Int)) = True := eq_true (by omega)
            simp (implicitDefEqProofs := false) only [↓reduceIte, go_sem, oread, owrite, Nat.reduceAdd, Nat.reduceSub, Nat.reduceMul, Nat.reduceLT, Nat.reduceLeDiff, Nat.reduceEqDiff, Nat.reduceBEq, Int.reduceLE, Int.reduceLT, Int.reduceEq, Int.reduceNe, Int.reduceAdd, Int.reduceSub, Int.reduceMul, Int.reduceNeg, Int.reduceToNat, Int.reduceNatCast, reduceCtorEq, eq_self, hww, hwd']
            refine KCall.ok (zag_does first hglt H) ?_
            simp (implicitDefEqProofs := false) only [↓reduceIte, go_sem, oread, owrite, Nat.reduceAdd, Nat.reduceSub, Nat.reduceMul, Nat.reduceLT, Nat.reduceLeDiff, Nat.reduceEqDiff, Nat.reduceBEq, Int.reduceLE, Int.reduceLT, Int.reduceEq, Int.reduceNe, Int.reduceAdd, Int.reduceSub, Int.reduceMul, Int.reduceNeg, Int.reduceToNat, Int.reduceNatCast, reduceCtorEq, eq_self, us_len, hSn]
            refine awp_for (fun i s H' => H' = H ++ [.arr 26 3 i ((sumL (zagP first) S (i + 1)).map Val.enc)] ∧ s 12 = .sl H.length i 0 (i + 1) ∧ s 80 = .d (.list false (us S)) ∧ s 81 = iA m ∧ s 82 = iA i) m (by omega) (Weak.refl _ _) ?_ ?_ ?_
            · refine ⟨?_, ?_⟩
              · simp (implicitDefEqProofs := false) only [↓reduceIte, go_sem, oread, owrite, Nat.reduceAdd, Nat.reduceSub, Nat.reduceMul, Nat.reduceLT, Nat.reduceLeDiff, Nat.reduceEqDiff, Nat.reduceBEq, Int.reduceLE, Int.reduceLT, Int.reduceEq, Int.reduceNe, Int.reduceAdd, Int.reduceSub, Int.reduceMul, Int.reduceNeg, Int.reduceToNat, Int.reduceNatCast, reduceCtorEq, eq_self]
                rfl
              · simp (implicitDefEqProofs := false) only [↓reduceIte, go_sem, oread, owrite, Nat.reduceAdd, Nat.reduceSub, Nat.reduceMul, Nat.reduceLT, Nat.reduceLeDiff, Nat.reduceEqDiff, Nat.reduceBEq, Int.reduceLE, Int.reduceLT, Int.reduceEq, Int.reduceNe, Int.reduceAdd, Int.reduceSub, Int.reduceMul, Int.reduceNeg, Int.reduceToNat, Int.reduceNatCast, reduceCtorEq, eq_self]
            · rintro i s H' hi hw2 ⟨rfl, t12, t80, t81, t82⟩
              have hx := us_get S i (by omega)
              have hgd : S.getD i 0 = S[i]'(by omega) := by simp [List.getD, show i < S.length by omega]
              have hsx := hSl _ (List.getElem_mem (show i < S.length by omega))
              have hsu : sumL (zagP first) S (i + 1 + 1) = sumL (zagP first) S (i + 1) ++ [num10 (IntKind.i64.wrap (sumN (zagP first) S i + zagP (S[i]'(by omega))))] := by rw [sumL_succ, ← hgd]; rfl
              have hlst := sumL_get (zagP first) S (show i < i + 1 by omega)
              have hln := sumL_len (zagP first) S (i + 1)
              generalize S[i]'(by omega) = x at hx hsx hsu
              rw [hsu]
              generalize sumN (zagP first) S i = y at *
              generalize sumL (zagP first) S (i + 1) = L at *
              simp (implicitDefEqProofs := false) only [↓reduceIte, go_sem, oread, owrite, Nat.reduceAdd, Nat.reduceSub, Nat.reduceMul, Nat.reduceLT, Nat.reduceLeDiff, Nat.reduceEqDiff, Nat.reduceBEq, Int.reduceLE, Int.reduceLT, Int.reduceEq, Int.reduceNe, Int.reduceAdd, Int.reduceSub, Int.reduceMul, Int.reduceNeg, Int.reduceToNat, Int.reduceNatCast, reduceCtorEq, eq_self, t12, t80, t81, t82, hi, hx]
              have hii : ((i : Int) < (i : Int) + 1) = True := eq_true (by omega)
              refine awp_drawK 11 K.mixed (by kernel_rfl) (by kernel_rfl) ?_
              simp (implicitDefEqProofs := false) only [↓reduceIte, go_sem, oread, owrite, Nat.reduceAdd, Nat.reduceSub, Nat.reduceMul, Nat.reduceLT, Nat.reduceLeDiff, Nat.reduceEqDiff, Nat.reduceBEq, Int.reduceLE, Int.reduceLT, Int.reduceEq, Int.reduceNe, Int.reduceAdd, Int.reduceSub, Int.reduceMul, Int.reduceNeg, Int.reduceToNat, Int.reduceNatCast, reduceCtorEq, eq_self, t12, hlst, hln, hii, Val.enc, num10]
              refine KCall.ok (zag_does x hsx _) ?_
              have hsn : L.map Val.enc ++ [[D.v (.int .i64 1), D.v (.int .i64 (IntKind.i64.wrap (y + zagP x))), D.v (.string ⟨#[]⟩)]] = (L ++ [num10 (IntKind.i64.wrap (y + zagP x))]).map Val.enc := by simp [Val.enc, num10, noS]
              simp (implicitDefEqProofs := false) only [↓reduceIte, go_sem, oread, owrite, Nat.reduceAdd, Nat.reduceSub, Nat.reduceMul, Nat.reduceLT, Nat.reduceLeDiff, Nat.reduceEqDiff, Nat.reduceBEq, Int.reduceLE, Int.reduceLT, Int.reduceEq, Int.reduceNe, Int.reduceAdd, Int.reduceSub, Int.reduceMul, Int.reduceNeg, Int.reduceToNat, Int.reduceNatCast, reduceCtorEq, eq_self, List.length_map, hln, hsn]
              refine ⟨by omega, by omega, ?_⟩
              simp (implicitDefEqProofs := false) only [↓reduceIte, go_sem, oread, owrite, Nat.reduceAdd, Nat.reduceSub, Nat.reduceMul, Nat.reduceLT, Nat.reduceLeDiff, Nat.reduceEqDiff, Nat.reduceBEq, Int.reduceLE, Int.reduceLT, Int.reduceEq, Int.reduceNe, Int.reduceAdd, Int.reduceSub, Int.reduceMul, Int.reduceNeg, Int.reduceToNat, Int.reduceNatCast, reduceCtorEq, eq_self, t82]
              refine Rnd.same ⟨?_, ?_⟩
              · simp (implicitDefEqProofs := false) only [↓reduceIte, go_sem, oread, owrite, Nat.reduceAdd, Nat.reduceSub, Nat.reduceMul, Nat.reduceLT, Nat.reduceLeDiff, Nat.reduceEqDiff, Nat.reduceBEq, Int.reduceLE, Int.reduceLT, Int.reduceEq, Int.reduceNe, Int.reduceAdd, Int.reduceSub, Int.reduceMul, Int.reduceNeg, Int.reduceToNat, Int.reduceNatCast, reduceCtorEq, eq_self]
              · simp (implicitDefEqProofs := false) only [↓reduceIte, go_sem, oread, owrite, Nat.reduceAdd, Nat.reduceSub, Nat.reduceMul, Nat.reduceLT, Nat.reduceLeDiff, Nat.reduceEqDiff, Nat.reduceBEq, Int.reduceLE, Int.reduceLT, Int.reduceEq, Int.reduceNe, Int.reduceAdd, Int.reduceSub, Int.reduceMul, Int.reduceNeg, Int.reduceToNat, Int.reduceNatCast, reduceCtorEq, eq_self, t80, t81, t82, hw2]
            · rintro s H' ⟨rfl, t12, t80, t81, t82⟩
              simp (implicitDefEqProofs := false) only [↓reduceIte, go_sem, oread, owrite, Nat.reduceAdd, Nat.reduceSub, Nat.reduceMul, Nat.reduceLT, Nat.reduceLeDiff, Nat.reduceEqDiff, Nat.reduceBEq, Int.reduceLE, Int.reduceLT, Int.reduceEq, Int.reduceNe, Int.reduceAdd, Int.reduceSub, Int.reduceMul, Int.reduceNeg, Int.reduceToNat, Int.reduceNatCast, reduceCtorEq, eq_self, t12, t81, t82]
              refine AEnd.ret ?_
              simp (implicitDefEqProofs := false) only [↓reduceIte, go_sem, oread, owrite, Nat.reduceAdd, Nat.reduceSub, Nat.reduceMul, Nat.reduceLT, Nat.reduceLeDiff, Nat.reduceEqDiff, Nat.reduceBEq, Int.reduceLE, Int.reduceLT, Int.reduceEq, Int.reduceNe, Int.reduceAdd, Int.reduceSub, Int.reduceMul, Int.reduceNeg, Int.reduceToNat, Int.reduceNatCast, reduceCtorEq, eq_self]
              rw [show ((sumL (zagP first) S (m + 1)).map Val.enc).take (m + 1) = (sumL (zagP first) S (m + 1)).map Val.enc from take_len _ _ (by rw [List.length_map, sumL_len])]
              simp [hw, hwd, valsA]
          · have hwd' : (((widthP S : Nat) : Int) = (w : Int)) = False := eq_false (by omega)
            simp (implicitDefEqProofs := false) only [↓reduceIte, go_sem, oread, owrite, Nat.reduceAdd, Nat.reduceSub, Nat.reduceMul, Nat.reduceLT, Nat.reduceLeDiff, Nat.reduceEqDiff, Nat.reduceBEq, Int.reduceLE, Int.reduceLT, Int.reduceEq, Int.reduceNe, Int.reduceAdd, Int.reduceSub, Int.reduceMul, Int.reduceNeg, Int.reduceToNat, Int.reduceNatCast, reduceCtorEq, eq_self, hww, hwd']
            refine AEnd.ret0 ?_
            simp (implicitDefEqProofs := false) only [↓reduceIte, go_sem, oread, owrite, Nat.reduceAdd, Nat.reduceSub, Nat.reduceMul, Nat.reduceLT, Nat.reduceLeDiff, Nat.reduceEqDiff, Nat.reduceBEq, Int.reduceLE, Int.reduceLT, Int.reduceEq, Int.reduceNe, Int.reduceAdd, Int.reduceSub, Int.reduceMul, Int.reduceNeg, Int.reduceToNat, Int.reduceNatCast, reduceCtorEq, eq_self]
            simp [hw, hwd, valsA]
        · rw [if_neg hue] at hu
          refine KCall.ok hu ?_
          simp (implicitDefEqProofs := false) only [↓reduceIte, go_sem, oread, owrite, Nat.reduceAdd, Nat.reduceSub, Nat.reduceMul, Nat.reduceLT, Nat.reduceLeDiff, Nat.reduceEqDiff, Nat.reduceBEq, Int.reduceLE, Int.reduceLT, Int.reduceEq, Int.reduceNe, Int.reduceAdd, Int.reduceSub, Int.reduceMul, Int.reduceNeg, Int.reduceToNat, Int.reduceNatCast, reduceCtorEq, eq_self, hue]
          refine AEnd.ret0 ?_
          simp (implicitDefEqProofs := false) only [↓reduceIte, go_sem, oread, owrite, Nat.reduceAdd, Nat.reduceSub, Nat.reduceMul, Nat.reduceLT, Nat.reduceLeDiff, Nat.reduceEqDiff, Nat.reduceBEq, Int.reduceLE, Int.reduceLT, Int.reduceEq, Int.reduceNe, Int.reduceAdd, Int.reduceSub, Int.reduceMul, Int.reduceNeg, Int.reduceToNat, Int.reduceNatCast, reduceCtorEq, eq_self]
          simp [hw, hue, valsA]
    · simp (implicitDefEqProofs := false) only [↓reduceIte, go_sem, oread, owrite, Nat.reduceAdd, Nat.reduceSub, Nat.reduceMul, Nat.reduceLT, Nat.reduceLeDiff, Nat.reduceEqDiff, Nat.reduceBEq, Int.reduceLE, Int.reduceLT, Int.reduceEq, Int.reduceNe, Int.reduceAdd, Int.reduceSub, Int.reduceMul, Int.reduceNeg, Int.reduceToNat, Int.reduceNatCast, reduceCtorEq, eq_self, he]
      refine AEnd.ret0 ?_
      simp (implicitDefEqProofs := false) only [↓reduceIte, go_sem, oread, owrite, Nat.reduceAdd, Nat.reduceSub, Nat.reduceMul, Nat.reduceLT, Nat.reduceLeDiff, Nat.reduceEqDiff, Nat.reduceBEq, Int.reduceLE, Int.reduceLT, Int.reduceEq, Int.reduceNe, Int.reduceAdd, Int.reduceSub, Int.reduceMul, Int.reduceNeg, Int.reduceToNat, Int.reduceNatCast, reduceCtorEq, eq_self]
      simp [he, valsA]
  · simp (implicitDefEqProofs := false) only [↓reduceIte, go_sem, oread, owrite, Nat.reduceAdd, Nat.reduceSub, Nat.reduceMul, Nat.reduceLT, Nat.reduceLeDiff, Nat.reduceEqDiff, Nat.reduceBEq, Int.reduceLE, Int.reduceLT, Int.reduceEq, Int.reduceNe, Int.reduceAdd, Int.reduceSub, Int.reduceMul, Int.reduceNeg, Int.reduceToNat, Int.reduceNatCast, reduceCtorEq, eq_self, he]
    refine AEnd.ret0 ?_
    simp (implicitDefEqProofs := false) only [↓reduceIte, go_sem, oread, owrite, Nat.reduceAdd, Nat.reduceSub, Nat.reduceMul, Nat.reduceLT, Nat.reduceLeDiff, Nat.reduceEqDiff, Nat.reduceBEq, Int.reduceLE, Int.reduceLT, Int.reduceEq, Int.reduceNe, Int.reduceAdd, Int.reduceSub, Int.reduceMul, Int.reduceNeg, Int.reduceToNat, Int.reduceNatCast, reduceCtorEq, eq_self]
    simp [he, valsA]
end Go.Proofs.Ytcdnbefcccdaeaa

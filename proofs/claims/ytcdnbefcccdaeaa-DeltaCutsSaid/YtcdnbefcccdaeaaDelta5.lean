/- What is laid down is read, and the other way round: plain facts about bytes. -/
import Derived.Test.YtcdnbefcccdaeaaDeltaOf
namespace Go.Proofs.Ytcdnbefcccdaeaa
open Go.Proofs.YtcdnbefcccdaeaaAw Go.RowKit
set_option linter.unusedVariables false
set_option linter.unusedSimpArgs false
/-! ### Numbers -/
theorem numP_put : ∀ (k acc n : Nat) (r : List Nat), k ≤ 9 → acc + n * 128 ^ (9 - k) < 18446744073709551616 → (9 ≤ k ∨ n ≠ 0) → numP (k + 1) acc (putP n ++ r) = (.ok (acc + n * 128 ^ (9 - k)), r) := by
  intro k
  induction k with
  | zero =>
    intro acc n r hk h hn
    have : n ≤ 1 := by
      rcases Nat.lt_or_ge n 2 with h' | h'
      · omega
      · have : 2 * 128 ^ 9 ≤ n * 128 ^ 9 := Nat.mul_le_mul_right _ h'
        simp only [Nat.sub_zero] at h
        omega
    rw [putP_small (by omega)]
    have hb : ¬ ((0 = 0 ∧ 1 < n) ∨ (0 < 9 ∧ n = 0)) := by omega
    rw [List.singleton_append]
    unfold numP
    rw [if_neg hb, if_pos (show n < 128 by omega), Nat.mod_eq_of_lt (show n < 128 by omega)]
  | succ k ih =>
    intro acc n r hk h hn
    by_cases hlt : n < 128
    · rw [putP_small hlt]
      have hb : ¬ ((k + 1 = 0 ∧ 1 < n) ∨ (k + 1 < 9 ∧ n = 0)) := by omega
      rw [List.singleton_append]
      unfold numP
      rw [if_neg hb, if_pos hlt, Nat.mod_eq_of_lt hlt]
    · rw [putP_big hlt]
      have hb : ¬ ((k + 1 = 0 ∧ 1 < n % 128 + 128) ∨ (k + 1 < 9 ∧ n % 128 + 128 = 0)) := by omega
      have hc : (n % 128 + 128) % 128 = n % 128 := by omega
      rw [List.cons_append]
      unfold numP
      rw [if_neg hb, if_neg (show ¬ n % 128 + 128 < 128 by omega), hc]
      have e : 9 - k = (9 - (k + 1)) + 1 := by omega
      have hp : n / 128 * 128 ^ (9 - k) = n / 128 * 128 * 128 ^ (9 - (k + 1)) := by rw [e, Nat.pow_succ, Nat.mul_comm (128 ^ _) 128, Nat.mul_assoc]
      have hs : acc + n % 128 * 128 ^ (9 - (k + 1)) + n / 128 * 128 ^ (9 - k) = acc + n * 128 ^ (9 - (k + 1)) := by
        rw [hp, Nat.add_assoc, ← Nat.add_mul]
        congr 2
        omega
      rw [ih _ _ r (by omega) (by rw [hs]; exact h) (.inr (by omega)), hs]
theorem getP_put (n : Nat) (h : n < 18446744073709551616) (r : List Nat) : getP (putP n ++ r) = (n, (putP n).length, 0) := by
  have := numP_put 9 0 n r (Nat.le_refl _) (by simpa using h) (.inl (Nat.le_refl _))
  unfold getP
  rw [this]
  simp
theorem numP_canon : ∀ (k acc : Nat) (b r : List Nat) (N : Nat), (∀ c ∈ b, c < 256) → k ≤ 9 → numP (k + 1) acc b = (.ok N, r) → ∃ n, b = putP n ++ r ∧ N = acc + n * 128 ^ (9 - k) ∧ (9 ≤ k ∨ n ≠ 0) := by
  intro k
  induction k with
  | zero =>
    intro acc b r N hb hk h
    cases b with
    | nil => simp [numP] at h
    | cons c b =>
      simp only [numP] at h
      split at h
      · simp at h
      · split at h
        · rename_i h1 h2
          simp only [Prod.mk.injEq, Except.ok.injEq] at h
          obtain ⟨rfl, rfl⟩ := h
          refine ⟨c, by rw [putP_small h2]; rfl, by rw [Nat.mod_eq_of_lt h2], .inr (by omega)⟩
        · simp at h
  | succ k ih =>
    intro acc b r N hb hk h
    cases b with
    | nil => simp [numP] at h
    | cons c b =>
      unfold numP at h
      split at h
      · simp at h
      · split at h
        · rename_i h1 h2
          simp only [Prod.mk.injEq, Except.ok.injEq] at h
          obtain ⟨rfl, rfl⟩ := h
          refine ⟨c, by rw [putP_small h2]; rfl, by rw [Nat.mod_eq_of_lt h2], ?_⟩
          omega
        · rename_i h1 h2
          obtain ⟨m, rfl, hN, hm⟩ := ih _ b r N (fun x hx => hb x (by simp [hx])) (by omega) h
          have hc := hb c (by simp)
          have hm0 : m ≠ 0 := by omega
          refine ⟨c % 128 + 128 * m, ?_, ?_, .inr (by omega)⟩
          · rw [putP_big (n := c % 128 + 128 * m) (by omega), show (c % 128 + 128 * m) % 128 + 128 = c by omega, show (c % 128 + 128 * m) / 128 = m by omega]; rfl
          · rw [hN, show 9 - k = (9 - (k + 1)) + 1 by omega, Nat.pow_succ, Nat.add_mul, Nat.add_assoc]
            congr 2
            rw [Nat.mul_comm (128 ^ _) 128, ← Nat.mul_assoc, Nat.mul_comm m 128]
theorem numP_err : ∀ (k acc : Nat) (b r : List Nat) (e : Int), numP k acc b = (.error e, r) → e ≠ 0
  | 0, _, _, _, _, h => by simp only [numP, Prod.mk.injEq, Except.error.injEq] at h; omega
  | _ + 1, _, [], _, _, h => by simp only [numP, Prod.mk.injEq, Except.error.injEq] at h; omega
  | k + 1, acc, c :: b, r, e, h => by
    unfold numP at h
    split at h
    · simp only [Prod.mk.injEq, Except.error.injEq] at h; omega
    · split at h
      · simp at h
      · exact numP_err k _ b r e h
theorem getP_canon {b : List Nat} {n k : Nat} (hb : ∀ c ∈ b, c < 256) (h : getP b = (n, k, 0)) : k = (putP n).length ∧ b = putP n ++ b.drop k := by
  unfold getP at h
  split at h
  · rename_i N r hn
    obtain ⟨m, rfl, hN, _⟩ := numP_canon 9 0 b r N hb (Nat.le_refl _) hn
    simp only [Prod.mk.injEq] at h
    obtain ⟨rfl, rfl, _⟩ := h
    have : N = m := by simpa using hN
    subst this
    refine ⟨by simp, by simp⟩
  · rename_i e r hn
    simp only [Prod.mk.injEq] at h
    exact absurd h.2.2 (numP_err _ _ _ _ _ hn)
/-! ### Bits -/
theorem byteOf_bit : ∀ (l : List Bool) (j : Nat), (byteOf l).testBit j = l.getD j false
  | [], j => by simp [byteOf]
  | b :: r, 0 => by
    rw [Nat.testBit_zero]
    simp only [byteOf, List.getD_cons_zero]
    cases b <;> simp <;> omega
  | b :: r, j + 1 => by
    rw [Nat.testBit_succ]
    have : (byteOf (b :: r)) / 2 = byteOf r := by simp only [byteOf]; cases b <;> simp <;> omega
    rw [this, byteOf_bit r j, List.getD_cons_succ]
theorem bitsN_byteOf (l : List Bool) : bitsN (byteOf l) l.length = l := by
  apply List.ext_getElem
  · rw [bitsN_len]
  · intro i h1 h2
    simp only [bitsN, List.getElem_map, List.getElem_range, byteOf_bit]
    simp [List.getD, h2]
theorem byteOf_bitsN (n w : Nat) (h : n < 2 ^ w) : byteOf (bitsN n w) = n := by
  apply Nat.eq_of_testBit_eq
  intro j
  rw [byteOf_bit]
  by_cases hj : j < w
  · simp [List.getD, bitsN, hj]
  · have : n.testBit j = false := Nat.testBit_lt_two_pow (Nat.lt_of_lt_of_le h (Nat.pow_le_pow_right (by decide) (by omega)))
    simp [List.getD, bitsN, hj, this]
theorem byteOf_pad (l : List Bool) : ∀ m : Nat, byteOf (l ++ List.replicate m false) = byteOf l := by
  intro m
  apply Nat.eq_of_testBit_eq
  intro j
  rw [byteOf_bit, byteOf_bit]
  simp only [List.getD]
  by_cases hj : j < l.length
  · rw [List.getElem?_append_left hj]
  · rw [List.getElem?_append_right (by omega), List.getElem?_eq_none (by omega : l.length ≤ j), List.getElem?_replicate]
    split <;> rfl
theorem byteOf_zero : ∀ l : List Bool, byteOf l = 0 → l = List.replicate l.length false
  | [], _ => rfl
  | b :: r, h => by
    have hb : b = false := by
      cases b
      · rfl
      · simp only [byteOf, Bool.toNat_true] at h; omega
    have hr : byteOf r = 0 := by simp only [byteOf] at h; omega
    rw [List.length_cons, List.replicate_succ, hb, ← byteOf_zero r hr]
/-- The bits of bytes of bits are these and some that are none. -/
theorem bitsB_pack (L : List Bool) : bitsB (packB L) = L ++ List.replicate (8 * ((L.length + 7) / 8) - L.length) false := by
  have hlen : (bitsB (packB L)).length = 8 * ((L.length + 7) / 8) := by rw [bitsB_len, packB_len]
  apply List.ext_getElem
  · rw [hlen, List.length_append, List.length_replicate]; omega
  · intro i h1 h2
    rw [hlen] at h1
    have hq : i / 8 < (L.length + 7) / 8 := by omega
    have hp : (packB L)[i / 8]? = some (byteAt L (i / 8)) := by simp [packB, hq]
    have h3 := bitsB_get (packB L) i _ hp
    rw [List.getElem?_eq_getElem (by rw [hlen]; exact h1)] at h3
    rw [Option.some.inj h3]
    unfold byteAt
    rw [byteOf_bit]
    have h8 : i % 8 < 8 := Nat.mod_lt _ (by decide)
    simp only [List.getD]
    rw [List.getElem?_take_of_lt h8, List.getElem?_drop, show 8 * (i / 8) + i % 8 = i by omega]
    by_cases hi : i < L.length
    · rw [List.getElem_append_left hi, List.getElem?_eq_getElem hi]; rfl
    · rw [List.getElem_append_right (by omega), List.getElem?_eq_none (by omega : L.length ≤ i)]
      simp
theorem bitsL_at : ∀ (S : List Nat) (w k : Nat) (x : Nat), S[k]? = some x → ((bitsL S w).drop (k * w)).take w = bitsN x w
  | [], w, k, x, h => by simp at h
  | y :: S, w, 0, x, h => by
    obtain rfl : y = x := by simpa using h
    have e : bitsL (y :: S) w = bitsN y w ++ bitsL S w := rfl
    rw [e, Nat.zero_mul, List.drop_zero, List.take_append_of_le_length (by rw [bitsN_len]; exact Nat.le_refl _), List.take_of_length_le (by rw [bitsN_len]; exact Nat.le_refl _)]
  | y :: S, w, k + 1, x, h => by
    have e : bitsL (y :: S) w = bitsN y w ++ bitsL S w := rfl
    rw [e, Nat.add_mul, Nat.one_mul, Nat.add_comm, ← List.drop_drop, List.drop_left' (bitsN_len y w)]
    exact bitsL_at S w k x h
/-- What is packed is unpacked. -/
theorem unpack_pack (S : List Nat) (w : Nat) (h : ∀ n ∈ S, n < 2 ^ w) : unpackL (packP S w) S.length w = S ∧ unpackE (packP S w) S.length w = 0 := by
  have hL := bitsL_len S w
  have hB := bitsB_pack (bitsL S w)
  have hpl : (packP S w).length = ((bitsL S w).length + 7) / 8 := packB_len _
  constructor
  · apply List.ext_getElem
    · rw [unpackL_len]
    · intro k h1 h2
      have hx := List.getElem?_eq_getElem h2
      have hlt := h _ (List.getElem_mem h2)
      simp only [unpackL, List.getElem_map, List.getElem_range, partP]
      unfold packP
      rw [hB]
      have hk : k * w + w ≤ (bitsL S w).length := by rw [hL, ← Nat.succ_mul]; exact Nat.mul_le_mul_right _ h2
      rw [List.drop_append_of_le_length (by omega), List.take_append_of_le_length (by rw [List.length_drop]; omega), bitsL_at S w k _ hx, byteOf_bitsN _ _ hlt]
  · unfold unpackE
    rw [if_neg (by omega), if_neg (by omega)]
    unfold packP
    rw [hB, List.drop_append_of_le_length (by omega), List.drop_of_length_le (by omega), byteOf_pad]
    rfl
theorem bitsN_at (b : List Nat) (i c : Nat) (h : b[i]? = some c) : ((bitsB b).drop (8 * i)).take 8 = bitsN c 8 := by
  have := bitsL_at b 8 i c h
  rw [Nat.mul_comm]
  exact this
/-- What is unpacked is packed as these very bytes. -/
theorem pack_unpack (b : List Nat) (n w : Nat) (hb : ∀ c ∈ b, c < 256) (h : unpackE b n w = 0) : packP (unpackL b n w) w = b := by
  unfold unpackE at h
  split at h
  · simp at h
  rename_i h1
  split at h
  · simp at h
  rename_i h2
  split at h
  · rename_i h3
    have hz := byteOf_zero _ h3
    have hlen := bitsB_len b
    have hU : ∀ m, m ≤ n → bitsL (unpackL b m w) w = (bitsB b).take (m * w) := by
      intro m
      induction m with
      | zero => intro _; simp [unpackL, bitsL]
      | succ m ih =>
        intro hm
        have hmw : (m + 1) * w ≤ n * w := Nat.mul_le_mul_right _ hm
        rw [unpackL_succ, bitsL_snoc, ih (by omega), Nat.succ_mul, List.take_add]
        congr 1
        unfold partP
        have hl : (((bitsB b).drop (m * w)).take w).length = w := by
          rw [Nat.succ_mul] at hmw
          rw [List.length_take, List.length_drop]; omega
        have := bitsN_byteOf (((bitsB b).drop (m * w)).take w)
        rw [hl] at this
        exact this
    have hB : bitsB b = bitsL (unpackL b n w) w ++ List.replicate ((bitsB b).drop (n * w)).length false := by
      rw [hU n (Nat.le_refl _), ← hz, List.take_append_drop]
    have hLl : (bitsL (unpackL b n w) w).length = n * w := by rw [bitsL_len, unpackL_len]
    apply List.ext_getElem
    · rw [packP, packB_len, hLl]; omega
    · intro i h4 h5
      have hx := List.getElem?_eq_getElem h5
      have hlt := hb _ (List.getElem_mem h5)
      have e8 := bitsN_at b i _ hx
      rw [hB] at e8
      simp only [packP, packB, List.getElem_map, List.getElem_range, byteAt]
      rw [← byteOf_bitsN b[i] 8 (by omega), ← e8]
      rw [List.drop_append, List.take_append, List.drop_replicate, List.take_replicate, byteOf_pad]
  · simp at h
end Go.Proofs.Ytcdnbefcccdaeaa

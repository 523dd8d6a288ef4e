/- Steps and sums; what is laid down is read, and the other way round. -/
import Derived.Test.YtcdnbefcccdaeaaDelta5
namespace Go.Proofs.Ytcdnbefcccdaeaa
open Go.Proofs.YtcdnbefcccdaeaaAw Go.RowKit
set_option linter.unusedVariables false
set_option linter.unusedSimpArgs false
theorem zag_zig (n : Int) (h : I64 n) : zagP (zigP n) = n := by
  obtain ⟨h1, h2⟩ := h
  unfold zigP zagP
  by_cases h0 : 0 ≤ n
  · rw [if_pos h0, if_neg (by omega)]; omega
  · rw [if_neg h0, if_pos (by omega)]; omega
theorem zagP_rng (n : Nat) (h : n < 18446744073709551616) : I64 (zagP n) := by
  unfold zagP I64
  split <;> omega
theorem zig_zag (n : Nat) (h : n < 18446744073709551616) : zigP (zagP n) = n := by
  unfold zagP zigP
  split
  · rw [if_neg (by omega)]; omega
  · rw [if_pos (by omega)]; omega
theorem wrap64_q (n : Int) : ∃ q : Int, IntKind.i64.wrap n = n + q * 18446744073709551616 := by
  have h1 := Int.emod_add_mul_ediv n 18446744073709551616
  simp only [IntKind.wrap, IntKind.signed, IntKind.bits]
  simp only [show ((2 : Int) ^ 64) = 18446744073709551616 from rfl, show ((2 : Int) ^ (64 - 1)) = 9223372036854775808 from rfl]
  by_cases h : n % 18446744073709551616 ≥ 9223372036854775808
  · refine ⟨-(n / 18446744073709551616) - 1, ?_⟩
    simp only [h, decide_true, Bool.true_and, if_true]
    omega
  · refine ⟨-(n / 18446744073709551616), ?_⟩
    simp only [h, decide_false, Bool.and_false, Bool.false_eq_true, if_false]
    omega
theorem wrap_sub (a z : Int) (h : I64 z) : IntKind.i64.wrap (IntKind.i64.wrap (a + z) - a) = z := by
  obtain ⟨q, hq⟩ := wrap64_q (a + z)
  obtain ⟨p, hp⟩ := wrap64_q (IntKind.i64.wrap (a + z) - a)
  have hr := wrap64_rng (IntKind.i64.wrap (a + z) - a)
  obtain ⟨h1, h2⟩ := h
  omega
theorem wrap_add (a b : Int) (h : I64 b) : IntKind.i64.wrap (a + IntKind.i64.wrap (b - a)) = b := by
  obtain ⟨q, hq⟩ := wrap64_q (b - a)
  obtain ⟨p, hp⟩ := wrap64_q (a + IntKind.i64.wrap (b - a))
  have hr := wrap64_rng (a + IntKind.i64.wrap (b - a))
  obtain ⟨h1, h2⟩ := h
  omega
theorem wrap_I64 (n : Int) : I64 (IntKind.i64.wrap n) := wrap64_rng n
/-! ### Sums of steps -/
theorem sumN_I64 (x : Int) (hx : I64 x) (S : List Nat) : ∀ k, I64 (sumN x S k)
  | 0 => hx
  | k + 1 => wrap_I64 _
theorem sumN_steps (l : List Val) (v : Val) (h0 : l[0]? = some v) (hok : ∀ v ∈ l, I64 v.i) : ∀ k (y : Val), l[k]? = some y → sumN v.i (stepsP l) k = y.i := by
  intro k
  induction k with
  | zero => intro y hy; rw [h0] at hy; cases hy; rfl
  | succ k ih =>
    intro y hy
    have hlt := (List.getElem?_eq_some_iff.1 hy).1
    have hx := List.getElem?_eq_getElem (show k < l.length by omega)
    have hy2 : l[k + 1] = y := (List.getElem?_eq_some_iff.1 hy).2
    have hs := stepsP_get l k hlt
    have hgd : (stepsP l).getD k 0 = diffP l[k] l[k + 1] := by simp [List.getD, hs]
    simp only [sumN]
    rw [ih _ hx, hgd, hy2]
    unfold diffP
    rw [zag_zig _ (wrap_I64 _), wrap_add _ _ (hok y (List.mem_of_getElem? hy))]
theorem sumL_steps (l : List Val) (v : Val) (h0 : l[0]? = some v) (hn : ∀ v ∈ l, v = num10 v.i) (hok : ∀ v ∈ l, I64 v.i) : sumL v.i (stepsP l) l.length = l := by
  apply List.ext_getElem
  · rw [sumL_len]
  · intro k h1 h2
    have hy := List.getElem?_eq_getElem h2
    simp only [sumL, List.getElem_map, List.getElem_range]
    rw [sumN_steps l v h0 hok k _ hy]
    exact (hn _ (List.getElem_mem h2)).symm
theorem steps_sumL (x : Int) (hx : I64 x) (S : List Nat) (hS : ∀ n ∈ S, n < 18446744073709551616) : stepsP (sumL x S (S.length + 1)) = S := by
  apply List.ext_getElem
  · rw [stepsP_len, sumL_len]; rfl
  · intro k h1 h2
    have h3 := stepsP_get (sumL x S (S.length + 1)) k (by rw [sumL_len]; omega)
    rw [List.getElem?_eq_getElem h1] at h3
    rw [Option.some.inj h3]
    simp only [sumL, List.getElem_map, List.getElem_range, diffP, num10]
    have hgd : S.getD k 0 = S[k] := by simp [List.getD, h2]
    have hlt := hS _ (List.getElem_mem h2)
    simp only [sumN, hgd]
    rw [wrap_sub _ _ (zagP_rng _ hlt), zig_zag _ hlt]
/-! ### Round trips -/
theorem bytesD_cons (v : Val) (r : List Val) : bytesD (v :: r) = putP (zigP v.i) ++ (putP (widthP (stepsP (v :: r))) ++ packP (stepsP (v :: r)) (widthP (stepsP (v :: r)))) := by
  rw [← List.append_assoc]; rfl
theorem of_bytes (l : List Val) (hl : l ≠ []) (hm : l.length ≤ 4096) (hn : ∀ v ∈ l, v = num10 v.i) (hok : ∀ v ∈ l, I64 v.i) : ofR (bytesD l) l.length = (some l, 0) := by
  cases l with
  | nil => exact absurd rfl hl
  | cons v r =>
    have hlen : (v :: r).length = r.length + 1 := rfl
    have hv := hok v (by simp)
    have hz := zigP_lt hv.1 hv.2
    have hss := stepsP_lt (v :: r)
    have hw := widthP_le hss
    have hfit := widthP_fits (l := stepsP (v :: r))
    have hsl := stepsP_len (v :: r)
    have hsum := sumL_steps (v :: r) v rfl hn hok
    unfold ofR
    rw [if_neg (by omega), if_neg (by omega)]
    unfold ofB
    rw [bytesD_cons, getP_put _ hz, List.drop_left]
    simp only
    rw [getP_put _ (by omega), ← List.append_assoc, ← List.length_append, List.drop_left]
    simp only
    have hu := unpack_pack (stepsP (v :: r)) (widthP (stepsP (v :: r))) hfit
    rw [hsl] at hu
    rw [Int.toNat_natCast, hu.1, hu.2, zag_zig _ hv, hsum]
    simp [show ¬ 64 < widthP (stepsP (v :: r)) by omega]
theorem bytes_of (b : List Nat) (n : Int) (k : List Val) (hb : ∀ c ∈ b, c < 256) (h : ofR b n = (some k, 0)) : bytesD k = b ∧ (k.length : Int) = n ∧ k ≠ [] ∧ n ≤ 4096 ∧ (∀ v ∈ k, v = num10 v.i) ∧ ∀ v ∈ k, I64 v.i := by
  unfold ofR at h
  by_cases h1 : n < 0 ∨ 4096 < n
  · rw [if_pos h1] at h; simp at h
  rw [if_neg h1] at h
  by_cases h2 : n = 0
  · rw [if_pos h2] at h; simp at h
  rw [if_neg h2] at h
  obtain ⟨m, hm⟩ : ∃ m : Nat, n = ((m + 1 : Nat) : Int) := ⟨n.toNat - 1, by omega⟩
  have hmt : n.toNat = m + 1 := by omega
  unfold ofB at h
  rw [hmt, show m + 1 - 1 = m from rfl] at h
  have hlt1 := getP_lt b
  rcases hg : getP b with ⟨first, k1, e1⟩
  rw [hg] at h hlt1
  simp only at h hlt1
  by_cases he : e1 = 0
  · subst he
    simp only [ne_eq, not_true_eq_false, if_false] at h
    obtain ⟨hk1, hb1⟩ := getP_canon hb hg
    have hb2 : ∀ c ∈ b.drop k1, c < 256 := fun c hc => hb c (List.mem_of_mem_drop hc)
    rcases hg2 : getP (b.drop k1) with ⟨w, j, e2⟩
    rw [hg2] at h
    simp only at h
    by_cases he2 : e2 = 0
    · subst he2
      simp only [not_true_eq_false, if_false] at h
      obtain ⟨hj, hb3⟩ := getP_canon hb2 hg2
      rw [List.drop_drop] at hb3
      by_cases hw : 64 < w
      · rw [if_pos hw] at h; simp at h
      rw [if_neg hw] at h
      by_cases hu : unpackE (b.drop (k1 + j)) m w = 0
      · rw [if_neg (by simp [hu])] at h
        have hpk := pack_unpack (b.drop (k1 + j)) m w (fun c hc => hb c (List.mem_of_mem_drop hc)) hu
        have hSl := unpackL_lt (b.drop (k1 + j)) m w (by omega)
        have hSn := unpackL_len (b.drop (k1 + j)) m w
        generalize unpackL (b.drop (k1 + j)) m w = S at *
        by_cases hwd : widthP S = w
        · rw [if_neg (by simp [hwd])] at h
          have hk : k = sumL (zagP first) S (m + 1) := by
            have := (Prod.mk.inj h).1
            exact (Option.some.inj this).symm
          have hsteps := steps_sumL (zagP first) (zagP_rng _ hlt1) S hSl
          rw [hSn] at hsteps
          have hnum : ∀ v ∈ k, v = num10 v.i ∧ I64 v.i := by
            intro v hv
            rw [hk] at hv
            obtain ⟨i, _, rfl⟩ := List.mem_map.1 hv
            exact ⟨rfl, sumN_I64 _ (zagP_rng _ hlt1) S i⟩
          refine ⟨?_, by rw [hk, sumL_len, hm], by rw [hk]; intro e; have := congrArg List.length e; rw [sumL_len] at this; simp at this, by omega, fun v hv => (hnum v hv).1, fun v hv => (hnum v hv).2⟩
          obtain ⟨r, hr⟩ : ∃ r, sumL (zagP first) S (m + 1) = num10 (zagP first) :: r := ⟨_, by simp only [sumL, List.range_succ_eq_map, List.map_cons]; rfl⟩
          rw [hk, hr, bytesD_cons, ← hr, hsteps, hwd, hpk]
          simp only [num10]
          rw [zig_zag _ hlt1, ← hb3, ← hb1]
        · rw [if_pos hwd] at h; simp at h
      · rw [if_pos hu] at h
        simp at h
    · rw [if_pos he2] at h; simp at h
  · rw [if_pos he] at h; simp at h
end Go.Proofs.Ytcdnbefcccdaeaa

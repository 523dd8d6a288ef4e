/- The document's ToCodes (layer 9): what it does. The document's Of (layer 9): what it does. Arguments: bytes and numbers. The law DictBytes: what it does. -/
import Derived.Test.YtkapgooedfompaaGreatM05
namespace Go.Proofs.YtkapgooedfompaaGreat
open Go.Proofs.YtkapgooedfompaaGreatAw Go.RowKit
set_option linter.unusedVariables false
set_option linter.unusedSimpArgs false
theorem words_self {W : List Val} (h : Rise W) : wordsP cmpV W = W := by
  unfold wordsP
  rw [St.sortS_self cmpV_tri.ord (rise_sorted cmpV_tri h), compact_rise cmpV_tri h]
theorem Rise.next {W : List Val} (h : Rise W) : RiseN W := fun i x y hx hy => (h.get hx hy).2 (by omega)
theorem RiseN.all {W : List Val} (h : RiseN W) : Rise W := by
  unfold Rise
  rw [List.pairwise_iff_getElem]
  have tr : ∀ x y z : Val, cmpV x y < 0 → cmpV y z < 0 → cmpV x z < 0 := fun x y z h1 h2 => by
    have h3 := cmpV_tri.le_trans (x := x) (y := y) (z := z) (by omega) (by omega)
    rcases Int.lt_or_eq_of_le h3 with h4 | h4
    · exact h4
    · have h5 := (cmpV_tri.congr_l (z := y) h4).1 h1
      have h6 := (cmpV_tri.anti y z).1 h2
      omega
  have key : ∀ (d i : Nat) (x y : Val), W[i]? = some x → W[i + d + 1]? = some y → cmpV x y < 0 := by
    intro d
    induction d with
    | zero => intro i x y hx hy; exact h i x y hx hy
    | succ d ih =>
      intro i x y hx hy
      have hlt := (List.getElem?_eq_some_iff.1 hy).1
      have hz := List.getElem?_eq_getElem (show i + d + 1 < W.length by omega)
      exact tr _ _ _ (ih i x _ hx hz) (h (i + d + 1) _ y hz (by rw [← hy, show i + d + 1 + 1 = i + (d + 1) + 1 by omega]))
  intro i j h1 h2 hij
  have := key (j - i - 1) i _ _ (List.getElem?_eq_getElem h1) (by rw [show i + (j - i - 1) + 1 = j by omega]; exact List.getElem?_eq_getElem h2)
  simpa [ltT] using this
theorem words_eq (W : List Val) : wordsP cmpV W = W ↔ RiseN W := ⟨fun h => by
  have := words_Rise W
  rw [h] at this
  exact this.next, fun h => words_self h.all⟩
def hasP (o : List Nat) (m : Nat) : List Bool := (List.range m).map fun i => decide (i ∈ o)
theorem hasP_nil (m : Nat) : bls (hasP [] m) = List.replicate m [.v (.bool false)] := by
  apply List.ext_getElem
  · simp [bls, hasP]
  · intro i h1 h2
    simp [bls, hasP]
theorem hasP_get {o : List Nat} {m c : Nat} (h : c < m) : (bls (hasP o m))[c]? = some [.v (.bool (decide (c ∈ o)))] := by simp [bls, hasP, h]
theorem hasP_set {o : List Nat} {m c : Nat} (h : c < m) (hn : c ∉ o) : (bls (hasP o m)).set c [.v (.bool true)] = bls (hasP (toldC o c) m) := by
  unfold toldC
  rw [if_neg hn]
  apply List.ext_getElem
  · simp [bls, hasP]
  · intro i h1 h2
    rw [List.getElem_set]
    split
    · rename_i e
      subst e
      simp [bls, hasP]
    · rename_i e
      have : ¬ i = c := fun h => e h.symm
      simp [bls, hasP, this]
theorem toldC_in {o : List Nat} {c : Nat} (h : c ∈ o) : toldC o c = o := if_pos h
theorem toldC_out {o : List Nat} {c : Nat} (h : c ∉ o) : (toldC o c).length = o.length + 1 := by unfold toldC; rw [if_neg h]; simp
theorem usedP_bad {C : List Nat} {n c : Nat} (hc : c ∈ C) (h : n ≤ c) : usedP C n = false := by
  unfold usedP
  rw [Bool.and_eq_false_iff]
  exact .inl (List.all_eq_false.2 ⟨c, (toldL_mem C c).2 hc, by simpa using h⟩)
theorem usedP_good {C : List Nat} {n : Nat} (h : ∀ c ∈ C, c < n) : usedP C n = decide ((toldL C).length = n) := by
  unfold usedP
  rw [List.all_eq_true.2 fun c hc => by simpa using h c ((toldL_mem C c).1 hc), Bool.true_and]
theorem bstr_size (l : List Nat) : (bstr l).size = l.length := by
  have := congrArg List.length (bstr_list l)
  rw [ByteArray.toList_eq] at this
  simpa using this
theorem ofV_size (b : List Nat) (k : Int) : (ofV b k).1.s.size ≤ 1024 := by
  have h0 : noS.size = 0 := rfl
  unfold ofV
  split
  · simp [zV, h0]
  split
  · split <;> simp [num10, zV, h0]
  split
  · unfold floatV
    split
    · simp [zV, h0]
    · split <;> simp [zV, h0]
  split
  · split
    · show (bstr (toTextP b 1024).1).size ≤ 1024
      rw [bstr_size, toTextP_get]
      split
      · simp
      split
      · simp
      split
      · simp
      · rename_i h1 h2 h3
        simp only [List.length_take]
        omega
    · simp [zV, h0]
  · simp [zV, h0]
theorem readN_size (k : Int) : ∀ (n : Nat) (b : List Nat), ∀ v ∈ (readN k n b).1, v.s.size ≤ 1024
  | 0, b, v, h => by simp [readN] at h
  | n + 1, b, v, h => by
    unfold readN at h
    split at h
    · split at h
      · rcases List.mem_cons.1 h with rfl | h
        · exact ofV_size b k
        · exact readN_size k n _ v h
      · simp at h
    · simp at h
set_option maxRecDepth 10000 in
set_option maxHeartbeats 4000000 in
theorem rtocodes_does (b : List Nat) (n k : Int) (hl : b.length ≤ 140737488351232) (hb : ∀ c ∈ b, c < 256) (H : AHeap) :
    Does Tryz.prog 11 [.d (.list false (bys b)), iA n, iA k] H (.ok (.tup [.d (.list false ((toCodesV b n k).1.map Val.enc)), .d (.list false (us (toCodesV b n k).2.1)), iA (toCodesV b n k).2.2])) H := by
  by_cases hk : kindsP k = false
  · rw [show toCodesV b n k = ([], [], 1) from if_pos hk]
    refine Does.subT (cs := [.d (.v (.slice none 0 0)), .d (.v (.slice none 0 0)), iA 1]) ?_ (.cons .nil (.cons .nil (.cons (.refl _) .nil)))
    refine Does.of_awp (hint := (fun _ => false)) Tryz.func11 (by kernel_rfl) rfl [6, 7, 8] (by kernel_rfl) (by decide) (by simp [Tryz.ntmps11]) ?_
    rw [Tryz.ntmps11]
    simp (implicitDefEqProofs := false) only [↓reduceIte, go_sem, Nat.reduceLT, Nat.reduceEqDiff, eq_self]
    refine KCall.ok (rkinds_does k _) ?_
    simp (implicitDefEqProofs := false) only [↓reduceIte, go_sem, Nat.reduceLT, eq_self, hk]
    refine AEnd.ret0 ?_
    simp (implicitDefEqProofs := false) only [↓reduceIte, go_sem, Nat.reduceLT, Nat.reduceEqDiff, eq_self]
  rw [show toCodesV b n k = _ from if_neg hk]
  have hk1 : kindsP k = true := by simpa using hk
  by_cases h1 : n < 0
  · rw [if_pos h1]
    refine Does.subT (cs := [.d (.v (.slice none 0 0)), .d (.v (.slice none 0 0)), iA 2]) ?_ (.cons .nil (.cons .nil (.cons (.refl _) .nil)))
    refine Does.of_awp (hint := (fun _ => false)) Tryz.func11 (by kernel_rfl) rfl [6, 7, 8] (by kernel_rfl) (by decide) (by simp [Tryz.ntmps11]) ?_
    rw [Tryz.ntmps11]
    simp (implicitDefEqProofs := false) only [↓reduceIte, go_sem, Nat.reduceLT, Nat.reduceEqDiff, eq_self]
    refine KCall.ok (rkinds_does k _) ?_
    simp (implicitDefEqProofs := false) only [↓reduceIte, go_sem, Nat.reduceLT, Nat.reduceEqDiff, eq_self, hk1, h1]
    refine AEnd.ret0 ?_
    simp (implicitDefEqProofs := false) only [↓reduceIte, go_sem, Nat.reduceLT, Nat.reduceEqDiff, eq_self]
  rw [if_neg h1]
  by_cases h2 : 4096 < n
  · rw [if_pos h2]
    refine Does.subT (cs := [.d (.v (.slice none 0 0)), .d (.v (.slice none 0 0)), iA 2]) ?_ (.cons .nil (.cons .nil (.cons (.refl _) .nil)))
    refine Does.of_awp (hint := (fun _ => false)) Tryz.func11 (by kernel_rfl) rfl [6, 7, 8] (by kernel_rfl) (by decide) (by simp [Tryz.ntmps11]) ?_
    rw [Tryz.ntmps11]
    simp (implicitDefEqProofs := false) only [↓reduceIte, go_sem, Nat.reduceLT, Nat.reduceEqDiff, eq_self]
    refine KCall.ok (rkinds_does k _) ?_
    simp (implicitDefEqProofs := false) only [↓reduceIte, go_sem, Nat.reduceLT, Nat.reduceEqDiff, reduceCtorEq, eq_self, hk1, h1, h2]
    refine AEnd.ret0 ?_
    simp (implicitDefEqProofs := false) only [↓reduceIte, go_sem, Nat.reduceLT, Nat.reduceEqDiff, eq_self]
  rw [if_neg h2]
  obtain ⟨N, rfl⟩ : ∃ N : Nat, n = (N : Int) := ⟨n.toNat, by omega⟩
  rw [Int.toNat_natCast]
  have h1f : ((N : Int) < 0) = False := eq_false h1
  have h2f : ((4096 : Int) < (N : Int)) = False := eq_false h2
  have hgd := fun H => rgetB_does b false (by omega) hb H
  have hgl := getP_le b
  have hglt := getP_lt b
  generalize getP b = g at *
  obtain ⟨many, j, e⟩ := g
  simp only at hgd hgl hglt ⊢
  have hNu := wrapU64N N (by omega)
  by_cases he : e = 0
  · subst he
    rw [if_neg (by simp)]
    by_cases h3 : (N : Int) < (many : Int)
    · rw [if_pos h3]
      refine Does.subT (cs := [.d (.v (.slice none 0 0)), .d (.v (.slice none 0 0)), iA 4]) ?_ (.cons .nil (.cons .nil (.cons (.refl _) .nil)))
      refine Does.of_awp (hint := (fun _ => false)) Tryz.func11 (by kernel_rfl) rfl [6, 7, 8] (by kernel_rfl) (by decide) (by simp [Tryz.ntmps11]) ?_
      rw [Tryz.ntmps11]
      simp (implicitDefEqProofs := false) only [↓reduceIte, go_sem, Nat.reduceLT, Nat.reduceEqDiff, eq_self]
      refine KCall.ok (rkinds_does k _) ?_
      simp (implicitDefEqProofs := false) only [↓reduceIte, go_sem, Nat.reduceLT, Nat.reduceEqDiff, reduceCtorEq, eq_self, hk1, h1f, h2f]
      refine KCall.ok (hgd _) ?_
      simp (implicitDefEqProofs := false) only [↓reduceIte, go_sem, Nat.reduceLT, Nat.reduceEqDiff, eq_self, hNu, eq_true h3]
      refine AEnd.ret0 ?_
      simp (implicitDefEqProofs := false) only [↓reduceIte, go_sem, Nat.reduceLT, Nat.reduceEqDiff, eq_self]
    rw [if_neg h3]
    have h3f : ((N : Int) < (many : Int)) = False := eq_false h3
    have hmw : IntKind.i64.wrap (many : Int) = (many : Int) := wrap64_in _ (by omega) (by omega)
    have hj0 : ((0 : Int) ≤ (j : Int)) = True := eq_true (by omega)
    have hdb : ∀ c ∈ b.drop j, c < 256 := fun c hc => hb c (List.mem_of_mem_drop hc)
    have hrd := fun H => rsome_does (b.drop j) many k (by omega) (by rw [List.length_drop]; omega) hdb H
    have hrR : readR k many (b.drop j) = if (readN k many (b.drop j)).2.2 = 0 then (if RiseN (readN k many (b.drop j)).1 then readN k many (b.drop j) else ([], [], 4)) else ([], [], (readN k many (b.drop j)).2.2) := rfl
    have hrl := readN_len k many (b.drop j)
    obtain ⟨i, hrs⟩ := readN_suffix k many (b.drop j)
    have hbt : (bys b).take b.length = bys b := List.take_of_length_le (by rw [bys_len]; exact Nat.le_refl _)
    have hgood : ∀ v ∈ (readN k many (b.drop j)).1, v.s.size ≤ 1024 := readN_size k many (b.drop j)
    generalize readN k many (b.drop j) = q2 at *
    generalize readR k many (b.drop j) = q at *
    obtain ⟨W, r, f⟩ := q2
    simp only at hrd hrR hrl hrs hgood
    by_cases hf : f = 0
    · subst hf
      have hW : W.length = many := hrl rfl
      have hrb : ∀ c ∈ r, c < 256 := fun c hc => hdb c (List.mem_of_mem_drop (hrs ▸ hc))
      have hrlen : r.length ≤ b.length := by rw [hrs, List.length_drop, List.length_drop]; omega
      rw [if_pos rfl] at hrR
      have hwd := fun H => words09_does W false (by omega) (fun v hv => by have := hgood v hv; omega) H
      have hsm := fun H => same05_does (wordsP cmpV W) W false false H (by have := wordsP_len cmpV W; omega)
      rw [decide_eq_decide.2 (words_eq W)] at hsm
      by_cases hri : RiseN W
      · rw [if_pos hri] at hrR
        subst hrR
        rw [decide_eq_true hri] at hsm
        have hwl := widP_le (n := W.length) (by omega)
        have hun := fun H => runpack_does r N (widP W.length) false (by omega) hrb (by omega) (by omega) H
        have hT : tailV (W, r, 0) N = if unpackE r N (widP W.length) ≠ 0 then ([], [], unpackE r N (widP W.length)) else if usedP (unpackL r N (widP W.length)) W.length then (W, unpackL r N (widP W.length), 0) else ([], [], 4) := rfl
        have hdw := fun H => rwidth09_does W.length (by omega) H
        have hCl := unpackL_len r N (widP W.length)
        have hClt := unpackL_lt r N (widP W.length) (by omega)
        unfold unpackA at hun
        rw [hT]
        generalize widP W.length = wd at *
        generalize unpackL r N wd = C at *
        generalize unpackE r N wd = z at *
        by_cases hz : z = 0
        · subst hz
          rw [if_neg (by simp)]
          rw [if_pos rfl] at hun
          have hWu := wrapU64N W.length (by omega)
          suffices h : Does Tryz.prog 11 [.d (.list false (bys b)), iA N, iA k] H (.ok (if usedP C W.length then .tup [.d (.list false (W.map Val.enc)), .d (.list false (us C)), iA 0] else .tup [.d (.v (.slice none 0 0)), .d (.v (.slice none 0 0)), iA 4])) H by
            cases hu : usedP C W.length with
            | true => rw [hu] at h; exact h
            | false =>
              rw [hu] at h
              exact Does.subT h (.cons .nil (.cons .nil (.cons (.refl _) .nil)))
          refine Does.of_awp (hint := (fun _ => false)) Tryz.func11 (by kernel_rfl) rfl [6, 7, 8] (by kernel_rfl) (by decide) (by simp [Tryz.ntmps11]) ?_
          rw [Tryz.ntmps11]
          simp (implicitDefEqProofs := false) only [↓reduceIte, go_sem, Nat.reduceLT, Nat.reduceEqDiff, eq_self]
          refine KCall.ok (rkinds_does k _) ?_
          simp (implicitDefEqProofs := false) only [↓reduceIte, go_sem, Nat.reduceLT, Nat.reduceEqDiff, reduceCtorEq, eq_self, hk1, h1f, h2f]
          refine KCall.ok (hgd _) ?_
          simp (implicitDefEqProofs := false) only [↓reduceIte, go_sem, Nat.reduceLT, Nat.reduceEqDiff, reduceCtorEq, eq_self, hNu, h3f, bys_one, bys_len, hj0, hbt, drop_bys, hmw]
          refine ⟨by omega, KCall.ok (hrd _) ?_⟩
          simp (implicitDefEqProofs := false) only [↓reduceIte, go_sem, Nat.reduceLT, Nat.reduceEqDiff, eq_self]
          refine KCall.ok (hwd _) ?_
          simp (implicitDefEqProofs := false) only [↓reduceIte, go_sem, Nat.reduceLT, Nat.reduceEqDiff, eq_self]
          refine KCall.ok (hsm _) ?_
          simp (implicitDefEqProofs := false) only [↓reduceIte, go_sem, Nat.reduceLT, Nat.reduceEqDiff, eq_self, List.length_map]
          refine KCall.ok (hdw _) ?_
          simp (implicitDefEqProofs := false) only [↓reduceIte, go_sem, Nat.reduceLT, Nat.reduceEqDiff, eq_self]
          refine KCall.ok (hun _) ?_
          simp (implicitDefEqProofs := false) only [↓reduceIte, go_sem, Nat.reduceLT, Nat.reduceEqDiff, eq_self, List.length_map]
          refine ⟨⟨by omega, by omega⟩, ?_⟩
          refine awp_for3 (fun i s H' => H' = H ++ [.arr 4 1 0 (bls (hasP (toldL (C.take i)) W.length))] ∧ (∀ c ∈ C.take i, c < W.length) ∧ s 9 = du (toldL (C.take i)).length ∧ s 12 = .d (.list false (W.map Val.enc)) ∧ s 15 = .d (.list false (us C)) ∧ s 17 = .sl H.length 0 0 W.length ∧ s 18 = iA i) C.length (by omega) (Weak.refl _ _) ?_ ?_ ?_
          · refine ⟨by rw [← hasP_nil]; rfl, by simp, ?_⟩
            simp (implicitDefEqProofs := false) only [↓reduceIte, go_sem, Nat.reduceLT, Nat.reduceEqDiff, eq_self]
            rfl
          · rintro i s H' hi hw ⟨rfl, hok, t9, t12, t15, t17, t18⟩
            have hx := us_get C i hi
            have hcm := List.getElem_mem hi
            have e1 := toldL_take C i hi
            have e2 : C.take (i + 1) = C.take i ++ [C[i]] := List.take_succ_eq_append_getElem hi
            have hcu := hClt _ hcm
            have htl := toldL_len (C.take i)
            rw [List.length_take] at htl
            rw [e1, e2]
            generalize C[i] = c at *
            generalize toldL (C.take i) = o at *
            have hi0 : ((0 : Int) ≤ (c : Int)) = True := eq_true (by omega)
            by_cases hcw : W.length ≤ c
            · have hub := usedP_bad hcm hcw
              rw [hub]
              simp (implicitDefEqProofs := false) only [↓reduceIte, go_sem, Nat.reduceLT, Nat.reduceEqDiff, eq_self, t12, t15, t18, hi, hx, List.length_map, hWu, us_len, show ((W.length : Int) ≤ (c : Int)) = True from eq_true (by omega)]
              refine AEnd.ret ?_
              simp (implicitDefEqProofs := false) only [↓reduceIte, go_sem, Nat.reduceLT, Nat.reduceEqDiff, eq_self, Bool.false_eq_true]
            · have hlt : c < W.length := by omega
              have hgx := hasP_get (o := o) hlt
              by_cases hin : c ∈ o
              · rw [decide_eq_true hin] at hgx
                rw [toldC_in hin]
                simp (implicitDefEqProofs := false) only [↓reduceIte, go_sem, oread, Nat.reduceLT, Nat.reduceEqDiff, eq_self, t12, t15, t17, t18, hi, hx, List.length_map, hWu, us_len, show ((W.length : Int) ≤ (c : Int)) = False from eq_false (by omega), hi0, show ((c : Int) < (W.length : Int)) = True from eq_true (by omega), hgx]
                refine Rnd.same ⟨rfl, ?_, ?_⟩
                · intro x hx
                  rcases List.mem_append.1 hx with h | h
                  · exact hok x h
                  · simp at h; omega
                · simp (implicitDefEqProofs := false) only [↓reduceIte, go_sem, Nat.reduceLT, Nat.reduceEqDiff, eq_self, t9, t12, t15, t17, hw]
              · rw [decide_eq_false hin] at hgx
                have hst := hasP_set hlt hin
                have hln := toldC_out hin
                have hw1 : IntKind.u64.wrap ((o.length : Int) + 1) = ((toldC o c).length : Int) := by rw [hln, wrapu64_in _ (by omega) (by omega)]; rfl
                simp (implicitDefEqProofs := false) only [↓reduceIte, go_sem, oread, owrite, Nat.reduceLT, Nat.reduceEqDiff, eq_self, t9, t12, t15, t17, t18, hi, hx, List.length_map, hWu, us_len, show ((W.length : Int) ≤ (c : Int)) = False from eq_false (by omega), hi0, show ((c : Int) < (W.length : Int)) = True from eq_true (by omega), hgx, hst, hw1]
                refine Rnd.same ⟨rfl, ?_, ?_⟩
                · intro x hx
                  rcases List.mem_append.1 hx with h | h
                  · exact hok x h
                  · simp at h; omega
                · simp (implicitDefEqProofs := false) only [↓reduceIte, go_sem, Nat.reduceLT, Nat.reduceEqDiff, eq_self, t12, t15, t17, hw]
          · rintro s H' ⟨rfl, hok, t9, t12, t15, t17, t18⟩
            rw [List.take_length] at hok t9
            rw [usedP_good hok]
            by_cases hq : (toldL C).length = W.length
            · simp (implicitDefEqProofs := false) only [↓reduceIte, go_sem, Nat.reduceLT, Nat.reduceEqDiff, eq_self, t9, t12, t15, t18, us_len, List.length_map, hWu, hq]
              refine AEnd.ret ?_
              simp (implicitDefEqProofs := false) only [↓reduceIte, go_sem, Nat.reduceLT, Nat.reduceEqDiff, eq_self]
              rw [if_pos hq]
            · simp (implicitDefEqProofs := false) only [↓reduceIte, go_sem, Nat.reduceLT, Nat.reduceEqDiff, eq_self, t9, t12, t15, t18, us_len, List.length_map, hWu, show (((toldL C).length : Int) = (W.length : Int)) = False from eq_false (by omega)]
              refine AEnd.ret ?_
              simp (implicitDefEqProofs := false) only [↓reduceIte, go_sem, Nat.reduceLT, Nat.reduceEqDiff, eq_self]
              rw [if_neg hq]
        · rw [if_pos hz]
          rw [if_neg hz] at hun
          refine Does.subT (cs := [.d (.v (.slice none 0 0)), .d (.v (.slice none 0 0)), iA z]) ?_ (.cons .nil (.cons .nil (.cons (.refl _) .nil)))
          refine Does.of_awp (hint := (fun _ => false)) Tryz.func11 (by kernel_rfl) rfl [6, 7, 8] (by kernel_rfl) (by decide) (by simp [Tryz.ntmps11]) ?_
          rw [Tryz.ntmps11]
          simp (implicitDefEqProofs := false) only [↓reduceIte, go_sem, Nat.reduceLT, Nat.reduceEqDiff, eq_self]
          refine KCall.ok (rkinds_does k _) ?_
          simp (implicitDefEqProofs := false) only [↓reduceIte, go_sem, Nat.reduceLT, Nat.reduceEqDiff, reduceCtorEq, eq_self, hk1, h1f, h2f]
          refine KCall.ok (hgd _) ?_
          simp (implicitDefEqProofs := false) only [↓reduceIte, go_sem, Nat.reduceLT, Nat.reduceEqDiff, reduceCtorEq, eq_self, hNu, h3f, bys_one, bys_len, hj0, hbt, drop_bys, hmw]
          refine ⟨by omega, KCall.ok (hrd _) ?_⟩
          simp (implicitDefEqProofs := false) only [↓reduceIte, go_sem, Nat.reduceLT, Nat.reduceEqDiff, eq_self]
          refine KCall.ok (hwd _) ?_
          simp (implicitDefEqProofs := false) only [↓reduceIte, go_sem, Nat.reduceLT, Nat.reduceEqDiff, eq_self]
          refine KCall.ok (hsm _) ?_
          simp (implicitDefEqProofs := false) only [↓reduceIte, go_sem, Nat.reduceLT, Nat.reduceEqDiff, eq_self, List.length_map]
          refine KCall.ok (hdw _) ?_
          simp (implicitDefEqProofs := false) only [↓reduceIte, go_sem, Nat.reduceLT, Nat.reduceEqDiff, eq_self]
          refine KCall.ok (hun _) ?_
          simp (implicitDefEqProofs := false) only [↓reduceIte, go_sem, Nat.reduceLT, Nat.reduceEqDiff, eq_self, hz]
          refine AEnd.ret0 ?_
          simp (implicitDefEqProofs := false) only [↓reduceIte, go_sem, Nat.reduceLT, Nat.reduceEqDiff, eq_self]
      · rw [if_neg hri] at hrR
        subst hrR
        rw [decide_eq_false hri] at hsm
        rw [show tailV ([], [], 4) N = ([], [], 4) from if_pos (by simp)]
        refine Does.subT (cs := [.d (.v (.slice none 0 0)), .d (.v (.slice none 0 0)), iA 4]) ?_ (.cons .nil (.cons .nil (.cons (.refl _) .nil)))
        refine Does.of_awp (hint := (fun _ => false)) Tryz.func11 (by kernel_rfl) rfl [6, 7, 8] (by kernel_rfl) (by decide) (by simp [Tryz.ntmps11]) ?_
        rw [Tryz.ntmps11]
        simp (implicitDefEqProofs := false) only [↓reduceIte, go_sem, Nat.reduceLT, Nat.reduceEqDiff, eq_self]
        refine KCall.ok (rkinds_does k _) ?_
        simp (implicitDefEqProofs := false) only [↓reduceIte, go_sem, Nat.reduceLT, Nat.reduceEqDiff, reduceCtorEq, eq_self, hk1, h1f, h2f]
        refine KCall.ok (hgd _) ?_
        simp (implicitDefEqProofs := false) only [↓reduceIte, go_sem, Nat.reduceLT, Nat.reduceEqDiff, reduceCtorEq, eq_self, hNu, h3f, bys_one, bys_len, hj0, hbt, drop_bys, hmw]
        refine ⟨by omega, KCall.ok (hrd _) ?_⟩
        simp (implicitDefEqProofs := false) only [↓reduceIte, go_sem, Nat.reduceLT, Nat.reduceEqDiff, eq_self]
        refine KCall.ok (hwd _) ?_
        simp (implicitDefEqProofs := false) only [↓reduceIte, go_sem, Nat.reduceLT, Nat.reduceEqDiff, eq_self]
        refine KCall.ok (hsm _) ?_
        simp (implicitDefEqProofs := false) only [↓reduceIte, go_sem, Nat.reduceLT, eq_self]
        refine AEnd.ret0 ?_
        simp (implicitDefEqProofs := false) only [↓reduceIte, go_sem, Nat.reduceLT, Nat.reduceEqDiff, eq_self]
    · rw [if_neg hf] at hrR
      subst hrR
      rw [show tailV ([], [], f) N = ([], [], f) from if_pos hf]
      refine Does.subT (cs := [.d (.v (.slice none 0 0)), .d (.v (.slice none 0 0)), iA f]) ?_ (.cons .nil (.cons .nil (.cons (.refl _) .nil)))
      refine Does.of_awp (hint := (fun _ => false)) Tryz.func11 (by kernel_rfl) rfl [6, 7, 8] (by kernel_rfl) (by decide) (by simp [Tryz.ntmps11]) ?_
      rw [Tryz.ntmps11]
      simp (implicitDefEqProofs := false) only [↓reduceIte, go_sem, Nat.reduceLT, Nat.reduceEqDiff, eq_self]
      refine KCall.ok (rkinds_does k _) ?_
      simp (implicitDefEqProofs := false) only [↓reduceIte, go_sem, Nat.reduceLT, Nat.reduceEqDiff, reduceCtorEq, eq_self, hk1, h1f, h2f]
      refine KCall.ok (hgd _) ?_
      simp (implicitDefEqProofs := false) only [↓reduceIte, go_sem, Nat.reduceLT, Nat.reduceEqDiff, reduceCtorEq, eq_self, hNu, h3f, bys_one, bys_len, hj0, hbt, drop_bys, hmw]
      refine ⟨by omega, KCall.ok (hrd _) ?_⟩
      simp (implicitDefEqProofs := false) only [↓reduceIte, go_sem, Nat.reduceLT, Nat.reduceEqDiff, eq_self, hf]
      refine AEnd.ret0 ?_
      simp (implicitDefEqProofs := false) only [↓reduceIte, go_sem, Nat.reduceLT, Nat.reduceEqDiff, eq_self]
  · rw [if_pos he]
    refine Does.subT (cs := [.d (.v (.slice none 0 0)), .d (.v (.slice none 0 0)), iA e]) ?_ (.cons .nil (.cons .nil (.cons (.refl _) .nil)))
    refine Does.of_awp (hint := (fun _ => false)) Tryz.func11 (by kernel_rfl) rfl [6, 7, 8] (by kernel_rfl) (by decide) (by simp [Tryz.ntmps11]) ?_
    rw [Tryz.ntmps11]
    simp (implicitDefEqProofs := false) only [↓reduceIte, go_sem, Nat.reduceLT, Nat.reduceEqDiff, eq_self]
    refine KCall.ok (rkinds_does k _) ?_
    simp (implicitDefEqProofs := false) only [↓reduceIte, go_sem, Nat.reduceLT, Nat.reduceEqDiff, reduceCtorEq, eq_self, hk1, h1f, h2f]
    refine KCall.ok (hgd _) ?_
    simp (implicitDefEqProofs := false) only [↓reduceIte, go_sem, Nat.reduceLT, Nat.reduceEqDiff, eq_self, he]
    refine AEnd.ret0 ?_
    simp (implicitDefEqProofs := false) only [↓reduceIte, go_sem, Nat.reduceLT, Nat.reduceEqDiff, eq_self]
end Go.Proofs.YtkapgooedfompaaGreat
namespace Go.Proofs.YtkapgooedfompaaGreat
open Go.Proofs.YtkapgooedfompaaGreatAw Go.RowKit
set_option linter.unusedVariables false
set_option linter.unusedSimpArgs false
set_option maxRecDepth 10000 in
set_option maxHeartbeats 2000000 in
theorem rdictOf_does (b : List Nat) (n k : Int) (hl : b.length ≤ 140737488351232) (hb : ∀ c ∈ b, c < 256) (H : AHeap) :
    Does Tryz.prog 9 [.d (.list false (bys b)), iA n, iA k] H (.ok (.tup [.d (.list false ((ofDict b n k).1.map Val.enc)), iA (ofDict b n k).2])) H := by
  have htd := fun H => rtocodes_does b n k hl hb H
  have hok := fun W C => toCodes_ok (b := b) (n := n) (k := k) (W := W) (C := C)
  unfold ofDict
  generalize toCodesV b n k = t at *
  obtain ⟨W, C, e⟩ := t
  simp only at htd hok ⊢
  by_cases he : e = 0
  · subst he
    obtain ⟨N, many, j, i, rfl, hN, _, _, hmN, _, _, hW, _, hC, hu⟩ := hok W C rfl
    have hlt := usedP_lt hu
    have hCl : C.length = N := by rw [hC, unpackL_len]
    clear hok hC hu
    rw [if_pos rfl]
    refine Does.of_awp (hint := (fun _ => false)) Tryz.func9 (by kernel_rfl) rfl [6, 7] (by kernel_rfl) (by decide) (by simp [Tryz.ntmps9]) ?_
    rw [Tryz.ntmps9]
    simp (implicitDefEqProofs := false) only [↓reduceIte, go_sem, Nat.reduceLT, Nat.reduceEqDiff, reduceCtorEq, eq_self]
    refine KCall.ok (htd _) ?_
    simp (implicitDefEqProofs := false) only [↓reduceIte, go_sem, Nat.reduceLT, Nat.reduceEqDiff, eq_self]
    refine awp_for3 (fun i s H' => H' = H ++ [.arr 45 3 i ((pickV W (C.take i)).map Val.enc)] ∧ s 8 = .d (.list false (W.map Val.enc)) ∧ s 9 = .d (.list false (us C)) ∧ s 11 = .sl H.length i 0 i ∧ s 12 = iA i) C.length (by omega) (Weak.virt1 _ _ 11 45 3 (by decide) (by simp (implicitDefEqProofs := false) only [↓reduceIte, go_sem, Nat.reduceLT, Nat.reduceEqDiff, eq_self]) _) ?_ ?_ ?_
    · refine ⟨rfl, ?_⟩
      simp (implicitDefEqProofs := false) only [↓reduceIte, go_sem, Nat.reduceLT, Nat.reduceEqDiff, eq_self]
    · rintro i s H' hi hw ⟨rfl, t8, t9, t11, t12⟩
      have hx := us_get C i hi
      have hcl := hlt _ (List.getElem_mem hi)
      have hwg := List.getElem?_eq_getElem hcl
      have e1 : pickV W (C.take (i + 1)) = pickV W (C.take i) ++ [W[C[i]]] := by
        unfold pickV
        rw [List.take_succ_eq_append_getElem hi, List.map_append]
        simp [List.getD, hcl]
      have hpl : (pickV W (C.take i)).length = i := by unfold pickV; rw [List.length_map, List.length_take]; omega
      rw [e1]
      generalize pickV W (C.take i) = L at *
      generalize W[C[i]] = v at *
      generalize C[i] = c at *
      have hc0 : ((0 : Int) ≤ (c : Int)) = True := eq_true (by omega)
      have hsn : L.map Val.enc ++ [[D.v (.int .i64 v.kind), D.v (.int .i64 v.i), D.v (.string v.s)]] = (L ++ [v]).map Val.enc := by simp [Val.enc]
      simp (implicitDefEqProofs := false) only [↓reduceIte, go_sem, Nat.reduceAdd, Nat.reduceLT, Nat.reduceLeDiff, Nat.reduceEqDiff, eq_self, t8, t9, t11, t12, hi, us_len, hx, hwg, hc0, List.length_map, hpl, hsn, Val.enc]
      refine ⟨by omega, by omega, ?_⟩
      refine Rnd.same ⟨rfl, ?_⟩
      simp (implicitDefEqProofs := false) only [↓reduceIte, go_sem, Nat.reduceLT, Nat.reduceEqDiff, eq_self, t8, t9, hw]
    · rintro s H' ⟨rfl, t8, t9, t11, t12⟩
      simp (implicitDefEqProofs := false) only [↓reduceIte, go_sem, Nat.reduceLT, Nat.reduceEqDiff, eq_self, t9, t11, t12, us_len]
      refine AEnd.ret ?_
      rw [List.take_length]
      simp (implicitDefEqProofs := false) only [↓reduceIte, go_sem, Nat.reduceLT, Nat.reduceEqDiff, eq_self, List.take_of_length_le (show ((pickV W C).map Val.enc).length ≤ C.length by rw [List.length_map, pickV, List.length_map]; omega)]
  · rw [if_neg he]
    refine Does.subT (cs := [.d (.v (.slice none 0 0)), iA e]) ?_ (.cons .nil (.cons (.refl _) .nil))
    refine Does.of_awp (hint := (fun _ => false)) Tryz.func9 (by kernel_rfl) rfl [6, 7] (by kernel_rfl) (by decide) (by simp [Tryz.ntmps9]) ?_
    rw [Tryz.ntmps9]
    simp (implicitDefEqProofs := false) only [↓reduceIte, go_sem, Nat.reduceLT, Nat.reduceEqDiff, reduceCtorEq, eq_self]
    refine KCall.ok (htd _) ?_
    simp (implicitDefEqProofs := false) only [↓reduceIte, go_sem, Nat.reduceLT, Nat.reduceEqDiff, eq_self, he]
    refine AEnd.ret0 ?_
    simp (implicitDefEqProofs := false) only [↓reduceIte, go_sem, Nat.reduceLT, Nat.reduceEqDiff, eq_self]
end Go.Proofs.YtkapgooedfompaaGreat
namespace Go.Proofs.YtkapgooedfompaaGreat
open Go.Proofs.YtkapgooedfompaaGreatAw Go.RowKit
set_option linter.unusedVariables false
set_option linter.unusedSimpArgs false
theorem int_arg {x : AV} (h : ArgOk Tryz.prog 3 x) : ∃ n : Int, x = .d (.v (.int .i64 n)) ∧ I64 n := by
  obtain ⟨d, rfl, hf⟩ := arg_one h K.agB3 (sh := .int .i64) (by kernel_rfl)
  obtain ⟨n, rfl, hn⟩ := Fits.i64_inv hf
  exact ⟨n, rfl, hn⟩
theorem bytes_arg {x : AV} (h : ArgOk Tryz.prog 23 x) : ∃ b : List Nat, x = .d (.list false (bys b)) ∧ b.length ≤ 140737488351232 ∧ ∀ c ∈ b, c < 256 := by
  obtain ⟨d, rfl, hf⟩ := arg_one h K.agB23 (sh := .slice 1 [.int .u8]) (by kernel_rfl)
  obtain ⟨l, rfl, h1, h2⟩ := Fits.slice_inv hf
  obtain ⟨la, rfl, h3⟩ := map_inv (enc := fun n : Nat => [.v (.int .u8 (n : Int))]) (p := fun n => n < 256) fun e he => by
    obtain ⟨x, xs, rfl, hx, h⟩ := FitsL.cons_inv (h2 e he)
    cases FitsL.nil_inv h
    obtain ⟨n, rfl, hn⟩ := Fits.int_inv hx
    have hn : IntKind.u8.min ≤ n ∧ n ≤ IntKind.u8.max := by simpa [Lit.wf] using hn
    have h0 : IntKind.u8.min = 0 := by decide
    have h1 : IntKind.u8.max = 255 := by decide
    obtain ⟨m, rfl⟩ := Int.eq_ofNat_of_zero_le (show 0 ≤ n by omega)
    exact ⟨m, rfl, by omega⟩
  exact ⟨la, rfl, by simpa using h1, h3⟩
theorem vals_arg {x : AV} (h : ArgOk Tryz.prog 22 x) : ∃ l : List Val, x = .d (.list false (l.map Val.enc)) ∧ l.length ≤ 140737488351232 ∧ ∀ a ∈ l, a.Ok := by
  obtain ⟨d, rfl, hf⟩ := arg_one h K.agB22 (sh := .slice 32 shVal) (by kernel_rfl)
  obtain ⟨l, rfl, hl, hn⟩ := vals_inv hf
  exact ⟨l, rfl, by omega, hn⟩
end Go.Proofs.YtkapgooedfompaaGreat
namespace Go.Proofs.YtkapgooedfompaaGreat
open Go.Proofs.YtkapgooedfompaaGreatAw Go.RowKit
set_option linter.unusedVariables false
set_option linter.unusedSimpArgs false
set_option maxRecDepth 10000 in
set_option maxHeartbeats 1000000 in
theorem dictBytes_walk (l : List Val) (k : Int) (b : List Nat) (n : Int) (hl : l.length ≤ 140737488351232) (hls : ∀ v ∈ l, v.Ok) (hbl : b.length ≤ 140737488351232) (hb : ∀ c ∈ b, c < 256) (H : AHeap) :
    Does Tryz.prog 3 [.d (.list false (l.map Val.enc)), .d (.v (.int .i64 k)), .d (.list false (bys b)), .d (.v (.int .i64 n))] H (.ok (bA true)) H := by
  have hok : ∀ v ∈ l, I64 v.i := fun v hv => (hls v hv).i
  have hfd := few09_does l false H (by omega) fun k hk => (hls k hk).s
  cases hf : fewP l with
  | false =>
    rw [hf] at hfd
    refine Does.of_awp (hint := (fun _ => false)) Tryz.func3 (by kernel_rfl) rfl [8] (by kernel_rfl) (by decide) (by simp [Tryz.ntmps3]) ?_
    rw [Tryz.ntmps3]
    simp (implicitDefEqProofs := false) only [go_sem]
    refine KCall.ok (shown09_does _) ?_
    simp (implicitDefEqProofs := false) only [↓reduceIte, go_sem, Nat.reduceLT, reduceCtorEq, eq_self]
    refine KCall.ok hfd ?_
    simp (implicitDefEqProofs := false) only [↓reduceIte, go_sem, Nat.reduceLT, Nat.reduceEqDiff, eq_self]
    refine AEnd.ret0 ?_
    simp (implicitDefEqProofs := false) only [↓reduceIte, go_sem, Nat.reduceLT, eq_self]
  | true =>
    rw [hf] at hfd
    have hll := fewP_len hf
    have d1 := dictBytes_does l k hok H (by omega)
    have d2 := rdictBytes_does l k hls H (by omega)
    have d3 := dictOf_does b n k hbl hb H
    have d4 := rdictOf_does b n k hbl hb H
    have d5 := tocodes_does b n k hbl hb H
    have d6 := rtocodes_does b n k hbl hb H
    have d7 := words_does l false H (by omega)
    have d8 := words09_does l false (by omega) (fun v hv => Val.Oks (hls v hv)) H
    have hT : (toCodesV b n k).1.length ≤ 4096 ∧ (toCodesV b n k).2.1.length ≤ 4096 := by
      rcases ht : toCodesV b n k with ⟨W, C, e⟩
      by_cases he : e = 0
      · subst he
        obtain ⟨N, many, j, i, rfl, hN, _, _, hmN, _, _, hW, _, hC, hu⟩ := toCodes_ok ht
        subst hC
        rw [unpackL_len]
        exact ⟨by show W.length ≤ 4096; omega, hN⟩
      · have hz : toCodesV b n k = ([], [], (toCodesV b n k).2.2) ∨ (toCodesV b n k).2.2 = 0 := by
          unfold toCodesV tailV
          repeat' split
          all_goals first | exact .inl rfl | exact .inr rfl
        rcases hz with hz | hz
        · rw [ht] at hz
          simp only [Prod.mk.injEq] at hz
          rw [hz.1, hz.2.1]
          exact ⟨by simp, by simp⟩
        · rw [ht] at hz
          exact absurd hz he
    have hO : (ofDict b n k).1.length ≤ 4096 := by
      unfold ofDict
      split
      · unfold pickV; rw [List.length_map]; exact hT.2
      · simp
    have s1 := same05_does (toCodesV b n k).1 (toCodesV b n k).1 false false H (by omega)
    have s2 := same01_does (toCodesV b n k).2.1 (toCodesV b n k).2.1 false false H (by omega)
    have s3 := same05_does (wordsP cmpV l) (wordsP cmpV l) false false H (by have := words_len l; omega)
    have s4 := same05_does (ofDict b n k).1 (ofDict b n k).1 false false H (by omega)
    rw [decide_eq_true rfl] at s1 s2 s3 s4
    have v3 : ∀ X : List Nat, ((pushAll (X.map fun (n : Nat) => (n : Int))).toList == (pushAll (X.map fun (n : Nat) => (n : Int))).toList) = true := fun X => by simp
    generalize toCodesV b n k = t at *
    generalize ofDict b n k = u at *
    generalize wordsP cmpV l = W at *
    generalize plainP l k = p at *
    generalize dictL l k = X at *
    obtain ⟨t1, t2, t3⟩ := t
    obtain ⟨u1, u2⟩ := u
    simp only at *
    refine Does.of_awp (hint := (fun _ => false)) Tryz.func3 (by kernel_rfl) rfl [8] (by kernel_rfl) (by decide) (by simp [Tryz.ntmps3]) ?_
    rw [Tryz.ntmps3]
    simp (implicitDefEqProofs := false) only [go_sem]
    refine KCall.ok (shown09_does _) ?_
    simp (implicitDefEqProofs := false) only [↓reduceIte, go_sem, Nat.reduceLT, reduceCtorEq, eq_self]
    refine KCall.ok hfd ?_
    simp (implicitDefEqProofs := false) only [↓reduceIte, go_sem, Nat.reduceLT, Nat.reduceEqDiff, reduceCtorEq, eq_self]
    refine KCall.ok d1 ?_
    simp (implicitDefEqProofs := false) only [↓reduceIte, go_sem, Nat.reduceLT, Nat.reduceEqDiff, reduceCtorEq, eq_self]
    refine KCall.ok d2 ?_
    simp (implicitDefEqProofs := false) only [↓reduceIte, go_sem, Nat.reduceLT, Nat.reduceEqDiff, eq_self]
    refine KCall.ok d3 ?_
    simp (implicitDefEqProofs := false) only [↓reduceIte, go_sem, Nat.reduceLT, Nat.reduceEqDiff, eq_self]
    refine KCall.ok d4 ?_
    simp (implicitDefEqProofs := false) only [↓reduceIte, go_sem, Nat.reduceLT, Nat.reduceEqDiff, eq_self]
    refine KCall.ok d5 ?_
    simp (implicitDefEqProofs := false) only [↓reduceIte, go_sem, Nat.reduceLT, Nat.reduceEqDiff, eq_self]
    refine KCall.ok d6 ?_
    simp (implicitDefEqProofs := false) only [↓reduceIte, go_sem, Nat.reduceLT, Nat.reduceEqDiff, eq_self]
    refine KCall.ok s1 ?_
    simp (implicitDefEqProofs := false) only [↓reduceIte, go_sem, Nat.reduceLT, Nat.reduceEqDiff, eq_self]
    refine KCall.ok s2 ?_
    simp (implicitDefEqProofs := false) only [↓reduceIte, go_sem, Nat.reduceLT, Nat.reduceEqDiff, reduceCtorEq, eq_self]
    refine KCall.ok d7 ?_
    simp (implicitDefEqProofs := false) only [↓reduceIte, go_sem, Nat.reduceLT, Nat.reduceEqDiff, reduceCtorEq, eq_self]
    refine KCall.ok d8 ?_
    simp (implicitDefEqProofs := false) only [↓reduceIte, go_sem, Nat.reduceLT, Nat.reduceEqDiff, eq_self]
    refine KCall.ok s3 ?_
    simp (implicitDefEqProofs := false) only [↓reduceIte, go_sem, Nat.reduceLT, Nat.reduceEqDiff, reduceCtorEq, eq_self, asBytes_bys, v3]
    refine KCall.ok s4 ?_
    simp (implicitDefEqProofs := false) only [↓reduceIte, go_sem, Nat.reduceLT, Nat.reduceEqDiff, eq_self]
    refine AEnd.ret0 ?_
    simp (implicitDefEqProofs := false) only [↓reduceIte, go_sem, Nat.reduceLT, eq_self]
theorem dictBytes.dictBytes_does (x0 : AV) (h0 : ArgOk Tryz.prog 22 x0) (x1 : AV) (h1 : ArgOk Tryz.prog 3 x1) (x2 : AV) (h2 : ArgOk Tryz.prog 23 x2) (x3 : AV) (h3 : ArgOk Tryz.prog 3 x3) : Does Tryz.prog 3 [x0, x1, x2, x3] [] (.ok (.d (.v (.bool true)))) [] := by
  obtain ⟨l, rfl, hl, hls⟩ := vals_arg h0
  obtain ⟨k, rfl, _⟩ := int_arg h1
  obtain ⟨b, rfl, hbl, hb⟩ := bytes_arg h2
  obtain ⟨n, rfl, _⟩ := int_arg h3
  exact dictBytes_walk l k b n hl hls hbl hb []
end Go.Proofs.YtkapgooedfompaaGreat

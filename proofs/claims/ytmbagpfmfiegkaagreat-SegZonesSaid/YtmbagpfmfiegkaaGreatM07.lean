/- crc.Table, Sum, four: what they do. crc.Block, Open: what they do. seg.Bytes: what it does. Sizes and bytes of dict's bytes (plain). What a segment that is made holds, in plain terms. What a codec lays down it reads (plain). seg.head: what it does. (*seg.Seg).zone: what it does. crc.Open: what it does. seg.Of: the walk. seg.Of: what it does. A made segment is read as it was (plain). The statements' few and shown (layer 11): what they do. The codec that is chosen has the fewest bytes (plain). The law SegZones: what it does. -/
import Derived.Test.YtmbagpfmfiegkaaGreatM06
namespace Go.Proofs.YtmbagpfmfiegkaaGreat
open Go.Proofs.YtmbagpfmfiegkaaGreatAw Go.RowKit
set_option linter.unusedVariables false
set_option linter.unusedSimpArgs false
/-- A bit of the check sum's register. -/
def stepW (w : Nat) : Nat := if w % 2 = 1 then w / 2 ^^^ 3988292384 else w / 2
def stepsW (w : Nat) : Nat → Nat
  | 0 => w
  | k + 1 => stepW (stepsW w k)
theorem stepW_lt {w : Nat} (h : w < 4294967296) : stepW w < 4294967296 := by
  unfold stepW
  split
  · exact Nat.xor_lt_two_pow (n := 32) (by omega) (by decide)
  · omega
theorem stepsW_lt {w : Nat} (h : w < 4294967296) : ∀ k, stepsW w k < 4294967296
  | 0 => h
  | k + 1 => stepW_lt (stepsW_lt h k)
def rowW (i : Nat) : Nat := stepsW i 8
def tabW : List Nat := (List.range 256).map rowW
theorem tabW_len : tabW.length = 256 := by simp [tabW]
theorem tabW_get {i : Nat} (h : i < 256) : tabW[i]? = some (rowW i) := by simp [tabW, h]
abbrev wA (n : Nat) : AV := .d (.v (.int .u32 n))
/-- The table's cells, so many of them laid down. -/
def tabC (i : Nat) : List AV := (tabW.take i).map wA ++ List.replicate (256 - i) (wA 0)
theorem tabC_len {i : Nat} (h : i ≤ 256) : (tabC i).length = 256 := by simp [tabC, tabW_len]; omega
theorem tabC_set {i : Nat} (h : i < 256) : (tabC i).set i (wA (rowW i)) = tabC (i + 1) := by
  unfold tabC
  have e1 : tabW.take (i + 1) = tabW.take i ++ [rowW i] := by
    rw [List.take_succ_eq_append_getElem (by rw [tabW_len]; exact h)]
    congr 2
    have := tabW_get h
    rw [List.getElem?_eq_getElem (by rw [tabW_len]; exact h)] at this
    exact Option.some.inj this
  have e2 : 256 - i = (256 - (i + 1)) + 1 := by omega
  rw [e1, e2, List.replicate_succ, List.map_append, List.append_assoc, List.set_append_right _ _ (by simp [tabW_len]; omega)]
  simp [tabW_len, Nat.min_eq_left (show i ≤ 256 by omega)]
def sumW (b : List Nat) : Nat := b.foldl (fun w c => w / 256 ^^^ rowW ((w % 256) ^^^ c)) 4294967295
def fourW (w : Nat) : List Nat := [w % 256, w / 256 % 256, w / 65536 % 256, w / 16777216 % 256]
theorem rowW_lt {i : Nat} (h : i < 256) : rowW i < 4294967296 := stepsW_lt (by omega) 8
theorem wrap32N (n : Nat) (h : n < 4294967296) : IntKind.u32.wrap (n : Int) = (n : Int) := by
  simp only [IntKind.wrap, IntKind.signed, IntKind.bits]
  simp
  omega
theorem shr32 (w k : Nat) (h : k ≤ 32) : shrI .u32 (w : Int) (k : Int) = ((w / 2 ^ k : Nat) : Int) := by
  have : min k 32 = k := by omega
  simp only [shrI, IntKind.bits, Int.toNat_natCast, this]
  rw [Int.fdiv_eq_ediv_of_nonneg _ (by exact_mod_cast Nat.zero_le _)]
  norm_cast
theorem and32 {w : Nat} (h : w < 4294967296) : IntKind.u32.wrap (andI .u32 (w : Int) 1) = ((w % 2 : Nat) : Int) := by
  have := andI_nat .u32 w 1 (by simp only [IntKind.bits]; omega) (by decide)
  rw [show ((1 : Nat) : Int) = 1 from rfl] at this
  rw [this, Nat.and_one_is_mod]
  exact wrap32N _ (by omega)
theorem xor32 {a b : Nat} (ha : a < 4294967296) (hb : b < 4294967296) : IntKind.u32.wrap (xorI .u32 (a : Int) (b : Int)) = ((a ^^^ b : Nat) : Int) := by
  rw [xorI_nat .u32 a b (by simp only [IntKind.bits]; omega) (by simp only [IntKind.bits]; omega)]
  exact wrap32N _ (Nat.xor_lt_two_pow (n := 32) (by omega) (by omega))
set_option maxRecDepth 10000 in
set_option maxHeartbeats 1000000 in
theorem table_does (H : AHeap) : Does Tryz.prog 43 [] H (.ok (.agg (tabW.map wA))) H := by
  refine Does.of_awpC (hint := fun _ => false) Tryz.func43 (by kernel_rfl) rfl [.cell 0 86] (by kernel_rfl) (by simp [Tryz.ntmps43]) ?_
  rw [Tryz.ntmps43]
  have h0 : List.map (fun c => AV.d (D.v c)) (Array.replicate 256 (Value.int IntKind.u32 0)).toList = tabC 0 := by simp [tabC]
  have l0 := tabC_len (i := 0) (by omega)
  simp (implicitDefEqProofs := false) only [go_sem, eq_self]
  rw [h0]
  refine awp_for (fun i s H' => H' = H ++ [.box 86 256 0 1 (tabC 0), .box 86 256 0 1 (tabC i)] ∧ s 0 = .ptr H.length 0 0 0 ∧ s 1 = .ptr (H.length + 1) 0 0 0 ∧ s 5 = iA i) 256 (by omega) (Weak.refl _ _) ?_ ?_ ?_
  · refine ⟨rfl, ?_⟩
    simp (implicitDefEqProofs := false) only [↓reduceIte, go_sem, Nat.reduceLT, Nat.reduceEqDiff, reduceCtorEq, eq_self]
  · rintro i s H' hi hw ⟨rfl, t0, t1, t5⟩
    have wi := wrap32N i (by omega)
    have hrl := stepsW_lt (w := i) (by omega)
    have hcl := tabC_len (i := i) (by omega)
    have hset := tabC_set hi
    generalize tabC (i + 1) = C2 at *
    generalize tabC i = C at *
    generalize tabC 0 = C0 at *
    simp (implicitDefEqProofs := false) only [↓reduceIte, go_sem, Nat.reduceLT, Nat.reduceEqDiff, eq_self, t5, show ((i : Int) < 256) = True from eq_true (by omega), wi]
    refine awp_for (fun k s H' => H' = H ++ [.box 86 256 0 1 C0, .box 86 256 0 1 C] ∧ s 0 = .ptr H.length 0 0 0 ∧ s 1 = .ptr (H.length + 1) 0 0 0 ∧ s 2 = iA i ∧ s 3 = wA (stepsW i k) ∧ s 5 = iA i ∧ s 10 = iA k) 8 (by omega) (Weak.refl _ _) ?_ ?_ ?_
    · refine ⟨rfl, ?_⟩
      simp (implicitDefEqProofs := false) only [↓reduceIte, go_sem, Nat.reduceLT, Nat.reduceEqDiff, reduceCtorEq, eq_self, t0, t1, t5]
      rfl
    · rintro k s H1 hk hw2 ⟨rfl, t0, t1, t2, t3, t5, t10⟩
      have hl := hrl k
      have e1 : stepsW i (k + 1) = stepW (stepsW i k) := rfl
      rw [e1]
      generalize stepsW i k = x at *
      have sh := shr32 x 1 (by decide)
      rw [show ((1 : Nat) : Int) = 1 from rfl, show 2 ^ 1 = 2 from rfl] at sh
      have an := and32 hl
      have xo := xor32 (a := x / 2) (b := 3988292384) (by omega) (by decide)
      rw [show ((3988292384 : Nat) : Int) = 3988292384 from rfl] at xo
      by_cases hb : x % 2 = 1
      · have e2 : stepW x = x / 2 ^^^ 3988292384 := if_pos hb
        rw [hb] at an
        rw [e2]
        generalize hy : ((x / 2 : Nat) : Int) = y at *
        simp (implicitDefEqProofs := false) only [↓reduceIte, go_sem, Nat.reduceLT, Nat.reduceEqDiff, Int.reduceLE, eq_self, t3, t10, show ((k : Int) < 8) = True from eq_true (by omega), an, sh, xo]
        refine Rnd.same ⟨rfl, ?_⟩
        simp (implicitDefEqProofs := false) only [↓reduceIte, go_sem, Nat.reduceLT, Nat.reduceEqDiff, reduceCtorEq, eq_self, t0, t1, t2, t5, hw2]
      · have hb0 : x % 2 = 0 := by omega
        have e2 : stepW x = x / 2 := if_neg hb
        rw [hb0] at an
        rw [e2]
        generalize hy : ((x / 2 : Nat) : Int) = y at *
        simp (implicitDefEqProofs := false) only [↓reduceIte, go_sem, Nat.reduceLT, Nat.reduceEqDiff, Int.reduceLE, Int.reduceEq, eq_self, t3, t10, show ((k : Int) < 8) = True from eq_true (by omega), an, sh]
        refine Rnd.same ⟨rfl, ?_⟩
        simp (implicitDefEqProofs := false) only [↓reduceIte, go_sem, Nat.reduceLT, Nat.reduceEqDiff, reduceCtorEq, eq_self, t0, t1, t2, t5, hw2, ← hy]
    · rintro s H1 ⟨rfl, t0, t1, t2, t3, t5, t10⟩
      have e3 : stepsW i 8 = rowW i := rfl
      rw [e3] at t3
      have hset' : List.take i C ++ AV.d (D.v (Value.int IntKind.u32 (rowW i : Int))) :: List.drop (i + 1) C = C2 := by
        rw [← hset, List.set_eq_take_append_cons_drop, if_pos (by omega)]
      simp (implicitDefEqProofs := false) only [↓reduceIte, go_sem, owrite, Nat.reduceLT, Nat.reduceEqDiff, Int.reduceLT, eq_self, t1, t2, t3, t10, hcl, show ((i : Int) < 256) = True from eq_true (by omega), show i + 1 ≤ 256 by omega, hset', t5]
      refine Rnd.same ⟨rfl, ?_⟩
      simp (implicitDefEqProofs := false) only [↓reduceIte, go_sem, Nat.reduceLT, Nat.reduceEqDiff, reduceCtorEq, eq_self, t0, t1, hw]
  · rintro s H' ⟨rfl, t0, t1, t5⟩
    have l6 := tabC_len (i := 256) (by omega)
    have e6 : tabC 256 = tabW.map wA := by unfold tabC; rw [List.take_of_length_le (by rw [tabW_len]; exact Nat.le_refl _)]; simp
    have o6 : (tabC 256).all AV.one = true := by
      rw [e6, List.all_eq_true]
      intro x hx
      obtain ⟨n, _, rfl⟩ := List.mem_map.1 hx
      rfl
    have f6 : ∀ (G : AHeap) (m : Nat), (tabC 256).map (frz0 G m) = tabC 256 := fun G m => by rw [e6, List.map_map]; rfl
    rw [← e6]
    have k6 : List.take 256 (tabC 256) = tabC 256 := List.take_of_length_le (by omega)
    generalize tabC 256 = C at *
    generalize tabC 0 = C0 at *
    have d0 : C0.drop 256 = [] := List.drop_eq_nil_of_le (by omega)
    simp (implicitDefEqProofs := false) only [↓reduceIte, go_sem, oread, owrite, Nat.reduceLT, Nat.reduceEqDiff, Int.reduceLT, reduceCtorEq, eq_self, t0, t1, t5, l6, k6, l0, o6, d0, List.take_zero, List.nil_append, List.append_nil]
    refine AEndC.ret ?_
    simp (implicitDefEqProofs := false) only [↓reduceIte, go_sem, oread, Nat.reduceLeDiff, reduceCtorEq, eq_self, resAll, resAV, t0, l6, k6, f6]
theorem not32 {c : Nat} (h : c < 4294967296) : IntKind.u32.wrap (notI .u32 (c : Int)) = ((4294967295 - c : Nat) : Int) := by
  have e : notI .u32 (c : Int) = ((4294967295 - c : Nat) : Int) := by
    unfold notI
    show (((BitVec.ofInt 32 4294967295 ^^^ BitVec.ofInt 32 (c : Int)).toNat : Nat) : Int) = _
    have h1 : BitVec.ofInt 32 4294967295 = BitVec.allOnes 32 := by decide
    rw [h1, BitVec.allOnes_xor, BitVec.toNat_not, BitVec.ofInt_natCast, BitVec.toNat_ofNat, Nat.mod_eq_of_lt h]
  rw [e]
  exact wrap32N _ (by omega)
theorem wrap8M (n : Nat) : IntKind.u8.wrap (n : Int) = ((n % 256 : Nat) : Int) := by
  simp only [IntKind.wrap, IntKind.signed, IntKind.bits]
  simp
set_option maxRecDepth 10000 in
set_option maxHeartbeats 1000000 in
theorem sum_does (b : List Nat) (nn : Bool) (hb : ∀ c ∈ b, c < 256) (hl : b.length ≤ 140737488355328) (H : AHeap) : Does Tryz.prog 42 [.agg (tabW.map wA), .d (.list nn (bys b))] H (.ok (.d (.v (.int .u32 (4294967295 - sumW b : Nat))))) H := by
  have tl : (tabW.map wA).length = 256 := by rw [List.length_map, tabW_len]
  have tg : ∀ i, i < 256 → (tabW.map wA)[i]? = some (wA (rowW i)) := fun i hi => by rw [List.getElem?_map, tabW_get hi]; rfl
  have ta : (tabW.map wA).all AV.one = true := by
    rw [List.all_eq_true]
    intro x hx
    obtain ⟨n, _, rfl⟩ := List.mem_map.1 hx
    rfl
  generalize tabW.map wA = C at *
  have hlt : ∀ k, (b.take k).foldl (fun w c => w / 256 ^^^ rowW ((w % 256) ^^^ c)) 4294967295 < 4294967296 := by
    intro k
    induction k with
    | zero => simp
    | succ k ih =>
      rcases Nat.lt_or_ge k b.length with hk | hk
      · rw [List.take_succ_eq_append_getElem hk, List.foldl_append]
        simp only [List.foldl_cons, List.foldl_nil]
        have hc := hb _ (List.getElem_mem hk)
        generalize List.foldl _ _ (b.take k) = w at *
        have h1 : (w % 256) ^^^ b[k] < 256 := Nat.xor_lt_two_pow (n := 8) (by omega) (by omega)
        exact Nat.xor_lt_two_pow (n := 32) (by omega) (rowW_lt h1)
      · rw [List.take_of_length_le (by omega)]
        rw [List.take_of_length_le hk] at ih
        exact ih
  refine Does.of_awp (hint := (fun _ => false)) Tryz.func42 (by kernel_rfl) rfl [4] (by kernel_rfl) (by decide) (by simp [Tryz.ntmps42]) ?_
  rw [Tryz.ntmps42]
  simp (implicitDefEqProofs := false) only [↓reduceIte, go_sem, Nat.reduceLT, Nat.reduceEqDiff, eq_self, ta, tl]
  refine awp_for (fun k s H' => H' = H ++ [.box 86 256 0 1 C] ∧ s 2 = .ptr H.length 0 0 0 ∧ s 5 = wA ((b.take k).foldl (fun w c => w / 256 ^^^ rowW ((w % 256) ^^^ c)) 4294967295) ∧ s 8 = .d (.list nn (bys b)) ∧ s 9 = iA b.length ∧ s 10 = iA k) b.length (by omega) (Weak.refl _ _) ?_ ?_ ?_
  · refine ⟨rfl, ?_⟩
    simp (implicitDefEqProofs := false) only [↓reduceIte, go_sem, Nat.reduceLT, Nat.reduceEqDiff, eq_self, bys_len]
    rfl
  · rintro k s H' hk hw ⟨rfl, t2, t5, t8, t9, t10⟩
    have hx : (bys b)[k]? = some [.v (.int .u8 ((b[k] : Nat) : Int))] := by unfold bys; rw [List.getElem?_map, List.getElem?_eq_getElem hk]; rfl
    have hc := hb _ (List.getElem_mem hk)
    have hwl := hlt k
    have e1 : (b.take (k + 1)).foldl (fun w c => w / 256 ^^^ rowW ((w % 256) ^^^ c)) 4294967295 = (fun w c => w / 256 ^^^ rowW ((w % 256) ^^^ c)) ((b.take k).foldl (fun w c => w / 256 ^^^ rowW ((w % 256) ^^^ c)) 4294967295) b[k] := by rw [List.take_succ_eq_append_getElem hk, List.foldl_append]; rfl
    rw [e1]
    generalize (b.take k).foldl (fun w c => w / 256 ^^^ rowW ((w % 256) ^^^ c)) 4294967295 = w at *
    generalize b[k] = c at *
    have sh := shr32 w 8 (by decide)
    rw [show ((8 : Nat) : Int) = 8 from rfl, show 2 ^ 8 = 256 from rfl] at sh
    have w8 := wrap8M w
    have x8 : IntKind.u8.wrap (xorI .u8 ((w % 256 : Nat) : Int) (c : Int)) = (((w % 256) ^^^ c : Nat) : Int) := by
      rw [xorI_nat .u8 _ c (by simp only [IntKind.bits]; omega) (by simp only [IntKind.bits]; omega), wrap8M, Nat.mod_eq_of_lt (Nat.xor_lt_two_pow (n := 8) (by omega) (by omega))]
    have hj : (w % 256) ^^^ c < 256 := Nat.xor_lt_two_pow (n := 8) (by omega) (by omega)
    have hg := tg _ hj
    have hr := rowW_lt hj
    have hgt : List.take 1 (List.drop ((w % 256) ^^^ c) C) = [wA (rowW ((w % 256) ^^^ c))] := by
      obtain ⟨h1, h2⟩ := List.getElem?_eq_some_iff.1 hg
      rw [List.drop_eq_getElem_cons h1, h2]; rfl
    have hx32 := xor32 (a := w / 256) (b := rowW ((w % 256) ^^^ c)) (by omega) hr
    generalize hjj : (w % 256) ^^^ c = j at *
    generalize ((w % 256 : Nat) : Int) = y at *
    generalize ((w / 256 : Nat) : Int) = z at *
    simp (implicitDefEqProofs := false) only [↓reduceIte, go_sem, oread, Nat.reduceLT, Nat.reduceLeDiff, Nat.reduceEqDiff, Int.reduceLE, eq_self, t2, t5, t8, t9, t10, hk, hx, sh, w8, x8, tl, show ((j : Int) < 256) = True from eq_true (by omega), show j ≤ 255 by omega, hgt, hx32]
    refine Rnd.same ⟨rfl, ?_⟩
    simp (implicitDefEqProofs := false) only [↓reduceIte, go_sem, Nat.reduceLT, Nat.reduceEqDiff, eq_self, t2, t8, t9, hw, hjj]
  · rintro s H' ⟨rfl, t2, t5, t8, t9, t10⟩
    have hn := not32 (hlt b.length)
    have hs : (b.take b.length).foldl (fun w c => w / 256 ^^^ rowW ((w % 256) ^^^ c)) 4294967295 = sumW b := by rw [List.take_length]; rfl
    rw [hs] at hn t5
    simp (implicitDefEqProofs := false) only [↓reduceIte, go_sem, Nat.reduceLT, Nat.reduceEqDiff, eq_self, t5, t9, t10, hn]
    refine AEnd.ret ?_
    simp (implicitDefEqProofs := false) only [↓reduceIte, go_sem, Nat.reduceLT, eq_self]
def b8 (n : Nat) : AV := .d (.v (.int .u8 n))
def fourC (w i : Nat) : List AV := ((fourW w).take i).map b8 ++ List.replicate (4 - i) (b8 0)
theorem fourC_len (w : Nat) {i : Nat} (h : i ≤ 4) : (fourC w i).length = 4 := by simp [fourC, fourW]; omega
theorem fourC_set (w : Nat) : ∀ {i : Nat}, i < 4 → (fourC w i).take i ++ b8 (w / 2 ^ (8 * i) % 256) :: (fourC w i).drop (i + 1) = fourC w (i + 1)
  | 0, _ => by simp [fourC, fourW, List.replicate]
  | 1, _ => by simp [fourC, fourW, List.replicate]
  | 2, _ => by simp [fourC, fourW, List.replicate]
  | 3, _ => by simp [fourC, fourW]
  | n + 4, h => by omega
set_option maxRecDepth 10000 in
theorem four_does (w : Nat) (hw : w < 4294967296) (H : AHeap) : Does Tryz.prog 41 [.d (.v (.int .u32 w))] H (.ok (.agg ((fourW w).map b8))) H := by
  refine Does.of_awpC (hint := fun _ => false) Tryz.func41 (by kernel_rfl) rfl [.cell 2 83] (by kernel_rfl) (by simp [Tryz.ntmps41]) ?_
  rw [Tryz.ntmps41]
  have h0 : [AV.d (D.v (.int .u8 0)), .d (.v (.int .u8 0)), .d (.v (.int .u8 0)), .d (.v (.int .u8 0))] = fourC w 0 := rfl
  simp (implicitDefEqProofs := false) only [go_sem, eq_self]
  refine awp_for (fun i s H' => H' = H ++ [.box 83 4 0 1 (fourC w 0), .box 83 4 0 1 (fourC w i)] ∧ s 0 = .d (.v (.int .u32 w)) ∧ s 2 = .ptr H.length 0 0 0 ∧ s 3 = .ptr (H.length + 1) 0 0 0 ∧ s 5 = iA i) 4 (by omega) (Weak.refl _ _) ?_ ?_ ?_
  · refine ⟨rfl, ?_⟩
    simp (implicitDefEqProofs := false) only [↓reduceIte, go_sem, Nat.reduceLT, Nat.reduceEqDiff, reduceCtorEq, eq_self]
  · rintro i s H' hi hw' ⟨rfl, t0, t2, t3, t5⟩
    have hl := fourC_len w (i := i) (by omega)
    have hset := fourC_set w hi
    have m1 : IntKind.i64.wrap (8 * (i : Int)) = ((8 * i : Nat) : Int) := by rw [wrap64_in _ (by omega) (by omega)]; omega
    have m2 : IntKind.u64.wrap ((8 * i : Nat) : Int) = ((8 * i : Nat) : Int) := wrapU64N _ (by omega)
    have sh := shr32 w (8 * i) (by omega)
    have w8 := wrap8M (w / 2 ^ (8 * i))
    unfold b8 at hset
    generalize ((w / 2 ^ (8 * i) % 256 : Nat) : Int) = y at *
    generalize ((w / 2 ^ (8 * i) : Nat) : Int) = z at *
    have q0 : ((0 : Int) ≤ ((8 * i : Nat) : Int)) = True := eq_true (by omega)
    generalize ((8 * i : Nat) : Int) = q at *
    generalize fourC w (i + 1) = C2 at *
    generalize fourC w i = C at *
    generalize fourC w 0 = C0 at *
    simp (implicitDefEqProofs := false) only [↓reduceIte, go_sem, owrite, Nat.reduceLT, Nat.reduceEqDiff, reduceCtorEq, eq_self, t0, t3, t5, m1, m2, sh, w8, q0, hl, show ((i : Int) < 4) = True from eq_true (by omega), show i + 1 ≤ 4 by omega, hset]
    refine Rnd.same ⟨rfl, ?_⟩
    simp (implicitDefEqProofs := false) only [↓reduceIte, go_sem, Nat.reduceLT, Nat.reduceEqDiff, reduceCtorEq, eq_self, t0, t2, t3, hw']
  · rintro s H' ⟨rfl, t0, t2, t3, t5⟩
    have e4 : fourC w 4 = (fourW w).map b8 := by simp [fourC, fourW]
    have l4 := fourC_len w (i := 4) (by omega)
    have l0 := fourC_len w (i := 0) (by omega)
    have f4 : ∀ (G : AHeap) (m : Nat), (fourC w 4).map (frz0 G m) = fourC w 4 := fun G m => by rw [e4, List.map_map]; rfl
    have o4 : (fourC w 4).all AV.one = true := by rw [e4]; rfl
    have k4 : List.take 4 (fourC w 4) = fourC w 4 := List.take_of_length_le (by omega)
    rw [← e4]
    generalize fourC w 4 = C at *
    generalize fourC w 0 = C0 at *
    have d0 : C0.drop 4 = [] := List.drop_eq_nil_of_le (by omega)
    simp (implicitDefEqProofs := false) only [↓reduceIte, go_sem, oread, owrite, Nat.reduceLT, Nat.reduceEqDiff, Int.reduceLT, eq_self, t2, t3, t5, l4, l0, o4, k4, d0, List.take_zero, List.nil_append, List.append_nil]
    refine AEndC.ret ?_
    simp (implicitDefEqProofs := false) only [↓reduceIte, go_sem, oread, Nat.reduceLeDiff, Nat.reduceEqDiff, eq_self, resAll, resAV, t2, l4, k4, f4]
end Go.Proofs.YtmbagpfmfiegkaaGreat
namespace Go.Proofs.YtmbagpfmfiegkaaGreat
open Go.Proofs.YtmbagpfmfiegkaaGreatAw Go.RowKit
set_option linter.unusedVariables false
set_option linter.unusedSimpArgs false
def fourD (w : Nat) : List D := (fourW w).map fun (n : Nat) => .v (.int .u8 (n : Int))
theorem fourD_b8 (w : Nat) : (fourW w).map b8 = (fourD w).map AV.d := by simp [fourD, b8]
theorem fourD_bys (w : Nat) : (fourD w).map (fun d => [d]) = bys (fourW w) := by simp [fourD, bys]
/-- The check sum. -/
def crcP (b : List Nat) : Nat := 4294967295 - sumW b
theorem crcP_lt (b : List Nat) : crcP b < 4294967296 := by unfold crcP; omega
def blockP (b : List Nat) : List Nat := putP b.length ++ b ++ fourW (crcP b)
theorem fourW_lt (w : Nat) : ∀ c ∈ fourW w, c < 256 := by
  intro c hc
  simp only [fourW, List.mem_cons, List.not_mem_nil, or_false] at hc
  omega
set_option maxRecDepth 10000 in
set_option maxHeartbeats 1000000 in
theorem block_own (b : List Nat) (nn : Bool) (hb : ∀ c ∈ b, c < 256) (hl : b.length ≤ 1000000000) (H : AHeap) : Does Tryz.prog 22 [.d (.list nn (bys b))] H (.ok (.sl (H.length + 1) ((putP b.length).length + 2) 0 (blockP b).length)) (H ++ [.arr 83 4 1 [], .arr 5 1 ((putP b.length).length + 2) (bys (blockP b))]) := by
  have hs := fun H => sum_does b nn hb (by omega) H
  have hc := crcP_lt b
  have hf := fun H => four_does (crcP b) hc H
  rw [fourD_b8] at hf
  have hl4 : (fourD (crcP b)).length = 4 := rfl
  have ho4 : ((fourD (crcP b)).map AV.d).all AV.one = true := by simp [AV.one]
  have hb4 := fourD_bys (crcP b)
  have hl4' : ((fourD (crcP b)).map AV.d).length = 4 := by rw [List.length_map]; exact hl4
  have hbl : (bys (fourW (crcP b))).length = 4 := by rw [bys_len]; rfl
  unfold blockP
  unfold crcP at *
  generalize fourD (4294967295 - sumW b) = F at *
  generalize fourW (4294967295 - sumW b) = W at *
  have hpo := fun H => putOwn_does b.length (by omega) H
  have hpl : (putP b.length).length ≤ 11 := by
    have := putP_len 10 b.length (by omega)
    omega
  have hwl : W.length = 4 := by rw [← bys_len]; exact hbl
  generalize putP b.length = p at *
  have wl : IntKind.u64.wrap (b.length : Int) = (b.length : Int) := wrapU64N _ (by omega)
  have hex : ∀ o : AObj, Ext (H ++ [.arr 83 4 1 []]) (H ++ [.arr 83 4 1 [], o]) := fun o => by
    have := Ext.app (H ++ [.arr 83 4 1 []]) [o]
    rwa [List.append_assoc] at this
  refine Does.of_awp (hint := (fun t => t == 1000002)) Tryz.func22 (by kernel_rfl) rfl [2] (by kernel_rfl) (by decide) (by simp [Tryz.ntmps22]) ?_
  rw [Tryz.ntmps22]
  simp (implicitDefEqProofs := false) only [go_sem, Nat.reduceAdd, Nat.reduceBEq]
  refine KCall.ok (table_does _) ?_
  simp (implicitDefEqProofs := false) only [↓reduceIte, go_sem, Nat.reduceLT, Nat.reduceEqDiff, reduceCtorEq, eq_self]
  refine KCall.ok (hs _) ?_
  simp (implicitDefEqProofs := false) only [↓reduceIte, go_sem, Nat.reduceLT, eq_self]
  refine KCall.ok (hf _) ?_
  generalize hFm : F.map AV.d = C at *
  have k4 : List.take 4 C = C := List.take_of_length_le (by omega)
  simp (implicitDefEqProofs := false) only [↓reduceIte, go_sem, owrite, Nat.reduceAdd, Nat.reduceLT, Nat.reduceEqDiff, Nat.reduceBEq, eq_self, hl4', ho4, List.append_nil]
  refine ⟨_, _, Weak.frzBox _ _ 3 H.length 83 4 0 1 F (by simp (implicitDefEqProofs := false) only [go_sem, eq_self, hFm]) (by simp (implicitDefEqProofs := false) only [↓reduceIte, go_sem, Nat.reduceLT, eq_self]), ?_⟩
  simp (implicitDefEqProofs := false) only [go_sem]
  refine awp_drawL [some false, some false, some false, some true, some false, some true, none, some true] 3 (H ++ [.arr 83 4 1 []]) K.mixed (by kernel_rfl) (by kernel_rfl) (by kernel_rfl) (Ext.refl _) ?_
  simp (implicitDefEqProofs := false) only [↓reduceIte, go_sem, Nat.reduceLT, reduceCtorEq, eq_self, bys_len, wl]
  refine KCall.ok (hpo _) ?_
  simp (implicitDefEqProofs := false) only [↓reduceIte, go_sem, Nat.reduceLT, Nat.reduceLeDiff, Nat.reduceEqDiff, reduceCtorEq, eq_self, bys_one, bys_len, bys_app, hl4, hb4, hwl]
  refine ⟨hex _, by omega, by omega, hex _, by omega, by omega, hex _, ?_⟩
  exact ⟨_, Weak.refl _ _, by simp (implicitDefEqProofs := false) only [↓reduceIte, go_sem, Nat.reduceAdd, Nat.reduceLT, eq_self, Nat.add_assoc]⟩
theorem block_does (b : List Nat) (nn : Bool) (hb : ∀ c ∈ b, c < 256) (hl : b.length ≤ 1000000000) (H : AHeap) : Does Tryz.prog 22 [.d (.list nn (bys b))] H (.ok (.d (.list false (bys (blockP b))))) H := by
  have h := (block_own b nn hb hl H).drop
  have hg : (H ++ [AObj.arr 83 4 1 [], .arr 5 1 ((putP b.length).length + 2) (bys (blockP b))])[H.length + 1]? = some (.arr 5 1 ((putP b.length).length + 2) (bys (blockP b))) := by simp
  rw [frz_sl, frz0_sl, if_neg (by omega), hg] at h
  simp only [if_true, List.drop_zero] at h
  rwa [take_len _ _ (bys_len _)] at h
end Go.Proofs.YtmbagpfmfiegkaaGreat
namespace Go.Proofs.YtmbagpfmfiegkaaGreat
open Go.Proofs.YtmbagpfmfiegkaaGreatAw Go.RowKit
set_option linter.unusedVariables false
set_option linter.unusedSimpArgs false
/-- A segment's bytes, without the block. -/
def segI (k c : Nat) (s : Sg) : List Nat := numsB [k, c, s.zone.rows, s.zone.nulls] ++ packB s.nulls ++ valB s.zone.mn ++ valB s.zone.mx ++ s.body
def segB (k c : Nat) (s : Sg) : List Nat := blockP (segI k c s)
set_option maxRecDepth 10000 in
set_option maxHeartbeats 4000000 in
theorem sbytes_own (s : Sg) (k c : Nat) (hk : s.kind = (k : Int)) (hc : s.codec = (c : Int)) (hk2 : k ≤ 1000000) (hc2 : c ≤ 1000000) (hr : s.zone.rows ≤ 1000000000) (hn : s.zone.nulls ≤ 1000000000) (hnl : s.nulls.length ≤ 1000000) (hbl : s.body.length ≤ 900000000)
    (hi : (I64 s.zone.mn.i ∧ mayV s.zone.mn = true) ∧ I64 s.zone.mx.i ∧ mayV s.zone.mx = true) (hb : ∀ x ∈ s.body, x < 256) (hb2 : ∀ x ∈ segI k c s, x < 256) (H : AHeap) :
    Does Tryz.prog 15 [.agg s.cs] H (.ok (.sl (H.length + 3) ((putP (segI k c s).length).length + 2) 0 (segB k c s).length)) (H ++ [.box 30 12 0 1 s.cs, .arr 5 1 9 [], .arr 83 4 1 [], .arr 5 1 ((putP (segI k c s).length).length + 2) (bys (segB k c s))]) := by
  have hv1 := fun H => valBytes_does s.zone.mn hi.1.1 hi.1.2 H
  have hv2 := fun H => valBytes_does s.zone.mx hi.2.1 hi.2.2 H
  have hnb := fun H => nbytes_does s.nulls false hnl H
  have hnu := fun H => numbersOwn_does [k, c, s.zone.rows, s.zone.nulls] true (by simp) (fun n hn' => by simp only [List.mem_cons, List.not_mem_nil, or_false] at hn'; omega) H
  have hnl2 : (numsB [k, c, s.zone.rows, s.zone.nulls]).length ≤ 44 := by
    have h1 := putP_len 10 k (by omega)
    have h2 := putP_len 10 c (by omega)
    have h3 := putP_len 10 s.zone.rows (by omega)
    have h4 := putP_len 10 s.zone.nulls (by omega)
    simp only [numsB, List.flatMap_cons, List.flatMap_nil, List.length_append, List.length_nil]
    omega
  have hpl : (packB s.nulls).length ≤ 1000000 := by rw [packB_len]; omega
  have hll1 := valB_len hi.1.1 hi.1.2
  have hll2 := valB_len hi.2.1 hi.2.2
  have hbk : ∀ o1 o2, Does Tryz.prog 22 [.d (.list false (bys (segI k c s)))] (H ++ [o1, o2]) (.ok (.sl (H.length + 3) ((putP (segI k c s).length).length + 2) 0 (blockP (segI k c s)).length)) (H ++ [o1, o2, .arr 83 4 1 [], .arr 5 1 ((putP (segI k c s).length).length + 2) (bys (blockP (segI k c s)))]) := fun o1 o2 => by
    have := block_own (segI k c s) false hb2 (by unfold segI; simp only [List.length_append]; omega) (H ++ [o1, o2])
    rwa [List.append_assoc, List.length_append] at this
  unfold segB
  have hcs : s.cs = [iA k, iA c, iA s.zone.rows, iA s.zone.nulls, iA s.zone.mn.kind, iA s.zone.mn.i, sA s.zone.mn.s, iA s.zone.mx.kind, iA s.zone.mx.i, sA s.zone.mx.s, .d (.list false (boolR s.nulls)), .d (.list false (bys s.body))] := by unfold Sg.cs; rw [hk, hc]
  rw [hcs]
  unfold segI at *
  have hnr : natR [k, c, s.zone.rows, s.zone.nulls] = [[D.v (.int .i64 (k : Int))], [.v (.int .i64 (c : Int))], [.v (.int .i64 (s.zone.rows : Int))], [.v (.int .i64 (s.zone.nulls : Int))]] := rfl
  rw [hnr] at hnu
  generalize numsB [k, c, s.zone.rows, s.zone.nulls] = N at *
  generalize packB s.nulls = PB at *
  generalize valB s.zone.mn = V1 at *
  generalize valB s.zone.mx = V2 at *
  generalize s.body = BD at *
  generalize s.nulls = NL at *
  generalize s.zone.mn = mn at *
  generalize s.zone.mx = mx at *
  generalize s.zone.rows = rw at *
  generalize s.zone.nulls = nu at *
  clear hcs hk hc
  have hE : ∀ o : AObj, Ext (H ++ [.box 30 12 0 1 [iA k, iA c, iA rw, iA nu, iA mn.kind, iA mn.i, sA mn.s, iA mx.kind, iA mx.i, sA mx.s, .d (.list false (boolR NL)), .d (.list false (bys BD))]]) (H ++ [.box 30 12 0 1 [iA k, iA c, iA rw, iA nu, iA mn.kind, iA mn.i, sA mn.s, iA mx.kind, iA mx.i, sA mx.s, .d (.list false (boolR NL)), .d (.list false (bys BD))], o]) = True := fun o => eq_true (Ext.objs H ⟨fun _ => rfl, trivial⟩)
  obtain ⟨x, hx⟩ : ∃ x, x = N ++ PB ++ V1 ++ V2 ++ BD := ⟨_, rfl⟩
  rw [← hx] at hbk ⊢
  have hE3 : ∀ T : AHeap, Ext (H ++ [.box 30 12 0 1 [iA k, iA c, iA rw, iA nu, iA mn.kind, iA mn.i, sA mn.s, iA mx.kind, iA mx.i, sA mx.s, .d (.list false (boolR NL)), .d (.list false (bys BD))]]) (H ++ .box 30 12 0 1 [iA k, iA c, iA rw, iA nu, iA mn.kind, iA mn.i, sA mn.s, iA mx.kind, iA mx.i, sA mx.s, .d (.list false (boolR NL)), .d (.list false (bys BD))] :: T) = True := fun T => eq_true (by have := Ext.app (H ++ [.box 30 12 0 1 [iA k, iA c, iA rw, iA nu, iA mn.kind, iA mn.i, sA mn.s, iA mx.kind, iA mx.i, sA mx.s, .d (.list false (boolR NL)), .d (.list false (bys BD))]]) T; rwa [List.append_assoc] at this)
  have hsetb : ∀ o1 o2 o3 : AObj, (H ++ [o1, o2]).set (H.length + 1) o3 = H ++ [o1, o3] := fun o1 o2 o3 => by simp []
  refine Does.of_awp (hint := (fun _ => false)) Tryz.func15 (by kernel_rfl) rfl [2] (by kernel_rfl) (by decide) (by simp [Tryz.ntmps15]) ?_
  rw [Tryz.ntmps15]
  simp (implicitDefEqProofs := false) only [↓reduceIte, go_sem, oread, Nat.reduceAdd, Nat.reduceLT, Nat.reduceLeDiff, Nat.reduceEqDiff, eq_self]
  refine KCall.ok (hnu _) ?_
  simp (implicitDefEqProofs := false) only [↓reduceIte, go_sem, oread, Nat.reduceAdd, Nat.reduceLT, Nat.reduceLeDiff, Nat.reduceEqDiff, eq_self]
  refine KCall.ok (hv1 _) ?_
  simp (implicitDefEqProofs := false) only [↓reduceIte, go_sem, oread, Nat.reduceAdd, Nat.reduceLT, Nat.reduceLeDiff, Nat.reduceEqDiff, eq_self]
  refine KCall.ok (hv2 _) ?_
  simp (implicitDefEqProofs := false) only [↓reduceIte, go_sem, oread, Nat.reduceAdd, Nat.reduceLT, Nat.reduceLeDiff, Nat.reduceEqDiff, eq_self]
  refine KCall.ok (hnb _) ?_
  simp (implicitDefEqProofs := false) only [↓reduceIte, go_sem, Nat.reduceAdd, Nat.reduceLT, Nat.reduceEqDiff, eq_self, bys_one, bys_len, bys_app, List.length_cons, List.length_nil]
  refine ⟨by omega, by omega, ?_⟩
  refine awp_drawL [some false, some false, some true, some false, some true, none, none, some true, some true] 2 (H ++ [.box 30 12 0 1 [iA k, iA c, iA rw, iA nu, iA mn.kind, iA mn.i, sA mn.s, iA mx.kind, iA mx.i, sA mx.s, .d (.list false (boolR NL)), .d (.list false (bys BD))]]) K.mixed (by kernel_rfl) (by kernel_rfl) (by kernel_rfl) (of_eq_true (hE _)) ?_
  simp (implicitDefEqProofs := false) only [↓reduceIte, go_sem, oread, Nat.reduceAdd, Nat.reduceLT, Nat.reduceEqDiff, eq_self, bys_one, bys_len, bys_app, hE]
  refine ⟨by omega, by omega, by omega, by omega, by omega, by omega, by omega, by omega, ?_⟩
  refine KCall.frz [] (e := 5) (k := 1) (ver := 8) (es := bys (N ++ PB ++ V1 ++ V2 ++ BD)) (by simp) (by rw [List.drop_zero, List.take_of_length_le (by rw [bys_len]; simp only [List.length_append]; omega), hsetb, ← hx]; exact hbk _ _) ?_
  simp (implicitDefEqProofs := false) only [↓reduceIte, go_sem, Nat.reduceAdd, Nat.reduceLT, eq_self, hE3]
  exact ⟨_, Weak.refl _ _, by simp (implicitDefEqProofs := false) only [↓reduceIte, go_sem, Nat.reduceLT, eq_self]⟩
theorem sbytes_does (s : Sg) (k c : Nat) (hk : s.kind = (k : Int)) (hc : s.codec = (c : Int)) (hk2 : k ≤ 1000000) (hc2 : c ≤ 1000000) (hr : s.zone.rows ≤ 1000000000) (hn : s.zone.nulls ≤ 1000000000) (hnl : s.nulls.length ≤ 1000000) (hbl : s.body.length ≤ 900000000)
    (hi : (I64 s.zone.mn.i ∧ mayV s.zone.mn = true) ∧ I64 s.zone.mx.i ∧ mayV s.zone.mx = true) (hb : ∀ x ∈ s.body, x < 256) (hb2 : ∀ x ∈ segI k c s, x < 256) (H : AHeap) :
    Does Tryz.prog 15 [.agg s.cs] H (.ok (.d (.list false (bys (segB k c s))))) H := by
  have h := (sbytes_own s k c hk hc hk2 hc2 hr hn hnl hbl hi hb hb2 H).drop
  rw [frz_sl, frz0_sl, if_neg (by omega), show ∀ a b c d : AObj, (H ++ [a, b, c, d])[H.length + 3]? = some d from fun a b c d => by simp] at h
  simp only [if_true, List.drop_zero] at h
  rwa [take_len _ _ (bys_len _)] at h
end Go.Proofs.YtmbagpfmfiegkaaGreat
namespace Go.Proofs.YtmbagpfmfiegkaaGreat
open Go.Proofs.YtmbagpfmfiegkaaGreatAw Go.RowKit
set_option linter.unusedVariables false
set_option linter.unusedSimpArgs false
theorem valB_byte {v : Val} (hi : I64 v.i) (hm : mayV v = true) : Byte (valB v) := by
  unfold valB
  split
  · exact putP_byte64 (zigP_lt hi.1 hi.2)
  · split
    · exact beP_byte _
    · split
      · rename_i h3
        have hs := may_size hm h3
        intro c hc
        unfold textP at hc
        rcases List.mem_append.1 hc with h | h
        · exact putP_byte64 (n := v.s.size) (by omega) c h
        · exact sbytes_byte _ c h
      · intro c hc; simp at hc
theorem dictB_byte {l : List Val} {k : Int} (h : plainP l k = 0) (hok : ∀ v ∈ l, I64 v.i) : Byte (dictB l) := by
  have hmay := plainP_may h
  have h4 := plainP_len h
  have hwl := words_len l
  intro c hc
  unfold dictB at hc
  rcases List.mem_append.1 hc with hc | hc
  · rcases List.mem_append.1 hc with hc | hc
    · exact putP_byte64 (n := (wordsP cmpV l).length) (by omega) c hc
    · obtain ⟨v, hv, hc⟩ := List.mem_flatMap.1 hc
      have hv' := words_mem cmpV_tri hv
      exact valB_byte (hok v hv') (hmay v hv') c hc
  · obtain ⟨i, _, rfl⟩ := List.mem_map.1 hc
    exact byteAt_lt _ _
theorem wbytes_len : ∀ (W : List Val), (∀ v ∈ W, I64 v.i ∧ mayV v = true) → (wbytes W).length ≤ W.length * 1035
  | [], _ => by simp [wbytes]
  | v :: W, h => by
    have h1 := wbytes_len W fun x hx => h x (by simp [hx])
    have h2 := valB_len (h v (by simp)).1 (h v (by simp)).2
    have e : wbytes (v :: W) = valB v ++ wbytes W := by simp [wbytes]
    rw [e, List.length_append, List.length_cons]
    omega
theorem dictB_len {l : List Val} {k : Int} (h : plainP l k = 0) (hok : ∀ v ∈ l, I64 v.i) : (dictB l).length ≤ 10000000 := by
  have hmay := plainP_may h
  have h4 := plainP_len h
  have hwl := words_len l
  have h1 := wbytes_len (wordsP cmpV l) fun v hv => ⟨hok v (words_mem cmpV_tri hv), hmay v (words_mem cmpV_tri hv)⟩
  have h2 := putP_len 10 (wordsP cmpV l).length (by omega)
  have hw := widP_le (n := (wordsP cmpV l).length) (by omega)
  have h3 : (l.map (codeW l)).length * widP (wordsP cmpV l).length ≤ 4096 * 12 := Nat.mul_le_mul (by rw [List.length_map]; omega) hw
  unfold dictB
  rw [List.length_append, List.length_append, packP, packB_len, bitsL_len]
  omega
end Go.Proofs.YtmbagpfmfiegkaaGreat
namespace Go.Proofs.YtmbagpfmfiegkaaGreat
open Go.Proofs.YtmbagpfmfiegkaaGreatAw Go.RowKit
set_option linter.unusedVariables false
set_option linter.unusedSimpArgs false
theorem dbytes_len (l : List Val) (hl : l.length ≤ 4096) (hok : ∀ v ∈ l, I64 v.i) : (bytesD l).length ≤ 100000 := by
  cases l with
  | nil => simp [bytesD]
  | cons v r =>
    have hv := hok v (by simp)
    have hz := zigP_lt hv.1 hv.2
    have hw := widthP_le (stepsP_lt (v :: r))
    have l1 := putP_len 10 (zigP v.i) (by omega)
    have l2 := putP_len 10 (widthP (stepsP (v :: r))) (by omega)
    have h3 : (stepsP (v :: r)).length * widthP (stepsP (v :: r)) ≤ 4096 * 64 := Nat.mul_le_mul (by rw [stepsP_len]; omega) hw
    rw [bytesD_cons, List.length_append, List.length_append, packP, packB_len, bitsL_len]
    omega
theorem dbytes_byte (l : List Val) (hok : ∀ v ∈ l, I64 v.i) : Byte (bytesD l) := by
  cases l with
  | nil => intro n hn; simp [bytesD] at hn
  | cons v r =>
    have h := hok v (by simp)
    exact ((putP_byte64 (zigP_lt h.1 h.2)).app (putP_byte64 (by have := widthP_le (stepsP_lt (v :: r)); omega))).app (packP_byte _ _)
theorem wbytes_byte {l : List Val} (h : ∀ v ∈ l, I64 v.i ∧ mayV v = true) : Byte (wbytes l) := fun c hc => by
  obtain ⟨v, hv, hc⟩ := List.mem_flatMap.1 hc
  exact valB_byte (h v hv).1 (h v hv).2 c hc
theorem runB_ok {r : Nat × Val} (h1 : r.1 ≤ 4096) (h2 : I64 r.2.i ∧ mayV r.2 = true) : Byte (runB r) ∧ (runB r).length ≤ 1050 := by
  have h3 := putP_len 10 r.1 (by omega)
  have h4 := valB_len h2.1 h2.2
  refine ⟨(putP_byte64 (by omega)).app (valB_byte h2.1 h2.2), ?_⟩
  unfold runB
  rw [List.length_append]; omega
theorem rleB_ok : ∀ {R : List (Nat × Val)}, (∀ r ∈ R, r.1 ≤ 4096 ∧ I64 r.2.i ∧ mayV r.2 = true) → Byte (rleB R) ∧ (rleB R).length ≤ R.length * 1050
  | [], _ => ⟨fun c hc => by simp [rleB] at hc, by simp [rleB]⟩
  | r :: R, h => by
    obtain ⟨h1, h2⟩ := rleB_ok (R := R) fun x hx => h x (by simp [hx])
    obtain ⟨h3, h4⟩ := runB_ok (h r (by simp)).1 (h r (by simp)).2
    have e : rleB (r :: R) = runB r ++ rleB R := by simp [rleB]
    rw [e]
    exact ⟨h3.app h1, by rw [List.length_append, List.length_cons]; omega⟩
theorem body_ok {l : List Val} {k w : Int} (hp : plainP l k = 0) (hok : ∀ v ∈ l, I64 v.i) : Byte (bodyP l k w).1 ∧ (bodyP l k w).1.length ≤ 10000000 := by
  have hmay := plainP_may hp
  have h4 := plainP_len hp
  have hv : ∀ v ∈ l, I64 v.i ∧ mayV v = true := fun v hv => ⟨hok v hv, hmay v hv⟩
  unfold bodyP
  split
  · rw [show plainL l k = wbytes l from if_pos hp]
    exact ⟨wbytes_byte hv, by have := wbytes_len l hv; simp only; omega⟩
  split
  · rw [show rleL l k = rleB (runsP l) from if_pos hp]
    have h1 := runsP_len l l.length
    have h2 := runsP_cnt l l.length
    rw [List.take_length] at h1 h2
    have h3 := runsP_val (p := fun v => I64 v.i ∧ mayV v = true) (l := l) hv
    obtain ⟨g1, g2⟩ := rleB_ok (R := runsP l) fun r hr => ⟨by have := h2 r hr; omega, h3 r hr⟩
    exact ⟨g1, by simp only; omega⟩
  split
  · rw [show dictL l k = dictB l from if_pos hp]
    exact ⟨dictB_byte hp hok, dictB_len hp hok⟩
  split
  · unfold deltaB
    split
    · exact ⟨dbytes_byte l hok, by have := dbytes_len l h4 hok; simp only; omega⟩
    · exact ⟨fun c hc => by simp at hc, by simp⟩
  · exact ⟨fun c hc => by simp at hc, by simp⟩
theorem body_codec {l : List Val} {k w : Int} (h : (bodyP l k w).2 = 0) : 1 ≤ w ∧ w ≤ 4 ∧ (w = 4 → k = 1) := by
  unfold bodyP at h
  split at h
  · omega
  split at h
  · omega
  split at h
  · omega
  split at h
  · omega
  · simp at h
/-- What is said of an end. -/
def EndOk (v : Val) : Prop := I64 v.i ∧ mayV v = true
def ZnOk (z : Zn) : Prop := EndOk z.mn ∧ EndOk z.mx
theorem zoneStep_ok {z : Zn} {v : Val} (hz : ZnOk z) (hv : v.kind ≠ 0 → EndOk v) : ZnOk (zoneStep z v) := by
  unfold zoneStep
  split
  · exact hz
  rename_i hk
  have hv := hv hk
  have h1 : ZnOk (zone1 z v) := by unfold zone1; split; exact ⟨hv, hv⟩; exact hz
  have h2 : ZnOk (zone2 (zone1 z v) v) := by unfold zone2; split; exact ⟨hv, h1.2⟩; exact h1
  unfold zone3; split; exact ⟨h2.1, hv⟩; exact h2
theorem zoneP_ok {l : List Val} (h : ∀ v ∈ l, v.kind ≠ 0 → EndOk v) : ZnOk (zoneP l) := by
  have : ∀ (l : List Val) (z : Zn), (∀ v ∈ l, v.kind ≠ 0 → EndOk v) → ZnOk z → ZnOk (l.foldl zoneStep z) := by
    intro l
    induction l with
    | nil => exact fun z _ h => h
    | cons v l ih => exact fun z hl hz => ih _ (fun x hx => hl x (by simp [hx])) (zoneStep_ok hz (hl v (by simp)))
  have e0 : EndOk ⟨0, 0, noS⟩ := ⟨⟨by decide, by decide⟩, by simp [mayV, noS_toList]⟩
  exact this l _ h ⟨e0, e0⟩
theorem zoneStep_rows (z : Zn) (v : Val) : (zoneStep z v).rows = z.rows := by
  unfold zoneStep
  split
  · rfl
  · unfold zone3; split <;> (unfold zone2; split <;> (unfold zone1; split <;> rfl))
theorem zoneP_rows (l : List Val) : (zoneP l).rows = l.length := by
  have : ∀ (m : List Val) (z : Zn), (m.foldl zoneStep z).rows = z.rows := by
    intro m
    induction m with
    | nil => exact fun z => rfl
    | cons v m ih => exact fun z => (ih _).trans (zoneStep_rows z v)
  exact this l _
theorem zoneStep_count (z : Zn) (v : Val) : (zoneStep z v).nulls = z.nulls + if v.kind = 0 then 1 else 0 := by
  unfold zoneStep
  split
  · rfl
  · have e1 : (zone1 z v).nulls = z.nulls := by unfold zone1; split <;> rfl
    have e2 : ∀ z, (zone2 z v).nulls = z.nulls := fun z => by unfold zone2; split <;> rfl
    have e3 : ∀ z, (zone3 z v).nulls = z.nulls := fun z => by unfold zone3; split <;> rfl
    rw [e3, e2, e1]; rfl
theorem zoneP_nulls (l : List Val) : (zoneP l).nulls = countP1 (nullsV l) := by
  have : ∀ (m : List Val) (z : Zn), (m.foldl zoneStep z).nulls = z.nulls + countP1 (nullsV m) := by
    intro m
    induction m with
    | nil => exact fun z => rfl
    | cons v m ih =>
      intro z
      rw [List.foldl_cons, ih, zoneStep_count]
      have e : countP1 (nullsV (v :: m)) = (if v.kind = 0 then 1 else 0) + countP1 (nullsV m) := by
        unfold nullsV countP1
        rw [List.map_cons, List.countP_cons]
        by_cases h : v.kind = 0 <;> simp [h] <;> omega
      rw [e]; omega
  rw [zoneP, this l _]
  simp
/-- What a made segment is. -/
structure Made (l : List Val) (k w : Int) (s : Sg) : Prop where
  some0 : plainP (someV l) k = 0
  len : l.length ≤ 4096
  body0 : (bodyP (someV l) k (whichP l k w)).2 = 0
  eq : s = ⟨k, whichP l k w, zoneP l, makeNulls l, (bodyP (someV l) k (whichP l k w)).1⟩
theorem make_made {l : List Val} {k w : Int} (h : (makeP l k w).2 = 0) : Made l k w (makeP l k w).1 := by
  unfold makeP at *
  split at h
  · rename_i he; exact absurd h he
  rename_i h1
  rw [if_neg h1]
  split at h
  · simp at h
  rename_i h2
  rw [if_neg h2]
  split at h
  · rename_i he; exact absurd h he
  rename_i h3
  rw [if_neg h3]
  exact ⟨by simpa using h1, by omega, by simpa using h3, rfl⟩
theorem some_sub {l : List Val} {v : Val} (h : v ∈ someV l) : v ∈ l := (List.mem_filter.1 h).1
theorem some_in {l : List Val} {v : Val} (h : v ∈ l) (hk : v.kind ≠ 0) : v ∈ someV l := List.mem_filter.2 ⟨h, by simpa using hk⟩
theorem Made.good {l : List Val} {k w : Int} {s : Sg} (h : Made l k w s) (hok : ∀ v ∈ l, I64 v.i) : ∀ v ∈ l, v.kind ≠ 0 → GoodV k v := fun v hv hk => by
  have hs := some_in hv hk
  have := ((plainP_iff _ _).1 h.some0).2.2 v hs
  exact ⟨this.2, this.1, hok v hv⟩
/-- The bytes of a made segment. -/
theorem Made.bytes {l : List Val} {k w : Int} {s : Sg} (hm : Made l k w s) (hok : ∀ v ∈ l, I64 v.i) : ∃ kn cn : Nat, k = (kn : Int) ∧ 1 ≤ kn ∧ kn ≤ 3 ∧ whichP l k w = (cn : Int) ∧ 1 ≤ cn ∧ cn ≤ 4 ∧ Byte (segI kn cn s) ∧ (segI kn cn s).length ≤ 20000000 ∧ (∀ H, Does Tryz.prog 15 [.agg s.cs] H (.ok (.d (.list false (bys (segB kn cn s))))) H) ∧
    ∀ H : AHeap, Does Tryz.prog 15 [.agg s.cs] H (.ok (.sl (H.length + 3) ((putP (segI kn cn s).length).length + 2) 0 (segB kn cn s).length)) (H ++ [.box 30 12 0 1 s.cs, .arr 5 1 9 [], .arr 83 4 1 [], .arr 5 1 ((putP (segI kn cn s).length).length + 2) (bys (segB kn cn s))]) := by
  have hk := ((plainP_iff _ _).1 hm.some0).1
  rw [kindsP_iff] at hk
  obtain ⟨c1, c2, _⟩ := body_codec hm.body0
  have hz : ZnOk (zoneP l) := zoneP_ok fun v hv hk => ⟨hok v hv, (hm.good hok v hv hk).1⟩
  have hnu := zoneP_nulls l
  have hro := zoneP_rows l
  have hcl := countP1_le (nullsV l)
  have hnl := nullsV_len l
  obtain ⟨b1, b2⟩ := body_ok (w := whichP l k w) hm.some0 fun v hv => hok v (some_sub hv)
  have hml : (makeNulls l).length ≤ 4096 := by have := hm.len; unfold makeNulls; split; simp; omega
  have hl4 := hm.len
  have hlen1 := putP_len 10 k.toNat (by omega)
  have hlen2 := putP_len 10 (whichP l k w).toNat (by omega)
  have hlen3 := putP_len 10 (zoneP l).rows (by omega)
  have hlen4 := putP_len 10 (zoneP l).nulls (by omega)
  have hb2 : Byte (segI k.toNat (whichP l k w).toNat s) := by
    rw [hm.eq]
    unfold segI
    simp only
    refine ((((?_ : Byte _).app ?_).app (valB_byte hz.1.1 hz.1.2)).app (valB_byte hz.2.1 hz.2.2)).app b1
    · intro c hc
      obtain ⟨x, hx, hc⟩ := List.mem_flatMap.1 hc
      simp only [List.mem_cons, List.not_mem_nil, or_false] at hx
      exact putP_byte64 (by omega) c hc
    · intro c hc
      obtain ⟨i, _, rfl⟩ := List.mem_map.1 hc
      exact byteAt_lt _ _
  have hv1 := valB_len hz.1.1 hz.1.2
  have hv2 := valB_len hz.2.1 hz.2.2
  have pre := @sbytes_own s k.toNat (whichP l k w).toNat (by rw [hm.eq]; simp only; omega) (by rw [hm.eq]; simp only; omega) (by omega) (by omega) (by rw [hm.eq]; simp only; omega) (by rw [hm.eq]; simp only; omega) (by rw [hm.eq]; simp only; omega) (by rw [hm.eq]; simp only; omega) (by rw [hm.eq]; exact hz) (by rw [hm.eq]; exact b1) hb2
  have pre2 := @sbytes_does s k.toNat (whichP l k w).toNat (by rw [hm.eq]; simp only; omega) (by rw [hm.eq]; simp only; omega) (by omega) (by omega) (by rw [hm.eq]; simp only; omega) (by rw [hm.eq]; simp only; omega) (by rw [hm.eq]; simp only; omega) (by rw [hm.eq]; simp only; omega) (by rw [hm.eq]; exact hz) (by rw [hm.eq]; exact b1) hb2
  refine ⟨k.toNat, (whichP l k w).toNat, by omega, by omega, by omega, by omega, by omega, by omega, hb2, ?_, pre2, pre⟩
  rw [hm.eq]
  unfold segI
  simp only [List.length_append, numsB, List.flatMap_cons, List.flatMap_nil, List.length_nil, packB_len]
  omega
end Go.Proofs.YtmbagpfmfiegkaaGreat
namespace Go.Proofs.YtmbagpfmfiegkaaGreat
open Go.Proofs.YtmbagpfmfiegkaaGreatAw Go.RowKit
set_option linter.unusedVariables false
set_option linter.unusedSimpArgs false
/-- No run stands behind one of its value; o: what stands ahead. -/
def Ch : Option Val → List (Nat × Val) → Prop
  | _, [] => True
  | o, r :: R => o ≠ some r.2 ∧ Ch (some r.2) R
def lastO (o : Option Val) : List (Nat × Val) → Option Val
  | [] => o
  | r :: R => lastO (some r.2) R
theorem Ch_snoc : ∀ (o : Option Val) (R : List (Nat × Val)) (r : Nat × Val), Ch o (R ++ [r]) ↔ Ch o R ∧ lastO o R ≠ some r.2
  | o, [], r => by simp [Ch, lastO]
  | o, x :: R, r => by
    show (o ≠ some x.2 ∧ Ch (some x.2) (R ++ [r])) ↔ (o ≠ some x.2 ∧ Ch (some x.2) R) ∧ lastO (some x.2) R ≠ some r.2
    rw [Ch_snoc, and_assoc]
theorem lastO_snoc : ∀ (o : Option Val) (R : List (Nat × Val)) (r : Nat × Val), lastO o (R ++ [r]) = some r.2
  | o, [], r => rfl
  | o, x :: R, r => lastO_snoc (some x.2) R r
theorem lastO_last {R : List (Nat × Val)} (h : R ≠ []) : lastO none R = some (lastR R).2 := by
  have e := List.dropLast_concat_getLast h
  have e2 : lastR R = R.getLast h := by unfold lastR; rw [List.getLast?_eq_some_getLast h]; rfl
  rw [e2]
  have := lastO_snoc none R.dropLast (R.getLast h)
  rwa [e] at this
def sumR (R : List (Nat × Val)) : Nat := (R.map (·.1)).sum
/-- All runs, one behind the other, without a bound. -/
def flatR (R : List (Nat × Val)) : List Val := R.flatMap fun r => List.replicate r.1 r.2
theorem flatR_app (R S : List (Nat × Val)) : flatR (R ++ S) = flatR R ++ flatR S := by simp [flatR]
theorem flatR_len (R : List (Nat × Val)) : (flatR R).length = sumR R := by
  induction R with
  | nil => rfl
  | cons r R ih => simp [flatR, sumR] at ih ⊢
theorem spread_flat (R : List (Nat × Val)) (h : sumR R ≤ 4096) : spreadP R = flatR R := by
  have : ∀ (R : List (Nat × Val)) (l : List Val), l.length + sumR R ≤ 4096 → R.foldl spreadStep l = l ++ flatR R := by
    intro R
    induction R with
    | nil => intro l _; simp [flatR]
    | cons r R ih =>
      intro l h
      have e : sumR (r :: R) = r.1 + sumR R := by simp [sumR]
      rw [e] at h
      rw [List.foldl_cons, ih _ (by simp only [spreadStep, List.length_append, List.length_replicate]; omega)]
      have e2 : min r.1 (4096 - l.length) = r.1 := by omega
      simp [spreadStep, e2, flatR]
  have := this R [] (by simpa using h)
  simpa [spreadP] using this
structure Runs (l : List Val) (R : List (Nat × Val)) : Prop where
  ch : Ch none R
  flat : flatR R = l
  one : ∀ r ∈ R, 1 ≤ r.1
theorem Runs.add {l : List Val} {R : List (Nat × Val)} (h : Runs l R) (v : Val) : Runs (l ++ [v]) (addR R v) := by
  unfold addR
  by_cases c : R ≠ [] ∧ (lastR R).2 = v
  · rw [if_pos c]
    obtain ⟨hne, hv⟩ := c
    have e := List.dropLast_concat_getLast hne
    have e2 : lastR R = R.getLast hne := by unfold lastR; rw [List.getLast?_eq_some_getLast hne]; rfl
    rw [e2] at hv ⊢
    obtain ⟨h1, h2, h3⟩ := h
    generalize R.getLast hne = q at *
    generalize R.dropLast = D at *
    subst e
    obtain ⟨n, w⟩ := q
    simp only at hv ⊢
    subst hv
    rw [Ch_snoc] at h1
    refine ⟨(Ch_snoc _ _ _).2 h1, ?_, fun r hr => ?_⟩
    · rw [← h2, flatR_app, flatR_app, List.append_assoc]
      congr 1
      simp [flatR, List.replicate_succ']
    · rcases List.mem_append.1 hr with hr | hr
      · exact h3 r (by simp [hr])
      · rw [List.mem_singleton.1 hr]; simp only; omega
  · rw [if_neg c]
    refine ⟨(Ch_snoc _ _ _).2 ⟨h.ch, fun hl => ?_⟩, ?_, fun r hr => ?_⟩
    · by_cases hne : R = []
      · subst hne; simp [lastO] at hl
      · rw [lastO_last hne] at hl
        exact c ⟨hne, Option.some.inj hl⟩
    · rw [flatR_app, h.flat]; simp [flatR]
    · rcases List.mem_append.1 hr with hr | hr
      · exact h.one r hr
      · rw [List.mem_singleton.1 hr]; simp
theorem runs_ok (l : List Val) : Runs l (runsP l) := by
  have : ∀ (m l : List Val) (R : List (Nat × Val)), Runs l R → Runs (l ++ m) (m.foldl addR R) := by
    intro m
    induction m with
    | nil => intro l R h; simpa using h
    | cons v m ih =>
      intro l R h
      have := ih _ _ (h.add v)
      rwa [List.append_assoc] at this
  have h0 : Runs [] [] := ⟨trivial, rfl, by simp⟩
  simpa [runsP] using this l [] [] h0
theorem nextP_put {k : Int} (hk : kindsP k = true) (q : Nat × Val) (n : Nat) (r : List Nat) (h1 : 1 ≤ q.1) (hn : q.1 ≤ n) (h4 : q.1 ≤ 4096) (hg : GoodV k q.2) : nextP (runB q ++ r) n k = (q, r, 0) := by
  obtain ⟨m, w⟩ := q
  simp only at h1 hn h4 hg
  unfold nextP runB
  simp only
  rw [List.append_assoc, getP_put m (by omega)]
  simp only
  rw [List.drop_left' rfl]
  have ho := ofV_put (v := w) r hg.2.2 hg.1 (by rw [hg.2.1]; exact hk)
  rw [hg.2.1] at ho
  rw [ho]
  simp only
  rw [if_neg (by simp), if_neg (by omega), if_neg (by simp)]
theorem toR_put {k : Int} (hk : kindsP k = true) : ∀ (R A : List (Nat × Val)) (f : Nat), Ch (lastO none A) R → (∀ r ∈ R, 1 ≤ r.1 ∧ r.1 ≤ 4096 ∧ GoodV k r.2) → R.length ≤ f → toR k f A (sumR R) (rleB R) = (A ++ R, [], 0)
  | [], A, f, _, _, _ => by cases f <;> simp [toR, sumR, rleB]
  | r :: R, A, 0, _, _, hf => by simp at hf
  | r :: R, A, f + 1, hc, hg, hf => by
    obtain ⟨g1, g2, g3⟩ := hg r (by simp)
    have e : sumR (r :: R) = r.1 + sumR R := by simp [sumR]
    have e2 : rleB (r :: R) = runB r ++ rleB R := by simp [rleB]
    have hn := nextP_put hk r (r.1 + sumR R) (rleB R) g1 (by omega) g2 g3
    unfold toR
    rw [e, e2, if_neg (by omega), hn]
    simp only
    rw [if_neg (by simp)]
    have hne : ¬ (A ≠ [] ∧ (lastR A).2 = r.2) := by
      rintro ⟨h1, h2⟩
      rw [lastO_last h1, h2] at hc
      exact hc.1 rfl
    rw [if_neg hne, show r.1 + sumR R - r.1 = sumR R by omega]
    have := toR_put hk R (A ++ [r]) f (by rw [lastO_snoc]; exact hc.2) (fun x hx => hg x (by simp [hx])) (by simpa using hf)
    rw [this, List.append_assoc]; rfl
theorem rle_of_bytes {l : List Val} {k : Int} (h : plainP l k = 0) (hok : ∀ v ∈ l, I64 v.i) : rleOfP (rleB (runsP l)) l.length k = (l, 0) := by
  obtain ⟨hk, hl, hv⟩ := (plainP_iff l k).1 h
  have hR := runs_ok l
  have hgR := runsP_val (p := GoodV k) (l := l) fun v hm => ⟨(hv v hm).2, (hv v hm).1, hok v hm⟩
  have hcnt := runsP_cnt l l.length
  have hlen := runsP_len l l.length
  rw [List.take_length] at hcnt hlen
  have hs : sumR (runsP l) = l.length := by rw [← flatR_len, hR.flat]
  have ht := toR_put hk (runsP l) [] l.length hR.ch (fun r hr => ⟨hR.one r hr, by have := hcnt r hr; omega, hgR r hr⟩) hlen
  rw [hs, List.nil_append] at ht
  have hto : toRunsP (rleB (runsP l)) l.length k = (runsP l, 0) := by
    unfold toRunsP
    rw [if_neg (by simp [hk]), if_neg (by omega), if_neg (by omega), Int.toNat_natCast, ht]
    simp
  unfold rleOfP
  rw [hto]
  simp only
  rw [if_neg (by simp), spread_flat _ (by omega), hR.flat]
theorem plain_of_bytes {l : List Val} {k : Int} (h : plainP l k = 0) (hok : ∀ v ∈ l, I64 v.i) : plainOfP (wbytes l) l.length k = (l, 0) := by
  obtain ⟨hk, hl, hv⟩ := (plainP_iff l k).1 h
  have := readN_put hk l [] fun v hm => ⟨(hv v hm).2, (hv v hm).1, hok v hm⟩
  rw [List.append_nil] at this
  unfold plainOfP
  rw [if_neg (by simp [hk]), if_neg (by omega), if_neg (by omega), Int.toNat_natCast, this]
  simp
theorem num_of_plain {l : List Val} (h : plainP l 1 = 0) : ∀ v ∈ l, v = num10 v.i := fun v hv => by
  obtain ⟨_, _, hg⟩ := (plainP_iff l 1).1 h
  obtain ⟨g1, g2⟩ := hg v hv
  exact val_ext g1 rfl ((mayV_one g1).1 g2)
theorem getV_body {l : List Val} {k w : Int} (h : plainP l k = 0) (hb : (bodyP l k w).2 = 0) (hok : ∀ v ∈ l, I64 v.i) : getV (bodyP l k w).1 l.length k w = (l, 0) := by
  unfold bodyP at *
  unfold getV
  by_cases h1 : w = 1
  · rw [if_pos h1, if_pos h1]
    rw [show plainL l k = wbytes l from if_pos h]
    exact plain_of_bytes h hok
  rw [if_neg h1, if_neg h1] at *
  by_cases h2 : w = 2
  · rw [if_pos h2, if_pos h2]
    rw [show rleL l k = rleB (runsP l) from if_pos h]
    exact rle_of_bytes h hok
  rw [if_neg h2, if_neg h2] at *
  by_cases h3 : w = 3
  · rw [if_pos h3, if_pos h3]
    rw [show dictL l k = dictB l from if_pos h]
    exact (dict_of_bytes h hok).2
  rw [if_neg h3, if_neg h3] at *
  by_cases h4 : w = 4 ∧ k = 1
  · rw [if_pos h4, if_pos h4]
    obtain ⟨_, rfl⟩ := h4
    by_cases hl : l = []
    · subst hl
      simp [deltaB, ofR]
    · have := of_bytes l hl ((plainP_iff l 1).1 h).2.1 (num_of_plain h) hok
      simp only [deltaB]
      rw [if_pos ⟨h, hl⟩, this]
      rfl
  · rw [if_neg h4] at hb
    simp at hb
end Go.Proofs.YtmbagpfmfiegkaaGreat
namespace Go.Proofs.YtmbagpfmfiegkaaGreat
open Go.Proofs.YtmbagpfmfiegkaaGreatAw Go.RowKit
set_option linter.unusedVariables false
set_option linter.unusedSimpArgs false
/-- So many numbers, read one behind the other: what was read, the bytes left, an error. -/
def numsF : Nat → List Nat → List Nat → List Nat × List Nat × Int
  | 0, b, acc => (acc, b, 0)
  | f + 1, b, acc => if (getP b).2.2 ≠ 0 then ([], [], (getP b).2.2) else numsF f (b.drop (getP b).2.1) (acc ++ [min (getP b).1 1048576])
def headOk (l : List Nat) : Bool := decide (1 ≤ l.getD 0 0) && decide (l.getD 0 0 ≤ 3) && decide (l.getD 2 0 ≤ 4096) && decide (l.getD 3 0 ≤ l.getD 2 0)
def headS (l : List Nat) : Sg := ⟨(l.getD 0 0 : Nat), (l.getD 1 0 : Nat), ⟨l.getD 2 0, l.getD 3 0, ⟨0, 0, noS⟩, ⟨0, 0, noS⟩⟩, [], []⟩
def headP (b : List Nat) : Sg × List Nat × Int :=
  if (numsF 4 b []).2.2 ≠ 0 then (zSg, [], (numsF 4 b []).2.2)
  else if headOk (numsF 4 b []).1 = false then (zSg, [], 4)
  else (headS (numsF 4 b []).1, (numsF 4 b []).2.1, 0)
def zInts (l : List Nat) (n : Nat) : List AV := (l ++ List.replicate n 0).map fun (x : Nat) => iA x
theorem numsF_len : ∀ (f : Nat) (b acc : List Nat), (numsF f b acc).2.2 = 0 → (numsF f b acc).1.length = acc.length + f
  | 0, b, acc, _ => rfl
  | f + 1, b, acc, h => by
    unfold numsF at h ⊢
    split at h
    · rename_i he; exact absurd h he
    · rename_i he
      rw [if_neg he, numsF_len f _ _ h]
      simp; omega
theorem numsF_suffix : ∀ (f : Nat) (b acc : List Nat), ∃ j, (numsF f b acc).2.1 = b.drop j ∨ (numsF f b acc).2.1 = []
  | 0, b, acc => ⟨0, .inl rfl⟩
  | f + 1, b, acc => by
    unfold numsF
    split
    · exact ⟨0, .inr rfl⟩
    · obtain ⟨j, h⟩ := numsF_suffix f (b.drop (getP b).2.1) (acc ++ [min (getP b).1 1048576])
      rcases h with h | h
      · exact ⟨(getP b).2.1 + j, .inl (by rw [h, List.drop_drop])⟩
      · exact ⟨0, .inr h⟩
set_option maxRecDepth 10000 in
set_option maxHeartbeats 2000000 in
theorem head_does (b : List Nat) (hb : ∀ c ∈ b, c < 256) (hl : b.length ≤ 140737488351232) (H : AHeap) :
    Does Tryz.prog 19 [.d (.list false (bys b))] H (.ok (.tup [.agg (headP b).1.cs, .d (.list false (bys (headP b).2.1)), iA (headP b).2.2])) H := by
  obtain ⟨q, hq⟩ : ∃ q, q = numsF 4 b [] := ⟨_, rfl⟩
  have hhp : headP b = if q.2.2 ≠ 0 then (zSg, [], q.2.2) else if headOk q.1 = false then (zSg, [], 4) else (headS q.1, q.2.1, 0) := by rw [hq]; rfl
  rw [hhp]
  have hql : q.2.2 = 0 → q.1.length = 4 := fun h => by rw [hq] at h ⊢; rw [numsF_len 4 b [] h]; rfl
  suffices h : Does Tryz.prog 19 [.d (.list false (bys b))] H (.ok (if q.2.2 ≠ 0 then .tup [.agg zSgC, .d (.v (.slice none 0 0)), iA q.2.2] else if headOk q.1 = false then .tup [.agg zSgC, .d (.v (.slice none 0 0)), iA 4]
      else .tup [.agg [iA (q.1.getD 0 0 : Nat), iA (q.1.getD 1 0 : Nat), iA (q.1.getD 2 0 : Nat), iA (q.1.getD 3 0 : Nat), iA 0, iA 0, sA noS, iA 0, iA 0, sA noS, .d (.v (.slice none 0 0)), .d (.v (.slice none 0 0))], .d (.list false (bys q.2.1)), iA 0])) H by
    by_cases c1 : q.2.2 ≠ 0
    · rw [if_pos c1] at h ⊢
      exact Does.subT h (.cons zSg_sub (.cons .nil (.cons (.refl _) .nil)))
    · rw [if_neg c1] at h ⊢
      by_cases c2 : headOk q.1 = false
      · rw [if_pos c2] at h ⊢
        exact Does.subT h (.cons zSg_sub (.cons .nil (.cons (.refl _) .nil)))
      · rw [if_neg c2] at h ⊢
        exact Does.subT h (.cons (.agg (.cons (.refl _) (.cons (.refl _) (.cons (.refl _) (.cons (.refl _) (.cons (.refl _) (.cons (.refl _) (.cons (.refl _) (.cons (.refl _) (.cons (.refl _) (.cons (.refl _) (.cons .nil (.cons .nil .nil))))))))))))) (.cons (.refl _) (.cons (.refl _) .nil)))
  refine Does.of_awpC (hint := fun _ => false) Tryz.func19 (by kernel_rfl) rfl [.cell 2 30, .tmp 3, .tmp 4] (by kernel_rfl) (by simp [Tryz.ntmps19]) ?_
  rw [Tryz.ntmps19]
  simp (implicitDefEqProofs := false) only [go_sem, eq_self]
  refine awp_for (fun k s H' => ∃ c acc, H' = H ++ [.box 30 12 0 1 [iA 0, iA 0, iA 0, iA 0, iA 0, iA 0, sA ⟨#[]⟩, iA 0, iA 0, sA ⟨#[]⟩, .d (.v (.slice none 0 0)), .d (.v (.slice none 0 0))], .box 88 4 0 1 (zInts acc (4 - k))] ∧ numsF (4 - k) c acc = q ∧ acc.length = k ∧ c.length ≤ b.length ∧ (∀ x ∈ c, x < 256) ∧ (∀ x ∈ acc, x ≤ 1048576) ∧ s 0 = .d (.list false (bys c)) ∧ s 2 = .ptr H.length 0 0 0 ∧ s 5 = .ptr (H.length + 1) 0 0 0 ∧ s 11 = iA k) 4 (by omega) (Weak.refl _ _) ?_ ?_ ?_
  · refine ⟨b, [], rfl, hq.symm, rfl, Nat.le_refl _, hb, by simp, ?_⟩
    simp (implicitDefEqProofs := false) only [↓reduceIte, go_sem, Nat.reduceLT, Nat.reduceEqDiff, reduceCtorEq, eq_self]
  · rintro k s H' hk hw ⟨c, acc, rfl, hF, hal, hcl, hcb, hac, t0, t2, t5, t11⟩
    have hg := fun H => get_does c (by omega) hcb H
    have hle := getP_le c
    obtain ⟨m, hm⟩ : ∃ m, 4 - k = m + 1 := ⟨3 - k, by omega⟩
    rw [hm] at hF
    unfold numsF at hF
    generalize getP c = g at *
    obtain ⟨n, j, e⟩ := g
    simp only at hF hg hle
    simp (implicitDefEqProofs := false) only [↓reduceIte, go_sem, Nat.reduceLT, Nat.reduceEqDiff, reduceCtorEq, eq_self, t0, t11, show ((k : Int) < 4) = True from eq_true (by omega)]
    refine KCall.ok (hg _) ?_
    by_cases he : e = 0
    · subst he
      rw [if_neg (by simp)] at hF
      have hmin : min (n : Int) 1048576 = ((min n 1048576 : Nat) : Int) := by omega
      have w1 : IntKind.i64.wrap ((min n 1048576 : Nat) : Int) = ((min n 1048576 : Nat) : Int) := wrap64_in _ (by omega) (by omega)
      have hmle : min n 1048576 ≤ 1048576 := by omega
      generalize min n 1048576 = y at *
      have hzl : (zInts acc (4 - k)).length = 4 := by simp [zInts]; omega
      have hset : List.take k (zInts acc (4 - k)) ++ iA y :: List.drop (k + 1) (zInts acc (4 - k)) = zInts (acc ++ [y]) (4 - (k + 1)) := by
        unfold zInts
        rw [hm, show 4 - (k + 1) = m by omega]
        subst hal
        simp [List.replicate_succ, List.drop_append]
      generalize zInts acc (4 - k) = Z at *
      have htl : List.take c.length (bys c) = bys c := List.take_of_length_le (Nat.le_of_eq (bys_len c))
      have hdj : List.drop j (bys c) = bys (c.drop j) := by unfold bys; rw [List.map_drop]
      simp (implicitDefEqProofs := false) only [↓reduceIte, go_sem, owrite, Nat.reduceLT, Nat.reduceLeDiff, Nat.reduceEqDiff, reduceCtorEq, eq_self, t0, t5, t11, hmin, w1, hzl, show ((k : Int) < 4) = True from eq_true (by omega), show k ≤ 3 by omega, hset, bys_one, bys_len, htl, hdj]
      refine ⟨by omega, ?_⟩
      refine Rnd.same ⟨c.drop j, acc ++ [y], rfl, by rw [show 4 - (k + 1) = m by omega]; exact hF, by simp [hal], by rw [List.length_drop]; omega, fun x hx => hcb x (List.mem_of_mem_drop hx), ?_, ?_⟩
      · intro x hx
        rcases List.mem_append.1 hx with h | h
        · exact hac x h
        · rw [List.mem_singleton.1 h]; exact hmle
      · simp (implicitDefEqProofs := false) only [↓reduceIte, go_sem, Nat.reduceLT, Nat.reduceEqDiff, reduceCtorEq, eq_self, t2, t5, hw]
    · rw [if_pos he] at hF
      have hq2 : q.2.2 = e := by rw [← hF]
      simp (implicitDefEqProofs := false) only [↓reduceIte, go_sem, owrite, Nat.reduceAdd, Nat.reduceLT, Nat.reduceEqDiff, eq_self, he, t2]
      rw [hq2, if_pos he]
      refine AEndC.ret ?_
      simp (implicitDefEqProofs := false) only [↓reduceIte, go_sem, oread, Nat.reduceAdd, Nat.reduceLT, Nat.reduceLeDiff, Nat.reduceEqDiff, eq_self, resAll, resAV, t2, zSgC, noS]
  · rintro s H' ⟨c, acc, rfl, hF, hal, hcl, hcb, hac, t0, t2, t5, t11⟩
    have hq1 : q = (acc, c, 0) := hF.symm
    rw [hq1]
    obtain ⟨a0, a1, a2, a3, rfl⟩ : ∃ a0 a1 a2 a3, acc = [a0, a1, a2, a3] := by
      match acc, hal with
      | [a0, a1, a2, a3], _ => exact ⟨_, _, _, _, rfl⟩
    have hz : zInts [a0, a1, a2, a3] (4 - 4) = [iA a0, iA a1, iA a2, iA a3] := rfl
    rw [hz]
    rw [if_neg (by simp)]
    simp only [List.getD_eq_getElem?_getD, List.getElem?_cons_zero, List.getElem?_cons_succ, Option.getD_some]
    simp (implicitDefEqProofs := false) only [↓reduceIte, go_sem, oread, owrite, Nat.reduceAdd, Nat.reduceLT, Nat.reduceLeDiff, Nat.reduceEqDiff, Int.reduceLE, Int.reduceLT, Int.reduceToNat, eq_self, t5, t11]
    by_cases h1 : a0 < 1
    · have hno : headOk [a0, a1, a2, a3] = false := by unfold headOk; simp; omega
      rw [if_pos hno]
      simp (implicitDefEqProofs := false) only [↓reduceIte, go_sem, owrite, Nat.reduceAdd, Nat.reduceLT, Nat.reduceEqDiff, eq_self, show ((a0 : Int) < 1) = True from eq_true (by omega), t2]
      refine AEndC.ret ?_
      simp (implicitDefEqProofs := false) only [↓reduceIte, go_sem, oread, Nat.reduceAdd, Nat.reduceLT, Nat.reduceLeDiff, Nat.reduceEqDiff, eq_self, resAll, resAV, t2, zSgC, noS]
    by_cases h2 : 3 < a0
    · have hno : headOk [a0, a1, a2, a3] = false := by unfold headOk; simp; omega
      rw [if_pos hno]
      simp (implicitDefEqProofs := false) only [↓reduceIte, go_sem, oread, owrite, Nat.reduceAdd, Nat.reduceLT, Nat.reduceLeDiff, Nat.reduceEqDiff, reduceCtorEq, eq_self, show ((a0 : Int) < 1) = False from eq_false (by omega), show ((3 : Int) < (a0 : Int)) = True from eq_true (by omega), t2]
      refine AEndC.ret ?_
      simp (implicitDefEqProofs := false) only [↓reduceIte, go_sem, oread, Nat.reduceAdd, Nat.reduceLT, Nat.reduceLeDiff, Nat.reduceEqDiff, eq_self, resAll, resAV, t2, zSgC, noS]
    by_cases h3 : 4096 < a2
    · have hno : headOk [a0, a1, a2, a3] = false := by unfold headOk; simp; omega
      rw [if_pos hno]
      simp (implicitDefEqProofs := false) only [↓reduceIte, go_sem, oread, owrite, Nat.reduceAdd, Nat.reduceLT, Nat.reduceLeDiff, Nat.reduceEqDiff, reduceCtorEq, eq_self, show ((a0 : Int) < 1) = False from eq_false (by omega), show ((3 : Int) < (a0 : Int)) = False from eq_false (by omega), show ((4096 : Int) < (a2 : Int)) = True from eq_true (by omega), t2]
      refine AEndC.ret ?_
      simp (implicitDefEqProofs := false) only [↓reduceIte, go_sem, oread, Nat.reduceAdd, Nat.reduceLT, Nat.reduceLeDiff, Nat.reduceEqDiff, eq_self, resAll, resAV, t2, zSgC, noS]
    by_cases h4 : a2 < a3
    · have hno : headOk [a0, a1, a2, a3] = false := by unfold headOk; simp; omega
      rw [if_pos hno]
      simp (implicitDefEqProofs := false) only [↓reduceIte, go_sem, oread, owrite, Nat.reduceAdd, Nat.reduceLT, Nat.reduceLeDiff, Nat.reduceEqDiff, reduceCtorEq, eq_self, show ((a0 : Int) < 1) = False from eq_false (by omega), show ((3 : Int) < (a0 : Int)) = False from eq_false (by omega), show ((4096 : Int) < (a2 : Int)) = False from eq_false (by omega), show ((a2 : Int) < (a3 : Int)) = True from eq_true (by omega), t2]
      refine AEndC.ret ?_
      simp (implicitDefEqProofs := false) only [↓reduceIte, go_sem, oread, Nat.reduceAdd, Nat.reduceLT, Nat.reduceLeDiff, Nat.reduceEqDiff, eq_self, resAll, resAV, t2, zSgC, noS]
    have hyes : headOk [a0, a1, a2, a3] = true := by unfold headOk; simp; omega
    rw [if_neg (by rw [hyes]; simp)]
    simp (implicitDefEqProofs := false) only [↓reduceIte, go_sem, oread, owrite, Nat.reduceAdd, Nat.reduceLT, Nat.reduceLeDiff, Nat.reduceEqDiff, reduceCtorEq, eq_self, show ((a0 : Int) < 1) = False from eq_false (by omega), show ((3 : Int) < (a0 : Int)) = False from eq_false (by omega), show ((4096 : Int) < (a2 : Int)) = False from eq_false (by omega), show ((a2 : Int) < (a3 : Int)) = False from eq_false (by omega), t0, t2]
    refine AEndC.ret ?_
    simp (implicitDefEqProofs := false) only [↓reduceIte, go_sem, oread, Nat.reduceAdd, Nat.reduceLT, Nat.reduceLeDiff, Nat.reduceEqDiff, eq_self, resAll, resAV, t2, noS]
end Go.Proofs.YtmbagpfmfiegkaaGreat
namespace Go.Proofs.YtmbagpfmfiegkaaGreat
open Go.Proofs.YtmbagpfmfiegkaaGreatAw Go.RowKit
set_option linter.unusedVariables false
set_option linter.unusedSimpArgs false
/-- The ends of a zone, read. -/
def zoneE (s : Sg) (b : List Nat) : Sg × List Nat × Int :=
  if s.zone.nulls = s.zone.rows then (s, b, 0)
  else
    if (ofV b s.kind).2.2 ≠ 0 then (⟨s.kind, s.codec, ⟨s.zone.rows, s.zone.nulls, (ofV b s.kind).1, s.zone.mx⟩, s.nulls, s.body⟩, [], (ofV b s.kind).2.2)
    else if (ofV (ofV b s.kind).2.1 s.kind).2.2 ≠ 0 then (⟨s.kind, s.codec, ⟨s.zone.rows, s.zone.nulls, (ofV b s.kind).1, (ofV (ofV b s.kind).2.1 s.kind).1⟩, s.nulls, s.body⟩, [], (ofV (ofV b s.kind).2.1 s.kind).2.2)
    else (⟨s.kind, s.codec, ⟨s.zone.rows, s.zone.nulls, (ofV b s.kind).1, (ofV (ofV b s.kind).2.1 s.kind).1⟩, s.nulls, s.body⟩, (ofV (ofV b s.kind).2.1 s.kind).2.1, 0)
def withNulls (s : Sg) (l : List Bool) : Sg := ⟨s.kind, s.codec, s.zone, l, s.body⟩
/-- Where values are nothing, and the ends. -/
def zoneR (s : Sg) (b : List Nat) : Sg × List Nat × Int :=
  if s.zone.nulls = 0 then zoneE s b
  else if b.length < (s.zone.rows + 7) / 8 then (s, [], 3)
  else if unpackE (b.take ((s.zone.rows + 7) / 8)) s.zone.rows 1 ≠ 0 then (withNulls s [], [], unpackE (b.take ((s.zone.rows + 7) / 8)) s.zone.rows 1)
  else zoneE (withNulls s (nofL (b.take ((s.zone.rows + 7) / 8)) s.zone.rows)) (b.drop ((s.zone.rows + 7) / 8))
abbrev sB (s : Sg) : AObj := .box 30 12 0 1 s.cs
set_option maxRecDepth 10000 in
set_option maxHeartbeats 4000000 in
theorem szone_does (s : Sg) (b : List Nat) (hr : s.zone.rows ≤ 1000000) (hb : ∀ c ∈ b, c < 256) (hl : b.length ≤ 140737488351232) (G : AHeap) (id : Nat) (hG : G[id]? = some (sB s)) :
    Does Tryz.prog 20 [.ptr id 0 0 0, .d (.list false (bys b))] G (.ok (.tup [.d (.list false (bys (zoneR s b).2.1)), iA (zoneR s b).2.2])) (G.set id (sB (zoneR s b).1)) := by
  obtain ⟨sk, sc, ⟨zr, zn, zmn, zmx⟩, ns, bd⟩ := s
  simp only at hr
  unfold sB Sg.cs at hG
  simp only at hG
  unfold zoneR
  simp only
  by_cases h0 : zn = 0
  · rw [if_pos h0]
    subst h0
    obtain ⟨G1, hGG⟩ : ∃ G1, G1 = G := ⟨_, rfl⟩
    have hG1 : G1[id]? = some (.box 30 12 0 1 [iA sk, iA sc, iA zr, iA (0 : Nat), iA zmn.kind, iA zmn.i, sA zmn.s, iA zmx.kind, iA zmx.i, sA zmx.s, .d (.list false (boolR ns)), .d (.list false (bys bd))]) := by rw [hGG]; exact hG
    rw [← hGG]
    clear hG hGG
    have hB := hb
    have s1 : ∀ o : AObj, (G1.set id o)[id]? = some o := fun o => by rw [List.getElem?_set_self (len_of_get hG1)]
    have s2 : ∀ o o' : AObj, (G1.set id o).set id o' = G1.set id o' := fun o o' => List.set_set ..
    have v1 := fun H => valOf_does b sk (by omega) hB H
    unfold zoneE
    simp only
    by_cases h1 : 0 = zr
    · have h1t : ((0 : Int) = (zr : Int)) = True := eq_true (by omega)
      have hsame : G1.set id (.box 30 12 0 1 [iA sk, iA sc, iA zr, iA (0 : Nat), iA zmn.kind, iA zmn.i, sA zmn.s, iA zmx.kind, iA zmx.i, sA zmx.s, .d (.list false (boolR ns)), .d (.list false (bys bd))]) = G1 := by
        obtain ⟨hl, hx⟩ := List.getElem?_eq_some_iff.1 hG1
        rw [← hx]; exact List.set_getElem_self hl
      rw [if_pos h1]
      unfold sB Sg.cs
      simp only
      rw [hsame]
      refine Does.of_awp (hint := (fun _ => false)) Tryz.func20 (by kernel_rfl) rfl [4, 5] (by kernel_rfl) (by decide) (by simp [Tryz.ntmps20]) ?_
      rw [Tryz.ntmps20]
      simp (implicitDefEqProofs := false) only [↓reduceIte, go_sem, oread, Nat.reduceAdd, Nat.reduceLT, Nat.reduceLeDiff, Int.reduceLT, reduceCtorEq, eq_self, hG1]
      refine awp_draw K.mixed (by kernel_rfl) ?_
      simp (implicitDefEqProofs := false) only [↓reduceIte, go_sem, oread, Nat.reduceAdd, Nat.reduceLT, Nat.reduceLeDiff, Nat.reduceEqDiff, reduceCtorEq, eq_self, hG1, h1t]
      exact ⟨_, Weak.refl _ _, by simp (implicitDefEqProofs := false) only [↓reduceIte, go_sem, Nat.reduceLT, Nat.reduceEqDiff, eq_self]⟩
    have h1f : ((0 : Int) = (zr : Int)) = False := eq_false (by omega)
    rw [if_neg h1]
    obtain ⟨j1, hj1⟩ := ofV_suffix b sk
    generalize ofV b sk = x1 at *
    obtain ⟨mn, r1, e1⟩ := x1
    simp only at v1 hj1
    subst hj1
    by_cases he1 : e1 ≠ 0
    · rw [if_pos he1]
      unfold sB Sg.cs
      simp only
      refine Does.subT (cs := [.d (.v (.slice none 0 0)), iA e1]) ?_ (.cons .nil (.cons (.refl _) .nil))
      refine Does.of_awp (hint := (fun _ => false)) Tryz.func20 (by kernel_rfl) rfl [4, 5] (by kernel_rfl) (by decide) (by simp [Tryz.ntmps20]) ?_
      rw [Tryz.ntmps20]
      simp (implicitDefEqProofs := false) only [↓reduceIte, go_sem, oread, Nat.reduceAdd, Nat.reduceLT, Nat.reduceLeDiff, Int.reduceLT, reduceCtorEq, eq_self, hG1]
      refine awp_draw K.mixed (by kernel_rfl) ?_
      simp (implicitDefEqProofs := false) only [↓reduceIte, go_sem, oread, Nat.reduceAdd, Nat.reduceLT, Nat.reduceLeDiff, Nat.reduceEqDiff, reduceCtorEq, eq_self, hG1, h1f]
      refine KCall.ok (v1 _) ?_
      simp (implicitDefEqProofs := false) only [↓reduceIte, go_sem, owrite, Nat.reduceAdd, Nat.reduceLT, Nat.reduceLeDiff, Nat.reduceEqDiff, eq_self, hG1, he1]
      exact ⟨_, Weak.refl _ _, by simp (implicitDefEqProofs := false) only [↓reduceIte, go_sem, Nat.reduceLT, Nat.reduceEqDiff, eq_self]⟩
    rw [if_neg he1]
    obtain rfl : e1 = 0 := by simpa using he1
    have v2 := fun H => valOf_does (List.drop j1 b) sk (by rw [List.length_drop]; omega) (fun x hx => hB x (List.mem_of_mem_drop hx)) H
    generalize ofV (List.drop j1 b) sk = x2 at *
    obtain ⟨mx, r2, e2⟩ := x2
    simp only at v2
    by_cases he2 : e2 ≠ 0
    · rw [if_pos he2]
      unfold sB Sg.cs
      simp only
      refine Does.subT (cs := [.d (.v (.slice none 0 0)), iA e2]) ?_ (.cons .nil (.cons (.refl _) .nil))
      refine Does.of_awp (hint := (fun _ => false)) Tryz.func20 (by kernel_rfl) rfl [4, 5] (by kernel_rfl) (by decide) (by simp [Tryz.ntmps20]) ?_
      rw [Tryz.ntmps20]
      simp (implicitDefEqProofs := false) only [↓reduceIte, go_sem, oread, Nat.reduceAdd, Nat.reduceLT, Nat.reduceLeDiff, Int.reduceLT, reduceCtorEq, eq_self, hG1]
      refine awp_draw K.mixed (by kernel_rfl) ?_
      simp (implicitDefEqProofs := false) only [↓reduceIte, go_sem, oread, Nat.reduceAdd, Nat.reduceLT, Nat.reduceLeDiff, Nat.reduceEqDiff, reduceCtorEq, eq_self, hG1, h1f]
      refine KCall.ok (v1 _) ?_
      simp (implicitDefEqProofs := false) only [↓reduceIte, go_sem, oread, owrite, Nat.reduceAdd, Nat.reduceLT, Nat.reduceLeDiff, Nat.reduceEqDiff, reduceCtorEq, eq_self, hG1, s1]
      refine KCall.ok (v2 _) ?_
      simp (implicitDefEqProofs := false) only [↓reduceIte, go_sem, owrite, Nat.reduceAdd, Nat.reduceLT, Nat.reduceLeDiff, Nat.reduceEqDiff, eq_self, s1, s2, he2]
      exact ⟨_, Weak.refl _ _, by simp (implicitDefEqProofs := false) only [↓reduceIte, go_sem, Nat.reduceLT, Nat.reduceEqDiff, eq_self]⟩
    rw [if_neg he2]
    obtain rfl : e2 = 0 := by simpa using he2
    unfold sB Sg.cs
    simp only
    refine Does.of_awp (hint := (fun _ => false)) Tryz.func20 (by kernel_rfl) rfl [4, 5] (by kernel_rfl) (by decide) (by simp [Tryz.ntmps20]) ?_
    rw [Tryz.ntmps20]
    simp (implicitDefEqProofs := false) only [↓reduceIte, go_sem, oread, Nat.reduceAdd, Nat.reduceLT, Nat.reduceLeDiff, Int.reduceLT, reduceCtorEq, eq_self, hG1]
    refine awp_draw K.mixed (by kernel_rfl) ?_
    simp (implicitDefEqProofs := false) only [↓reduceIte, go_sem, oread, Nat.reduceAdd, Nat.reduceLT, Nat.reduceLeDiff, Nat.reduceEqDiff, reduceCtorEq, eq_self, hG1, h1f]
    refine KCall.ok (v1 _) ?_
    simp (implicitDefEqProofs := false) only [↓reduceIte, go_sem, oread, owrite, Nat.reduceAdd, Nat.reduceLT, Nat.reduceLeDiff, Nat.reduceEqDiff, reduceCtorEq, eq_self, hG1, s1]
    refine KCall.ok (v2 _) ?_
    simp (implicitDefEqProofs := false) only [↓reduceIte, go_sem, owrite, Nat.reduceAdd, Nat.reduceLT, Nat.reduceLeDiff, Nat.reduceEqDiff, eq_self, s1, s2]
    exact ⟨_, Weak.refl _ _, by simp (implicitDefEqProofs := false) only [↓reduceIte, go_sem, Nat.reduceLT, Nat.reduceEqDiff, eq_self]⟩
  rw [if_neg h0]
  have h0t : ((0 : Int) < (zn : Int)) = True := eq_true (by omega)
  have w1 : IntKind.i64.wrap ((zr : Int) + 8) = (zr : Int) + 8 := wrap64_in _ (by omega) (by omega)
  have w2 : IntKind.i64.wrap ((zr : Int) + 8 - 1) = ((zr + 7 : Nat) : Int) := by rw [wrap64_in _ (by omega) (by omega)]; omega
  have w3 : IntKind.i64.wrap (((zr + 7 : Nat) : Int).tdiv 8) = (((zr + 7) / 8 : Nat) : Int) := by
    rw [show ((zr + 7 : Nat) : Int).tdiv 8 = (((zr + 7) / 8 : Nat) : Int) from rfl]
    exact wrap64_in _ (by omega) (by omega)
  obtain ⟨y, hy⟩ : ∃ y, y = zr + 7 := ⟨_, rfl⟩
  obtain ⟨n, hn⟩ : ∃ n, n = (zr + 7) / 8 := ⟨_, rfl⟩
  rw [← hn, ← hy] at w3
  rw [← hy] at w2
  rw [← hn]
  by_cases h1 : b.length < n
  · rw [if_pos h1]
    unfold sB Sg.cs
    simp only
    have hsame : G.set id (.box 30 12 0 1 [iA sk, iA sc, iA zr, iA zn, iA zmn.kind, iA zmn.i, sA zmn.s, iA zmx.kind, iA zmx.i, sA zmx.s, .d (.list false (boolR ns)), .d (.list false (bys bd))]) = G := by
      obtain ⟨hl, hx⟩ := List.getElem?_eq_some_iff.1 hG
      rw [← hx]; exact List.set_getElem_self hl
    rw [hsame]
    refine Does.subT (cs := [.d (.v (.slice none 0 0)), iA 3]) ?_ (.cons .nil (.cons (.refl _) .nil))
    refine Does.of_awp (hint := (fun _ => false)) Tryz.func20 (by kernel_rfl) rfl [4, 5] (by kernel_rfl) (by decide) (by simp [Tryz.ntmps20]) ?_
    rw [Tryz.ntmps20]
    simp (implicitDefEqProofs := false) only [↓reduceIte, go_sem, oread, Nat.reduceAdd, Nat.reduceLT, Nat.reduceLeDiff, Nat.reduceEqDiff, Int.reduceEq, reduceCtorEq, eq_self, hG, h0t, w1, w2, w3, bys_len, show ((b.length : Int) < (n : Int)) = True from eq_true (by omega)]
    exact ⟨_, Weak.refl _ _, by simp (implicitDefEqProofs := false) only [↓reduceIte, go_sem, Nat.reduceLT, Nat.reduceEqDiff, eq_self]⟩
  rw [if_neg h1]
  have h1f : ((b.length : Int) < (n : Int)) = False := eq_false (by omega)
  have htk : List.take n (bys b) = bys (b.take n) := by unfold bys; rw [List.map_take]
  have hdk : List.drop n (bys b) = bys (b.drop n) := by unfold bys; rw [List.map_drop]
  have hof := fun H => nof_does (b.take n) zr (by rw [List.length_take]; omega) (fun x hx => hb x (List.mem_of_mem_take hx)) (by omega) H
  generalize unpackE (b.take n) zr 1 = e at *
  generalize nofL (b.take n) zr = L at *
  by_cases he : e ≠ 0
  · rw [if_pos he]
    rw [if_neg he] at hof
    unfold withNulls sB Sg.cs
    simp only
    refine Does.subT (cs := [.d (.v (.slice none 0 0)), iA e]) ?_ (.cons .nil (.cons (.refl _) .nil))
    refine Does.of_awp (hint := (fun _ => false)) Tryz.func20 (by kernel_rfl) rfl [4, 5] (by kernel_rfl) (by decide) (by simp [Tryz.ntmps20]) ?_
    rw [Tryz.ntmps20]
    simp (implicitDefEqProofs := false) only [↓reduceIte, go_sem, oread, Nat.reduceAdd, Nat.reduceLT, Nat.reduceLeDiff, Nat.reduceEqDiff, Int.reduceEq, reduceCtorEq, eq_self, hG, h0t, w1, w2, w3, bys_len, h1f]
    refine awp_drawL [some false, some false, some false, some false, some false, some false, some false, some false, some false, some true, some false, some false, some false, some true, some true, some true] 9 [] K.mixed (by kernel_rfl) (by kernel_rfl) (by kernel_rfl) (fun _ _ h => by simp at h) ?_
    simp (implicitDefEqProofs := false) only [↓reduceIte, go_sem, oread, Nat.reduceAdd, Nat.reduceLT, Nat.reduceLeDiff, Nat.reduceEqDiff, Int.reduceLE, Int.reduceToNat, reduceCtorEq, eq_self, hG, bys_one, bys_len, htk]
    refine ⟨by omega, ?_⟩
    refine KCall.ok (hof _) ?_
    simp (implicitDefEqProofs := false) only [↓reduceIte, go_sem, owrite, Nat.reduceAdd, Nat.reduceLT, Nat.reduceLeDiff, Nat.reduceEqDiff, eq_self, hG, Ext.nil, he]
    exact ⟨_, Weak.refl _ _, by simp (implicitDefEqProofs := false) only [↓reduceIte, go_sem, Nat.reduceLT, Nat.reduceEqDiff, eq_self]⟩
  rw [if_neg he]
  obtain rfl : e = 0 := by simpa using he
  rw [if_pos rfl] at hof
  unfold withNulls
  have z1 : ∀ o : AObj, (G.set id o)[id]? = some o := fun o => by rw [List.getElem?_set_self (len_of_get hG)]
  obtain ⟨G1, hGG⟩ : ∃ G1, G.set id (.box 30 12 0 1 [iA sk, iA sc, iA zr, iA zn, iA zmn.kind, iA zmn.i, sA zmn.s, iA zmx.kind, iA zmx.i, sA zmx.s, .d (.list false (boolR L)), .d (.list false (bys bd))]) = G1 := ⟨_, rfl⟩
  have hG1 : G1[id]? = some (.box 30 12 0 1 [iA sk, iA sc, iA zr, iA zn, iA zmn.kind, iA zmn.i, sA zmn.s, iA zmx.kind, iA zmx.i, sA zmx.s, .d (.list false (boolR L)), .d (.list false (bys bd))]) := by rw [← hGG]; exact z1 _
  have hset : ∀ o : AObj, G.set id o = G1.set id o := fun o => by rw [← hGG, List.set_set]
  rw [hset]
  have hbn : (n : Int) ≤ (b.length : Int) := by omega
  have htb : List.take b.length (bys b) = bys b := List.take_of_length_le (Nat.le_of_eq (bys_len b))
  have hB : ∀ c ∈ b.drop n, c < 256 := fun c hc => hb c (List.mem_of_mem_drop hc)
  have hbdl : (b.drop n).length ≤ b.length := by rw [List.length_drop]; omega
  generalize hbd : b.drop n = b2 at *
  have s1 : ∀ o : AObj, (G1.set id o)[id]? = some o := fun o => by rw [List.getElem?_set_self (len_of_get hG1)]
  have s2 : ∀ o o' : AObj, (G1.set id o).set id o' = G1.set id o' := fun o o' => List.set_set ..
  have v1 := fun H => valOf_does b2 sk (by omega) hB H
  unfold zoneE
  simp only
  by_cases hz1 : zn = zr
  · have hzt : ((zn : Int) = (zr : Int)) = True := eq_true (by omega)
    have hsame : G1.set id (.box 30 12 0 1 [iA sk, iA sc, iA zr, iA zn, iA zmn.kind, iA zmn.i, sA zmn.s, iA zmx.kind, iA zmx.i, sA zmx.s, .d (.list false (boolR L)), .d (.list false (bys bd))]) = G1 := by
      obtain ⟨hl, hx⟩ := List.getElem?_eq_some_iff.1 hG1
      rw [← hx]; exact List.set_getElem_self hl
    rw [if_pos hz1]
    unfold sB Sg.cs
    simp only
    rw [hsame]
    refine Does.of_awp (hint := (fun _ => false)) Tryz.func20 (by kernel_rfl) rfl [4, 5] (by kernel_rfl) (by decide) (by simp [Tryz.ntmps20]) ?_
    rw [Tryz.ntmps20]
    simp (implicitDefEqProofs := false) only [↓reduceIte, go_sem, oread, Nat.reduceAdd, Nat.reduceLT, Nat.reduceLeDiff, Nat.reduceEqDiff, Int.reduceEq, reduceCtorEq, eq_self, hG, h0t, w1, w2, w3, bys_len, h1f]
    refine awp_drawL [some false, some false, some false, some false, some false, some false, some false, some false, some false, some true, some false, some false, some false, some true, some true, some true] 9 [] K.mixed (by kernel_rfl) (by kernel_rfl) (by kernel_rfl) (fun _ _ h => by simp at h) ?_
    simp (implicitDefEqProofs := false) only [↓reduceIte, go_sem, oread, Nat.reduceAdd, Nat.reduceLT, Nat.reduceLeDiff, Nat.reduceEqDiff, Int.reduceLE, Int.reduceToNat, reduceCtorEq, eq_self, hG, bys_one, bys_len, htk]
    refine ⟨by omega, ?_⟩
    refine KCall.ok (hof _) ?_
    simp (implicitDefEqProofs := false) only [↓reduceIte, go_sem, owrite, Nat.reduceAdd, Nat.reduceLT, Nat.reduceLeDiff, Nat.reduceEqDiff, eq_self, hG, Ext.nil, hbn, htb, hdk, bys_len, bys_one]
    rw [hGG]
    simp (implicitDefEqProofs := false) only [go_sem]
    refine awp_draw K.mixed (by kernel_rfl) ?_
    simp (implicitDefEqProofs := false) only [↓reduceIte, go_sem, oread, Nat.reduceAdd, Nat.reduceLT, Nat.reduceLeDiff, Nat.reduceEqDiff, reduceCtorEq, eq_self, hG1, hzt]
    exact ⟨_, Weak.refl _ _, by simp (implicitDefEqProofs := false) only [↓reduceIte, go_sem, Nat.reduceLT, Nat.reduceEqDiff, eq_self]⟩
  have hzf : ((zn : Int) = (zr : Int)) = False := eq_false (by omega)
  rw [if_neg hz1]
  obtain ⟨j1, hj1⟩ := ofV_suffix b2 sk
  generalize ofV b2 sk = x1 at *
  obtain ⟨mn, r1, e1⟩ := x1
  simp only at v1 hj1
  subst hj1
  by_cases he1 : e1 ≠ 0
  · rw [if_pos he1]
    unfold sB Sg.cs
    simp only
    refine Does.subT (cs := [.d (.v (.slice none 0 0)), iA e1]) ?_ (.cons .nil (.cons (.refl _) .nil))
    refine Does.of_awp (hint := (fun _ => false)) Tryz.func20 (by kernel_rfl) rfl [4, 5] (by kernel_rfl) (by decide) (by simp [Tryz.ntmps20]) ?_
    rw [Tryz.ntmps20]
    simp (implicitDefEqProofs := false) only [↓reduceIte, go_sem, oread, Nat.reduceAdd, Nat.reduceLT, Nat.reduceLeDiff, Nat.reduceEqDiff, Int.reduceEq, reduceCtorEq, eq_self, hG, h0t, w1, w2, w3, bys_len, h1f]
    refine awp_drawL [some false, some false, some false, some false, some false, some false, some false, some false, some false, some true, some false, some false, some false, some true, some true, some true] 9 [] K.mixed (by kernel_rfl) (by kernel_rfl) (by kernel_rfl) (fun _ _ h => by simp at h) ?_
    simp (implicitDefEqProofs := false) only [↓reduceIte, go_sem, oread, Nat.reduceAdd, Nat.reduceLT, Nat.reduceLeDiff, Nat.reduceEqDiff, Int.reduceLE, Int.reduceToNat, reduceCtorEq, eq_self, hG, bys_one, bys_len, htk]
    refine ⟨by omega, ?_⟩
    refine KCall.ok (hof _) ?_
    simp (implicitDefEqProofs := false) only [↓reduceIte, go_sem, owrite, Nat.reduceAdd, Nat.reduceLT, Nat.reduceLeDiff, Nat.reduceEqDiff, eq_self, hG, Ext.nil, hbn, htb, hdk, bys_len, bys_one]
    rw [hGG]
    simp (implicitDefEqProofs := false) only [go_sem]
    refine awp_draw K.mixed (by kernel_rfl) ?_
    simp (implicitDefEqProofs := false) only [↓reduceIte, go_sem, oread, Nat.reduceAdd, Nat.reduceLT, Nat.reduceLeDiff, Nat.reduceEqDiff, reduceCtorEq, eq_self, hG1, hzf]
    refine KCall.ok (v1 _) ?_
    simp (implicitDefEqProofs := false) only [↓reduceIte, go_sem, owrite, Nat.reduceAdd, Nat.reduceLT, Nat.reduceLeDiff, Nat.reduceEqDiff, eq_self, hG1, he1]
    exact ⟨_, Weak.refl _ _, by simp (implicitDefEqProofs := false) only [↓reduceIte, go_sem, Nat.reduceLT, Nat.reduceEqDiff, eq_self]⟩
  rw [if_neg he1]
  obtain rfl : e1 = 0 := by simpa using he1
  have v2 := fun H => valOf_does (List.drop j1 b2) sk (by rw [List.length_drop]; omega) (fun x hx => hB x (List.mem_of_mem_drop hx)) H
  generalize ofV (List.drop j1 b2) sk = x2 at *
  obtain ⟨mx, r2, e2⟩ := x2
  simp only at v2
  by_cases he2 : e2 ≠ 0
  · rw [if_pos he2]
    unfold sB Sg.cs
    simp only
    refine Does.subT (cs := [.d (.v (.slice none 0 0)), iA e2]) ?_ (.cons .nil (.cons (.refl _) .nil))
    refine Does.of_awp (hint := (fun _ => false)) Tryz.func20 (by kernel_rfl) rfl [4, 5] (by kernel_rfl) (by decide) (by simp [Tryz.ntmps20]) ?_
    rw [Tryz.ntmps20]
    simp (implicitDefEqProofs := false) only [↓reduceIte, go_sem, oread, Nat.reduceAdd, Nat.reduceLT, Nat.reduceLeDiff, Nat.reduceEqDiff, Int.reduceEq, reduceCtorEq, eq_self, hG, h0t, w1, w2, w3, bys_len, h1f]
    refine awp_drawL [some false, some false, some false, some false, some false, some false, some false, some false, some false, some true, some false, some false, some false, some true, some true, some true] 9 [] K.mixed (by kernel_rfl) (by kernel_rfl) (by kernel_rfl) (fun _ _ h => by simp at h) ?_
    simp (implicitDefEqProofs := false) only [↓reduceIte, go_sem, oread, Nat.reduceAdd, Nat.reduceLT, Nat.reduceLeDiff, Nat.reduceEqDiff, Int.reduceLE, Int.reduceToNat, reduceCtorEq, eq_self, hG, bys_one, bys_len, htk]
    refine ⟨by omega, ?_⟩
    refine KCall.ok (hof _) ?_
    simp (implicitDefEqProofs := false) only [↓reduceIte, go_sem, owrite, Nat.reduceAdd, Nat.reduceLT, Nat.reduceLeDiff, Nat.reduceEqDiff, eq_self, hG, Ext.nil, hbn, htb, hdk, bys_len, bys_one]
    rw [hGG]
    simp (implicitDefEqProofs := false) only [go_sem]
    refine awp_draw K.mixed (by kernel_rfl) ?_
    simp (implicitDefEqProofs := false) only [↓reduceIte, go_sem, oread, Nat.reduceAdd, Nat.reduceLT, Nat.reduceLeDiff, Nat.reduceEqDiff, reduceCtorEq, eq_self, hG1, hzf]
    refine KCall.ok (v1 _) ?_
    simp (implicitDefEqProofs := false) only [↓reduceIte, go_sem, oread, owrite, Nat.reduceAdd, Nat.reduceLT, Nat.reduceLeDiff, Nat.reduceEqDiff, reduceCtorEq, eq_self, hG1, s1]
    refine KCall.ok (v2 _) ?_
    simp (implicitDefEqProofs := false) only [↓reduceIte, go_sem, owrite, Nat.reduceAdd, Nat.reduceLT, Nat.reduceLeDiff, Nat.reduceEqDiff, eq_self, s1, s2, he2]
    exact ⟨_, Weak.refl _ _, by simp (implicitDefEqProofs := false) only [↓reduceIte, go_sem, Nat.reduceLT, Nat.reduceEqDiff, eq_self]⟩
  rw [if_neg he2]
  obtain rfl : e2 = 0 := by simpa using he2
  unfold sB Sg.cs
  simp only
  refine Does.of_awp (hint := (fun _ => false)) Tryz.func20 (by kernel_rfl) rfl [4, 5] (by kernel_rfl) (by decide) (by simp [Tryz.ntmps20]) ?_
  rw [Tryz.ntmps20]
  simp (implicitDefEqProofs := false) only [↓reduceIte, go_sem, oread, Nat.reduceAdd, Nat.reduceLT, Nat.reduceLeDiff, Nat.reduceEqDiff, Int.reduceEq, reduceCtorEq, eq_self, hG, h0t, w1, w2, w3, bys_len, h1f]
  refine awp_drawL [some false, some false, some false, some false, some false, some false, some false, some false, some false, some true, some false, some false, some false, some true, some true, some true] 9 [] K.mixed (by kernel_rfl) (by kernel_rfl) (by kernel_rfl) (fun _ _ h => by simp at h) ?_
  simp (implicitDefEqProofs := false) only [↓reduceIte, go_sem, oread, Nat.reduceAdd, Nat.reduceLT, Nat.reduceLeDiff, Nat.reduceEqDiff, Int.reduceLE, Int.reduceToNat, reduceCtorEq, eq_self, hG, bys_one, bys_len, htk]
  refine ⟨by omega, ?_⟩
  refine KCall.ok (hof _) ?_
  simp (implicitDefEqProofs := false) only [↓reduceIte, go_sem, owrite, Nat.reduceAdd, Nat.reduceLT, Nat.reduceLeDiff, Nat.reduceEqDiff, eq_self, hG, Ext.nil, hbn, htb, hdk, bys_len, bys_one]
  rw [hGG]
  simp (implicitDefEqProofs := false) only [go_sem]
  refine awp_draw K.mixed (by kernel_rfl) ?_
  simp (implicitDefEqProofs := false) only [↓reduceIte, go_sem, oread, Nat.reduceAdd, Nat.reduceLT, Nat.reduceLeDiff, Nat.reduceEqDiff, reduceCtorEq, eq_self, hG1, hzf]
  refine KCall.ok (v1 _) ?_
  simp (implicitDefEqProofs := false) only [↓reduceIte, go_sem, oread, owrite, Nat.reduceAdd, Nat.reduceLT, Nat.reduceLeDiff, Nat.reduceEqDiff, reduceCtorEq, eq_self, hG1, s1]
  refine KCall.ok (v2 _) ?_
  simp (implicitDefEqProofs := false) only [↓reduceIte, go_sem, owrite, Nat.reduceAdd, Nat.reduceLT, Nat.reduceLeDiff, Nat.reduceEqDiff, eq_self, s1, s2]
  exact ⟨_, Weak.refl _ _, by simp (implicitDefEqProofs := false) only [↓reduceIte, go_sem, Nat.reduceLT, Nat.reduceEqDiff, eq_self]⟩
end Go.Proofs.YtmbagpfmfiegkaaGreat
namespace Go.Proofs.YtmbagpfmfiegkaaGreat
open Go.Proofs.YtmbagpfmfiegkaaGreatAw Go.RowKit
set_option linter.unusedVariables false
set_option linter.unusedSimpArgs false
theorem eqI_step {P : Program} {w : World} {d c i : Nat} {e : TypeId} {xs ys : Array Value} {is : List Nat} {a b : Value} {q r : Bool} (ha : (part e xs (i * c)).run P w = .ok a w) (hb : (part e ys (i * c)).run P w = .ok b w) (he : (Op.equalIn d e a b).run P w = .ok q w)
    (hr : (Op.eqItems d e c xs ys is).run P w = .ok r w) : (Op.eqItems d e c xs ys (i :: is)).run P w = .ok (q && r) w := by
  simp only [Op.eqItems, Sem.run_bind, ha, hb, he, Result.andThen_ok]
  cases q
  · simp
  · simpa using hr
abbrev a4 (a b c d : Int) : Value := .agg #[.int .u8 a, .int .u8 b, .int .u8 c, .int .u8 d]
theorem eqI_four (w : World) (a b c d a' b' c' d' : Int) : (Op.eqItems 9999 5 1 #[.int .u8 a, .int .u8 b, .int .u8 c, .int .u8 d] #[.int .u8 a', .int .u8 b', .int .u8 c', .int .u8 d'] [0, 1, 2, 3]).run Tryz.prog w = .ok ((a == a') && ((b == b') && ((c == c') && ((d == d') && true)))) w := by
  have st := fun x y => run_equalIn_int w 9998 5 .u8 .u8 x y (UK.get K.UK5)
  exact eqI_step (part_one K.agB5 rfl) (part_one K.agB5 rfl) (st a a') (eqI_step (part_one K.agB5 rfl) (part_one K.agB5 rfl) (st b b')
    (eqI_step (part_one K.agB5 rfl) (part_one K.agB5 rfl) (st c c') (eqI_step (part_one K.agB5 rfl) (part_one K.agB5 rfl) (st d d') rfl)))
theorem eqA_four (w : World) (a b c d a' b' c' d' : Int) : (Op.equalIn 10000 83 (a4 a b c d) (a4 a' b' c' d')).run Tryz.prog w = .ok ((a == a') && ((b == b') && ((c == c') && ((d == d') && true)))) w := by
  obtain ⟨i, hi⟩ := info_of_underlying (P := Tryz.prog) (UK.get K.UK5)
  rw [run_equalIn_array w 9999 _ _ (t := 83) (e := 5) (n := 4) (by kernel_rfl) hi, show (Tryz.prog).cellsOf 5 = 1 from by kernel_rfl]
  exact eqI_four w a b c d a' b' c' d'
theorem pb_four (a b c d a' b' c' d' : Int) : PureBin Tryz.prog .neq 83 (a4 a b c d) (a4 a' b' c' d') (.bool !((a == a') && ((b == b') && ((c == c') && ((d == d') && true))))) := by
  refine fun x y w => ?_
  rw [Sem.run_bind, run_eqGuard_agg _ _ _ _ _ _ _ (by kernel_rfl)]
  simp only [Result.andThen_ok, run_neq_struct]
  rw [eqA_four]
  rfl
theorem bk_neq_four (a b c d a' b' c' d' : Nat) (K : Value → Prop) : binK Tryz.prog .neq 83 (.agg #[.int .u8 a, .int .u8 b, .int .u8 c, .int .u8 d]) (.agg #[.int .u8 a', .int .u8 b', .int .u8 c', .int .u8 d']) K = K (.bool (decide ([a, b, c, d] ≠ [a', b', c', d']))) := by
  have e : (!(((a : Int) == a') && (((b : Int) == b') && (((c : Int) == c') && (((d : Int) == d') && true))))) = decide ([a, b, c, d] ≠ [a', b', c', d']) := by
    rw [Bool.eq_iff_iff]
    simp [Int.natCast_inj]
  rw [← e]
  exact binK_agg (pb_four a b c d a' b' c' d') K
def openB (b : List Nat) : List Nat := (b.drop (getP b).2.1).take (getP b).1
def openR (b : List Nat) : List Nat := b.drop ((getP b).2.1 + (getP b).1)
/-- A block's bytes, and what stands behind it. -/
def openP (b : List Nat) (most : Nat) : List Nat × List Nat × Int :=
  if (getP b).2.2 ≠ 0 then ([], [], (getP b).2.2)
  else if most < (getP b).1 then ([], [], 2)
  else if b.length - (getP b).2.1 < (getP b).1 + 4 then ([], [], 3)
  else if fourW (crcP (openB b)) ≠ (openR b).take 4 then ([], [], 5)
  else (openB b, (openR b).drop 4, 0)
set_option maxRecDepth 10000 in
set_option maxHeartbeats 2000000 in
theorem open_does (b : List Nat) (nn : Bool) (most : Nat) (hm : most ≤ 1048576) (hb : ∀ c ∈ b, c < 256) (hl : b.length ≤ 140737488351232) (H : AHeap) :
    Does Tryz.prog 18 [.d (.list nn (bys b)), iA most] H (.ok (.tup [.d (.list false (bys (openP b most).1)), .d (.list false (bys (openP b most).2.1)), iA (openP b most).2.2])) H := by
  have hg := fun H => getN_does b nn (by omega) hb H
  have hle := getP_le b
  unfold openP openB openR
  generalize getP b = g at *
  obtain ⟨n, k, e⟩ := g
  simp only at hg hle ⊢
  have wm : IntKind.u64.wrap (most : Int) = (most : Int) := wrapU64N _ (by omega)
  have mneg : ((most : Int) < 0) = False := eq_false (by omega)
  by_cases he : e ≠ 0
  · rw [if_pos he]
    refine Does.subT (cs := [.d (.v (.slice none 0 0)), .d (.v (.slice none 0 0)), iA e]) ?_ (.cons .nil (.cons .nil (.cons (.refl _) .nil)))
    refine Does.of_awp (hint := (fun _ => false)) Tryz.func18 (by kernel_rfl) rfl [4, 5, 6] (by kernel_rfl) (by decide) (by simp [Tryz.ntmps18]) ?_
    rw [Tryz.ntmps18]
    simp (implicitDefEqProofs := false) only [↓reduceIte, go_sem, Nat.reduceLT, reduceCtorEq, eq_self]
    refine KCall.ok (hg _) ?_
    simp (implicitDefEqProofs := false) only [↓reduceIte, go_sem, Nat.reduceLT, Nat.reduceEqDiff, eq_self, he]
    refine AEnd.ret0 ?_
    simp (implicitDefEqProofs := false) only [↓reduceIte, go_sem, Nat.reduceLT, Nat.reduceEqDiff, eq_self]
  rw [if_neg he]
  obtain rfl : e = 0 := by simpa using he
  by_cases h1 : most < n
  · rw [if_pos h1]
    refine Does.subT (cs := [.d (.v (.slice none 0 0)), .d (.v (.slice none 0 0)), iA 2]) ?_ (.cons .nil (.cons .nil (.cons (.refl _) .nil)))
    refine Does.of_awp (hint := (fun _ => false)) Tryz.func18 (by kernel_rfl) rfl [4, 5, 6] (by kernel_rfl) (by decide) (by simp [Tryz.ntmps18]) ?_
    rw [Tryz.ntmps18]
    simp (implicitDefEqProofs := false) only [↓reduceIte, go_sem, Nat.reduceLT, reduceCtorEq, eq_self]
    refine KCall.ok (hg _) ?_
    simp (implicitDefEqProofs := false) only [↓reduceIte, go_sem, Nat.reduceLT, Nat.reduceEqDiff, reduceCtorEq, eq_self, mneg, wm, show ((most : Int) < (n : Int)) = True from eq_true (by omega)]
    refine AEnd.ret0 ?_
    simp (implicitDefEqProofs := false) only [↓reduceIte, go_sem, Nat.reduceLT, Nat.reduceEqDiff, eq_self]
  rw [if_neg h1]
  have h1f : ((most : Int) < (n : Int)) = False := eq_false (by omega)
  have w1 : IntKind.i64.wrap ((b.length : Int) - (k : Int)) = ((b.length - k : Nat) : Int) := by rw [wrap64_in _ (by omega) (by omega)]; omega
  have w2 : IntKind.u64.wrap ((b.length - k : Nat) : Int) = ((b.length - k : Nat) : Int) := wrapU64N _ (by omega)
  have w3 : IntKind.u64.wrap ((n : Int) + 4) = ((n + 4 : Nat) : Int) := by
    have := wrapU64N (n + 4) (by omega)
    rw [← this]; rfl
  by_cases h2 : b.length - k < n + 4
  · rw [if_pos h2]
    have h2t : (((b.length - k : Nat) : Int) < (n : Int) + 4) = True := eq_true (by omega)
    refine Does.subT (cs := [.d (.v (.slice none 0 0)), .d (.v (.slice none 0 0)), iA 3]) ?_ (.cons .nil (.cons .nil (.cons (.refl _) .nil)))
    refine Does.of_awp (hint := (fun _ => false)) Tryz.func18 (by kernel_rfl) rfl [4, 5, 6] (by kernel_rfl) (by decide) (by simp [Tryz.ntmps18]) ?_
    rw [Tryz.ntmps18]
    simp (implicitDefEqProofs := false) only [↓reduceIte, go_sem, Nat.reduceLT, reduceCtorEq, eq_self]
    refine KCall.ok (hg _) ?_
    simp (implicitDefEqProofs := false) only [↓reduceIte, go_sem, Nat.reduceLT, Nat.reduceEqDiff, reduceCtorEq, eq_self, mneg, wm, h1f, bys_len, w1, w2, w3, h2t]
    refine AEnd.ret0 ?_
    simp (implicitDefEqProofs := false) only [↓reduceIte, go_sem, Nat.reduceLT, Nat.reduceEqDiff, eq_self]
  rw [if_neg h2]
  have h2f : (((b.length - k : Nat) : Int) < (n : Int) + 4) = False := eq_false (by omega)
  have w4 : IntKind.i64.wrap (n : Int) = (n : Int) := wrap64_in _ (by omega) (by omega)
  have w5 : IntKind.i64.wrap ((k : Int) + (n : Int)) = ((k + n : Nat) : Int) := by rw [wrap64_in _ (by omega) (by omega)]; omega
  obtain ⟨q, hq⟩ : ∃ q, q = k + n := ⟨_, rfl⟩
  rw [← hq] at w5
  rw [← hq]
  generalize hB : (b.drop k).take n = B at *
  generalize hR : b.drop q = R at *
  have hBl : B.length = n := by rw [← hB, List.length_take, List.length_drop]; omega
  have hRl : 4 ≤ R.length := by rw [← hR, List.length_drop]; omega
  have hRl2 : R.length ≤ 140737488351232 := by rw [← hR, List.length_drop]; omega
  have hbB : ∀ c ∈ B, c < 256 := fun c hc => hb c (by rw [← hB] at hc; exact List.mem_of_mem_drop (List.mem_of_mem_take hc))
  have hcopy : setRows (List.replicate n [D.v (.int .u8 0)]) 0 ((bys (b.drop k)).take (min (b.length - k) n)) = bys B := by
    have : ((bys (b.drop k)).take (min (b.length - k) n)) = bys B := by
      rw [← hB]
      unfold bys
      rw [← List.map_take, show min (b.length - k) n = n by omega]
    rw [this]
    unfold setRows
    rw [List.take_zero, List.nil_append, List.drop_eq_nil_of_le (by rw [List.length_replicate, bys_len]; omega), List.append_nil]
  have hsum := fun H => sum_does B false hbB (by omega) H
  have hcl := crcP_lt B
  have hfo := fun H => four_does (crcP B) hcl H
  unfold crcP at *
  obtain ⟨y0, y1, y2, y3, hy⟩ : ∃ y0 y1 y2 y3, fourW (4294967295 - sumW B) = [y0, y1, y2, y3] := ⟨_, _, _, _, rfl⟩
  rw [hy] at hfo
  simp only [List.map_cons, List.map_nil, b8] at hfo
  rw [hy]
  obtain ⟨x0, x1, x2, x3, R', hR4⟩ : ∃ x0 x1 x2 x3 R', R = x0 :: x1 :: x2 :: x3 :: R' := by
    match R, hRl with
    | x0 :: x1 :: x2 :: x3 :: R', _ => exact ⟨_, _, _, _, _, rfl⟩
    | [], h => simp at h
    | [_], h => simp at h
    | [_, _], h => simp at h
    | [_, _, _], h => simp at h
  have ht4 : List.take 4 (bys R) = [D.v (.int .u8 (x0 : Int)), .v (.int .u8 (x1 : Int)), .v (.int .u8 (x2 : Int)), .v (.int .u8 (x3 : Int))].map fun d => [d] := by rw [hR4]; rfl
  have hr4 : R.take 4 = [x0, x1, x2, x3] := by rw [hR4]; rfl
  have hd4 : List.drop 4 (bys R) = bys (R.drop 4) := by unfold bys; rw [List.map_drop]
  rw [hr4]
  have hdk : List.drop k (bys b) = bys (b.drop k) := by unfold bys; rw [List.map_drop]
  have hdkn : List.drop q (bys b) = bys R := by rw [← hR]; unfold bys; rw [List.map_drop]
  have hdkl : (bys (b.drop k)).length = b.length - k := by rw [bys_len, List.length_drop]
  suffices h : Does Tryz.prog 18 [.d (.list nn (bys b)), iA most] H (.ok (if [y0, y1, y2, y3] ≠ [x0, x1, x2, x3] then .tup [.d (.v (.slice none 0 0)), .d (.v (.slice none 0 0)), iA 5] else .tup [.d (.list false (bys B)), .d (.list false (bys (R.drop 4))), iA 0])) H by
    by_cases h3 : [y0, y1, y2, y3] ≠ [x0, x1, x2, x3]
    · rw [if_pos h3] at h ⊢
      exact Does.subT h (.cons .nil (.cons .nil (.cons (.refl _) .nil)))
    · rw [if_neg h3] at h ⊢
      exact h
  refine Does.of_awp (hint := (fun t => t == 1000011)) Tryz.func18 (by kernel_rfl) rfl [4, 5, 6] (by kernel_rfl) (by decide) (by simp [Tryz.ntmps18]) ?_
  rw [Tryz.ntmps18]
  simp (implicitDefEqProofs := false) only [↓reduceIte, go_sem, Nat.reduceAdd, Nat.reduceLT, Nat.reduceBEq, reduceCtorEq, eq_self]
  refine KCall.ok (hg _) ?_
  simp (implicitDefEqProofs := false) only [↓reduceIte, go_sem, Nat.reduceAdd, Nat.reduceLT, Nat.reduceEqDiff, Nat.reduceBEq, reduceCtorEq, eq_self, mneg, wm, h1f, bys_len, w1, w2, w3, h2f, w4, w5, bys_one, List.take_of_length_le (Nat.le_of_eq (bys_len b)), hdk, hdkn, hdkl, hcopy]
  refine ⟨⟨by omega, by omega⟩, by omega, by omega, ?_⟩
  refine ⟨_, _, Weak.drop H _ _, ?_⟩
  simp (implicitDefEqProofs := false) only [go_sem]
  refine awp_drawL [some true, some false, some true, some true, some false, none, some false, none] 0 H K.mixed (by kernel_rfl) (by kernel_rfl) (by kernel_rfl) (Ext.refl _) ?_
  simp (implicitDefEqProofs := false) only [↓reduceIte, go_sem, Nat.reduceLT]
  refine KCall.ok (table_does _) ?_
  simp (implicitDefEqProofs := false) only [↓reduceIte, go_sem, Nat.reduceLT, Nat.reduceEqDiff, eq_self, List.take_of_length_le (show (bys B).length ≤ n by rw [bys_len]; omega)]
  refine KCall.ok (hsum _) ?_
  simp (implicitDefEqProofs := false) only [↓reduceIte, go_sem, Nat.reduceLT, eq_self]
  refine KCall.ok (hfo _) ?_
  have hon : ones [[D.v (.int .u8 (x0 : Int))], [.v (.int .u8 (x1 : Int))], [.v (.int .u8 (x2 : Int))], [.v (.int .u8 (x3 : Int))]] = some [.v (.int .u8 (x0 : Int)), .v (.int .u8 (x1 : Int)), .v (.int .u8 (x2 : Int)), .v (.int .u8 (x3 : Int))] := rfl
  simp (implicitDefEqProofs := false) only [↓reduceIte, go_sem, Nat.reduceAdd, Nat.reduceLT, Nat.reduceEqDiff, Int.reduceLE, Int.reduceToNat, eq_self, bys_one, bys_len, ht4, hon]
  refine ⟨by omega, ?_⟩
  simp (implicitDefEqProofs := false) only [↓reduceIte, go_sem, Nat.reduceLT, eq_self, bk_neq_four]
  by_cases h3 : [y0, y1, y2, y3] = [x0, x1, x2, x3]
  · rw [if_neg (by simpa using h3)]
    rw [show (decide ¬[y0, y1, y2, y3] = [x0, x1, x2, x3]) = false from decide_eq_false fun h => h h3]
    clear hR4 hr4 ht4
    have htR : List.take R.length (bys R) = bys R := List.take_of_length_le (Nat.le_of_eq (bys_len R))
    simp (implicitDefEqProofs := false) only [↓reduceIte, go_sem, Nat.reduceAdd, Nat.reduceLT, Nat.reduceEqDiff, Nat.reduceBEq, Int.reduceLE, Int.reduceToNat, eq_self, bys_len, bys_one, htR, hd4, List.length_drop]
    refine ⟨by omega, by omega, by omega, ?_⟩
    refine AEnd.ret ?_
    simp (implicitDefEqProofs := false) only [↓reduceIte, go_sem, Nat.reduceLT, Nat.reduceEqDiff, eq_self, List.take_of_length_le (show (bys (R.drop 4)).length ≤ R.length - 4 by rw [bys_len, List.length_drop]; omega), List.take_of_length_le (show (bys B).length ≤ n by rw [bys_len]; omega)]
  · rw [if_pos h3]
    rw [show (decide ¬[y0, y1, y2, y3] = [x0, x1, x2, x3]) = true from decide_eq_true h3]
    simp (implicitDefEqProofs := false) only [↓reduceIte, go_sem, Nat.reduceLT]
    refine AEnd.ret0 ?_
    simp (implicitDefEqProofs := false) only [↓reduceIte, go_sem, Nat.reduceLT, Nat.reduceEqDiff, eq_self]
end Go.Proofs.YtmbagpfmfiegkaaGreat
namespace Go.Proofs.YtmbagpfmfiegkaaGreat
open Go.Proofs.YtmbagpfmfiegkaaGreatAw Go.RowKit
set_option linter.unusedVariables false
set_option linter.unusedSimpArgs false
def withBody (s : Sg) (b : List Nat) : Sg := ⟨s.kind, s.codec, s.zone, s.nulls, b⟩
set_option maxRecDepth 10000 in
set_option maxHeartbeats 8000000 in
theorem of_walk (b x rest y y2 B1 B2 : List Nat) (s1 s2 t : Sg) (L : List Val) (e0 e1 e2 e3 e4 : Int) (H0 : AHeap)
    (ho : ∀ H, Does Tryz.prog 18 [.d (.list false (bys b)), iA (1048576 : Int)] H (.ok (.tup [.d (.list false (bys x)), .d (.list false (bys rest)), iA e0])) H)
    (hh : e0 = 0 → ∀ H, Does Tryz.prog 19 [.d (.list false (bys x))] H (.ok (.tup [.agg s1.cs, .d (.list false (bys y)), iA e1])) H)
    (hz : e0 = 0 → e1 = 0 → ∀ (G : AHeap) (id : Nat), G[id]? = some (sB s1) → Does Tryz.prog 20 [.ptr id 0 0 0, .d (.list false (bys y))] G (.ok (.tup [.d (.list false (bys y2)), iA e2])) (G.set id (sB s2)))
    (hv : e0 = 0 → e1 = 0 → e2 = 0 → ∀ H, Does Tryz.prog 21 [.agg (withBody s2 y2).cs] H (.ok (.tup [.d (.list false (L.map Val.enc)), iA e3])) H)
    (hm : e0 = 0 → e1 = 0 → e2 = 0 → e3 = 0 → s2.codec ≠ 0 ∧ ∀ H, Does Tryz.prog 14 [.d (.list false (L.map Val.enc)), iA s2.kind, iA s2.codec] H (.ok (.tup [.agg t.cs, iA e4])) H)
    (hB : e0 = 0 → e1 = 0 → e2 = 0 → e3 = 0 → e4 = 0 → Byte B1 ∧ Byte B2 ∧ (∀ H, Does Tryz.prog 15 [.agg t.cs] H (.ok (.d (.list false (bys B1)))) H) ∧ ∀ H, Does Tryz.prog 22 [.d (.list false (bys x))] H (.ok (.d (.list false (bys B2)))) H) :
    Does Tryz.prog 8 [.d (.list false (bys b))] H0 (.ok (if e0 ≠ 0 then .tup [.agg zSgC, .d (.v (.slice none 0 0)), iA e0] else if e1 ≠ 0 then .tup [.agg zSgC, .d (.v (.slice none 0 0)), iA e1] else if e2 ≠ 0 then .tup [.agg zSgC, .d (.v (.slice none 0 0)), iA e2]
      else if e3 ≠ 0 then .tup [.agg zSgC, .d (.v (.slice none 0 0)), iA 4] else if e4 ≠ 0 ∨ B1 ≠ B2 then .tup [.agg zSgC, .d (.v (.slice none 0 0)), iA 4] else .tup [.agg t.cs, .d (.list false (bys rest)), iA 0])) H0 := by
  refine Does.of_awpC (hint := fun _ => false) Tryz.func8 (by kernel_rfl) rfl [.cell 2 30, .tmp 3, .tmp 4] (by kernel_rfl) (by simp [Tryz.ntmps8]) ?_
  rw [Tryz.ntmps8]
  simp (implicitDefEqProofs := false) only [↓reduceIte, go_sem, Nat.reduceLT, reduceCtorEq, eq_self]
  refine KCall.ok (ho _) ?_
  by_cases h0 : e0 ≠ 0
  · rw [if_pos h0]
    simp (implicitDefEqProofs := false) only [↓reduceIte, go_sem, owrite, Nat.reduceAdd, Nat.reduceLT, Nat.reduceEqDiff, eq_self, h0]
    refine AEndC.ret ?_
    simp (implicitDefEqProofs := false) only [↓reduceIte, go_sem, oread, Nat.reduceAdd, Nat.reduceLT, Nat.reduceLeDiff, Nat.reduceEqDiff, eq_self, resAll, resAV, zSgC, noS]
  rw [if_neg h0]
  obtain rfl : e0 = 0 := by simpa using h0
  simp (implicitDefEqProofs := false) only [↓reduceIte, go_sem, Nat.reduceLT, Nat.reduceEqDiff, eq_self]
  refine KCall.ok (hh rfl _) ?_
  unfold Sg.cs
  obtain ⟨k1, w1, ⟨zr1, zn1, zmn1, zmx1⟩, ns1, bd1⟩ := s1
  obtain ⟨k2, w2, ⟨zr2, zn2, zmn2, zmx2⟩, ns2, bd2⟩ := s2
  unfold sB withBody Sg.cs at *
  by_cases h1 : e1 ≠ 0
  · rw [if_pos h1]
    simp (implicitDefEqProofs := false) only [↓reduceIte, go_sem, owrite, Nat.reduceAdd, Nat.reduceLT, Nat.reduceEqDiff, eq_self, h1]
    refine AEndC.ret ?_
    simp (implicitDefEqProofs := false) only [↓reduceIte, go_sem, oread, Nat.reduceAdd, Nat.reduceLT, Nat.reduceLeDiff, Nat.reduceEqDiff, eq_self, resAll, resAV, zSgC, noS]
  rw [if_neg h1]
  obtain rfl : e1 = 0 := by simpa using h1
  simp (implicitDefEqProofs := false) only [↓reduceIte, go_sem, owrite, Nat.reduceAdd, Nat.reduceLT, Nat.reduceEqDiff, eq_self]
  refine KCall.ok (hz rfl rfl _ _ (by simp (implicitDefEqProofs := false) only [go_sem, eq_self])) ?_
  by_cases h2 : e2 ≠ 0
  · rw [if_pos h2]
    simp (implicitDefEqProofs := false) only [↓reduceIte, go_sem, owrite, Nat.reduceAdd, Nat.reduceLT, Nat.reduceEqDiff, eq_self, h2]
    refine AEndC.ret ?_
    simp (implicitDefEqProofs := false) only [↓reduceIte, go_sem, oread, Nat.reduceAdd, Nat.reduceLT, Nat.reduceLeDiff, Nat.reduceEqDiff, eq_self, resAll, resAV, zSgC, noS]
  rw [if_neg h2]
  obtain rfl : e2 = 0 := by simpa using h2
  simp (implicitDefEqProofs := false) only [↓reduceIte, go_sem, oread, owrite, Nat.reduceAdd, Nat.reduceLT, Nat.reduceEqDiff, eq_self]
  refine KCall.ok (hv rfl rfl rfl _) ?_
  by_cases h3 : e3 ≠ 0
  · rw [if_pos h3]
    simp (implicitDefEqProofs := false) only [↓reduceIte, go_sem, owrite, Nat.reduceAdd, Nat.reduceLT, Nat.reduceEqDiff, eq_self, h3]
    refine AEndC.ret ?_
    simp (implicitDefEqProofs := false) only [↓reduceIte, go_sem, oread, Nat.reduceAdd, Nat.reduceLT, Nat.reduceLeDiff, Nat.reduceEqDiff, eq_self, resAll, resAV, zSgC, noS]
  rw [if_neg h3]
  obtain rfl : e3 = 0 := by simpa using h3
  obtain ⟨hw0, hm⟩ := hm rfl rfl rfl rfl
  have hw0 : (w2 = 0) = False := eq_false hw0
  obtain ⟨k4, w4, ⟨zr4, zn4, zmn4, zmx4⟩, ns4, bd4⟩ := t
  simp (implicitDefEqProofs := false) only [↓reduceIte, go_sem, oread, Nat.reduceAdd, Nat.reduceLT, Nat.reduceLeDiff, Nat.reduceEqDiff, eq_self]
  refine KCall.ok (hm _) ?_
  by_cases h4 : e4 ≠ 0
  · rw [if_pos (.inl h4)]
    simp (implicitDefEqProofs := false) only [↓reduceIte, go_sem, owrite, Nat.reduceAdd, Nat.reduceLT, Nat.reduceEqDiff, eq_self]
    refine awp_draw K.mixed (by kernel_rfl) ?_
    simp (implicitDefEqProofs := false) only [↓reduceIte, go_sem, owrite, Nat.reduceAdd, Nat.reduceLT, Nat.reduceEqDiff, eq_self, h4]
    refine AEndC.ret ?_
    simp (implicitDefEqProofs := false) only [↓reduceIte, go_sem, oread, Nat.reduceAdd, Nat.reduceLT, Nat.reduceLeDiff, Nat.reduceEqDiff, eq_self, resAll, resAV, zSgC, noS]
  obtain rfl : e4 = 0 := by simpa using h4
  obtain ⟨b1, b2, hBy, hk⟩ := hB rfl rfl rfl rfl rfl
  clear hB
  have hbe := bstr_beq b1 b2
  by_cases hBB : B1 ≠ B2
  · rw [if_pos (.inr hBB)]
    simp (implicitDefEqProofs := false) only [↓reduceIte, go_sem, owrite, Nat.reduceAdd, Nat.reduceLT, Nat.reduceEqDiff, eq_self]
    refine awp_draw K.mixed (by kernel_rfl) ?_
    simp (implicitDefEqProofs := false) only [↓reduceIte, go_sem, oread, Nat.reduceAdd, Nat.reduceLT, Nat.reduceLeDiff, Nat.reduceEqDiff, reduceCtorEq, eq_self, hw0]
    refine KCall.ok (hBy _) ?_
    simp (implicitDefEqProofs := false) only [↓reduceIte, go_sem, Nat.reduceLT, Nat.reduceEqDiff, eq_self, asBytes_bys, bstr_eq]
    refine KCall.ok (hk _) ?_
    simp (implicitDefEqProofs := false) only [↓reduceIte, go_sem, owrite, Nat.reduceAdd, Nat.reduceLT, Nat.reduceEqDiff, reduceCtorEq, eq_self, asBytes_bys, bstr_eq, hbe, hBB]
    refine AEndC.ret ?_
    simp (implicitDefEqProofs := false) only [↓reduceIte, go_sem, oread, Nat.reduceAdd, Nat.reduceLT, Nat.reduceLeDiff, Nat.reduceEqDiff, eq_self, resAll, resAV, zSgC, noS]
  · rw [if_neg (fun h => h.elim (fun h => h rfl) hBB)]
    obtain rfl : B1 = B2 := by simpa using hBB
    simp (implicitDefEqProofs := false) only [↓reduceIte, go_sem, owrite, Nat.reduceAdd, Nat.reduceLT, Nat.reduceEqDiff, eq_self]
    refine awp_draw K.mixed (by kernel_rfl) ?_
    simp (implicitDefEqProofs := false) only [↓reduceIte, go_sem, oread, Nat.reduceAdd, Nat.reduceLT, Nat.reduceLeDiff, Nat.reduceEqDiff, reduceCtorEq, eq_self, hw0]
    refine KCall.ok (hBy _) ?_
    simp (implicitDefEqProofs := false) only [↓reduceIte, go_sem, Nat.reduceLT, Nat.reduceEqDiff, eq_self, asBytes_bys, bstr_eq]
    refine KCall.ok (hk _) ?_
    simp (implicitDefEqProofs := false) only [↓reduceIte, go_sem, oread, owrite, Nat.reduceAdd, Nat.reduceLT, Nat.reduceEqDiff, reduceCtorEq, eq_self, asBytes_bys, bstr_eq, hbe]
    refine AEndC.ret ?_
    simp (implicitDefEqProofs := false) only [↓reduceIte, go_sem, oread, Nat.reduceAdd, Nat.reduceLT, Nat.reduceLeDiff, Nat.reduceEqDiff, eq_self, resAll, resAV]
end Go.Proofs.YtmbagpfmfiegkaaGreat
namespace Go.Proofs.YtmbagpfmfiegkaaGreat
open Go.Proofs.YtmbagpfmfiegkaaGreatAw Go.RowKit
set_option linter.unusedVariables false
set_option linter.unusedSimpArgs false
theorem byte_take {b : List Nat} (h : Byte b) (n : Nat) : Byte (b.take n) := fun c hc => h c (List.mem_of_mem_take hc)
theorem byte_nil : Byte [] := fun c hc => by cases hc
/-- What stands behind, or nothing. -/
def Tail (r b : List Nat) : Prop := r = [] ∨ ∃ j, r = b.drop j
theorem Tail.byte {r b : List Nat} (h : Tail r b) (hb : Byte b) : Byte r := by
  rcases h with rfl | ⟨j, rfl⟩
  · exact byte_nil
  · exact byte_drop hb j
theorem Tail.len {r b : List Nat} (h : Tail r b) : r.length ≤ b.length := by
  rcases h with rfl | ⟨j, rfl⟩
  · simp
  · rw [List.length_drop]; omega
theorem Tail.refl (b : List Nat) : Tail b b := .inr ⟨0, rfl⟩
theorem Tail.trans {r c b : List Nat} (h1 : Tail r c) (h2 : Tail c b) : Tail r b := by
  rcases h1 with rfl | ⟨j, rfl⟩
  · exact .inl rfl
  · rcases h2 with rfl | ⟨i, rfl⟩
    · exact .inl (by simp)
    · exact .inr ⟨i + j, by rw [List.drop_drop]⟩
theorem openP_ok {b : List Nat} (hb : Byte b) (m : Nat) : Byte (openP b m).1 ∧ (openP b m).1.length ≤ m ∧ Tail (openP b m).2.1 b := by
  unfold openP
  split
  · exact ⟨byte_nil, by simp, .inl rfl⟩
  split
  · exact ⟨byte_nil, by simp, .inl rfl⟩
  split
  · exact ⟨byte_nil, by simp, .inl rfl⟩
  split
  · exact ⟨byte_nil, by simp, .inl rfl⟩
  · rename_i h _ _
    refine ⟨byte_take (byte_drop hb _) _, ?_, .inr ⟨_, List.drop_drop⟩⟩
    simp only [openB, List.length_take]
    omega
theorem headP_ok {b : List Nat} (h : (headP b).2.2 = 0) : ∃ kn cn zr zn : Nat, (headP b).1 = ⟨(kn : Int), (cn : Int), ⟨zr, zn, ⟨0, 0, noS⟩, ⟨0, 0, noS⟩⟩, [], []⟩ ∧ 1 ≤ kn ∧ kn ≤ 3 ∧ zr ≤ 4096 ∧ zn ≤ zr ∧ Tail (headP b).2.1 b := by
  unfold headP at *
  split at h
  · rename_i he; exact absurd h he
  rename_i h1
  rw [if_neg h1]
  split at h
  · simp at h
  rename_i h2
  rw [if_neg h2]
  have h2 : headOk (numsF 4 b []).1 = true := by simpa using h2
  unfold headOk at h2
  simp only [Bool.and_eq_true, decide_eq_true_eq] at h2
  obtain ⟨j, hj⟩ := numsF_suffix 4 b []
  refine ⟨_, _, _, _, rfl, h2.1.1.1, h2.1.1.2, h2.1.2, h2.2, ?_⟩
  rcases hj with hj | hj
  · exact .inr ⟨j, hj⟩
  · exact .inl hj
theorem ofV_tail (b : List Nat) (k : Int) : Tail (ofV b k).2.1 b := .inr (ofV_suffix b k)
theorem zoneE_ok (s : Sg) (b : List Nat) : (zoneE s b).1.kind = s.kind ∧ (zoneE s b).1.codec = s.codec ∧ (zoneE s b).1.zone.rows = s.zone.rows ∧ (zoneE s b).1.nulls = s.nulls ∧ Tail (zoneE s b).2.1 b := by
  unfold zoneE
  split
  · exact ⟨rfl, rfl, rfl, rfl, .refl b⟩
  split
  · exact ⟨rfl, rfl, rfl, rfl, .inl rfl⟩
  split
  · exact ⟨rfl, rfl, rfl, rfl, .inl rfl⟩
  · exact ⟨rfl, rfl, rfl, rfl, (ofV_tail _ _).trans (ofV_tail _ _)⟩
theorem zoneR_ok (s : Sg) (b : List Nat) (hs : s.nulls = []) : (zoneR s b).1.kind = s.kind ∧ (zoneR s b).1.codec = s.codec ∧ (zoneR s b).1.zone.rows = s.zone.rows ∧ (zoneR s b).1.nulls.length ≤ s.zone.rows ∧ Tail (zoneR s b).2.1 b := by
  unfold zoneR
  split
  · obtain ⟨h1, h2, h3, h4, h5⟩ := zoneE_ok s b
    exact ⟨h1, h2, h3, by rw [h4, hs]; simp, h5⟩
  split
  · exact ⟨rfl, rfl, rfl, by rw [hs]; simp, .inl rfl⟩
  split
  · exact ⟨rfl, rfl, rfl, by simp [withNulls], .inl rfl⟩
  · obtain ⟨h1, h2, h3, h4, h5⟩ := zoneE_ok (withNulls s (nofL (b.take ((s.zone.rows + 7) / 8)) s.zone.rows)) (b.drop ((s.zone.rows + 7) / 8))
    refine ⟨h1, h2, h3, ?_, h5.trans (.inr ⟨_, rfl⟩)⟩
    rw [h4]
    simp [withNulls, nofL, unpackL]
theorem joinL_mem : ∀ {ns : List Bool} {l : List Val} {v : Val}, v ∈ joinL ns l → v = ⟨0, 0, noS⟩ ∨ v ∈ l
  | [], l, v, h => by simp [joinL] at h
  | true :: ns, l, v, h => by
    rcases List.mem_cons.1 (by simpa [joinL] using h) with h | h
    · exact .inl h
    · exact joinL_mem h
  | false :: ns, [], v, h => by simp [joinL] at h
  | false :: ns, w :: l, v, h => by
    rcases List.mem_cons.1 (by simpa [joinL] using h) with h | h
    · exact .inr (by simp [h])
    · rcases joinL_mem h with h | h
      · exact .inl h
      · exact .inr (by simp [h])
theorem joinL_len : ∀ (ns : List Bool) (l : List Val), (joinL ns l).length ≤ ns.length
  | [], l => by simp [joinL]
  | true :: ns, l => by simp only [joinL, List.length_cons]; have := joinL_len ns l; omega
  | false :: ns, [] => by simp [joinL]
  | false :: ns, w :: l => by simp only [joinL, List.length_cons]; have := joinL_len ns l; omega
theorem valsS_ok {s : Sg} (hb : Byte s.body) (hn : s.nulls.length ≤ 4096) (h : (valsS s).2 = 0) : 1 ≤ s.codec ∧ s.codec ≤ 4 ∧ (valsS s).1.length ≤ 4096 ∧ ∀ v ∈ (valsS s).1, I64 v.i := by
  have hlen := getV_len s.body ((s.zone.rows : Int) - (countP1 s.nulls : Int)) s.kind s.codec hb
  have hgood := fun l => getV_good (b := s.body) (n := (s.zone.rows : Int) - (countP1 s.nulls : Int)) (k := s.kind) (w := s.codec) (l := l) hb
  unfold valsS at *
  generalize getV s.body ((s.zone.rows : Int) - (countP1 s.nulls : Int)) s.kind s.codec = q at *
  obtain ⟨l, e⟩ := q
  simp only at hlen h hgood ⊢
  by_cases c : e ≠ 0 ∨ s.nulls = []
  · rw [if_pos c] at h ⊢
    simp only at h
    subst h
    obtain ⟨g1, g2, g3, g4⟩ := hgood l rfl
    exact ⟨g3, g4, hlen, fun v hv => (g2 v hv).2.2⟩
  · rw [if_neg c] at h ⊢
    obtain rfl : e = 0 := by simpa using fun h => c (.inl h)
    obtain ⟨g1, g2, g3, g4⟩ := hgood l rfl
    refine ⟨g3, g4, ?_⟩
    unfold joinP at h ⊢
    split at h
    · simp at h
    rename_i c1
    rw [if_neg c1]
    split at h
    · simp at h
    rename_i c2
    rw [if_neg c2]
    refine ⟨by have := joinL_len s.nulls l; simp only; omega, fun v hv => ?_⟩
    rcases joinL_mem hv with rfl | hv
    · exact ⟨by decide, by decide⟩
    · exact (g2 v hv).2.2
/-- A segment, read. -/
noncomputable def segOf (b : List Nat) : Sg × List Nat × Int :=
  if (openP b 1048576).2.2 ≠ 0 then (zSg, [], (openP b 1048576).2.2)
  else if (headP (openP b 1048576).1).2.2 ≠ 0 then (zSg, [], (headP (openP b 1048576).1).2.2)
  else if (zoneR (headP (openP b 1048576).1).1 (headP (openP b 1048576).1).2.1).2.2 ≠ 0 then (zSg, [], (zoneR (headP (openP b 1048576).1).1 (headP (openP b 1048576).1).2.1).2.2)
  else segOf2 (openP b 1048576).1 (openP b 1048576).2.1 (withBody (zoneR (headP (openP b 1048576).1).1 (headP (openP b 1048576).1).2.1).1 (zoneR (headP (openP b 1048576).1).1 (headP (openP b 1048576).1).2.1).2.1)
where segOf2 (x rest : List Nat) (s : Sg) : Sg × List Nat × Int :=
  if (valsS s).2 ≠ 0 then (zSg, [], 4)
  else if (makeP (valsS s).1 s.kind s.codec).2 ≠ 0 ∨ segB s.kind.toNat s.codec.toNat (makeP (valsS s).1 s.kind s.codec).1 ≠ blockP x then (zSg, [], 4)
  else ((makeP (valsS s).1 s.kind s.codec).1, rest, 0)
theorem segB_byte {k c : Nat} {s : Sg} (h : Byte (segI k c s)) (hl : (segI k c s).length ≤ 20000000) : Byte (segB k c s) :=
  ((putP_byte64 (by omega)).app h).app (fourW_lt _)
set_option maxRecDepth 10000 in
theorem segOf_does (b : List Nat) (hb : Byte b) (hl : b.length ≤ 140737488351232) (H : AHeap) :
    Does Tryz.prog 8 [.d (.list false (bys b))] H (.ok (.tup [.agg (segOf b).1.cs, .d (.list false (bys (segOf b).2.1)), iA (segOf b).2.2])) H := by
  have ho := fun H => open_does b false 1048576 (by omega) hb hl H
  obtain ⟨ox, oxl, ot⟩ := openP_ok hb 1048576
  have hbk := fun H => block_does (openP b 1048576).1 false ox (by omega) H
  unfold segOf
  generalize openP b 1048576 = o at *
  obtain ⟨x, rest, e0⟩ := o
  simp only at ho ox oxl ot hbk ⊢
  have hh := fun H => head_does x ox (by omega) H
  have hho := @headP_ok x
  generalize headP x = h at *
  obtain ⟨s1, y, e1⟩ := h
  simp only at hh hho ⊢
  have hzo := zoneR_ok s1 y
  have hzz : e1 = 0 → ∀ (G : AHeap) (id : Nat), G[id]? = some (sB s1) → Does Tryz.prog 20 [.ptr id 0 0 0, .d (.list false (bys y))] G (.ok (.tup [.d (.list false (bys (zoneR s1 y).2.1)), iA (zoneR s1 y).2.2])) (G.set id (sB (zoneR s1 y).1)) := by
    intro h1 G id hG
    obtain ⟨kn, cn, zr, zn, rfl, g1, g2, g3, g4, g5⟩ := hho h1
    exact szone_does _ y (by simp only; omega) (g5.byte ox) (by have := g5.len; omega) G id hG
  generalize zoneR s1 y = z at *
  obtain ⟨s2, y2, e2⟩ := z
  simp only at hzo hzz ⊢
  have hfact : e1 = 0 → Byte y2 ∧ y2.length ≤ 1048576 ∧ s2.zone.rows ≤ 4096 ∧ s2.nulls.length ≤ 4096 ∧ (∃ kn : Nat, s2.kind = (kn : Int)) ∧ ∃ cn : Nat, s2.codec = (cn : Int) := by
    intro h1
    obtain ⟨kn, cn, zr, zn, rfl, g1, g2, g3, g4, g5⟩ := hho h1
    obtain ⟨z1, z2, z3, z4, z5⟩ := hzo rfl
    simp only at z1 z2 z3 z4
    exact ⟨z5.byte (g5.byte ox), by have := z5.len; have := g5.len; omega, by omega, by omega, ⟨kn, z1⟩, cn, z2⟩
  have hv : e1 = 0 → ∀ H, Does Tryz.prog 21 [.agg (withBody s2 y2).cs] H (.ok (.tup [.d (.list false ((valsS (withBody s2 y2)).1.map Val.enc)), iA (valsS (withBody s2 y2)).2])) H := by
    intro h1 H
    obtain ⟨f1, f2, f3, f4, _, _⟩ := hfact h1
    exact vals_does (withBody s2 y2) (by simp only [withBody]; omega) (by simp only [withBody]; omega) f1 (by simp only [withBody]; omega) H (by have := getV_len (withBody s2 y2).body (((withBody s2 y2).zone.rows : Int) - (countP1 (withBody s2 y2).nulls : Int)) (withBody s2 y2).kind (withBody s2 y2).codec f1; omega)
  have hvo : e1 = 0 → (valsS (withBody s2 y2)).2 = 0 → _ := fun h1 => valsS_ok (s := withBody s2 y2) (hfact h1).1 (hfact h1).2.2.2.1
  unfold segOf.segOf2
  obtain ⟨S, hS⟩ : ∃ S, S = withBody s2 y2 := ⟨_, rfl⟩
  have hSk : S.kind = s2.kind := by rw [hS]; rfl
  have hSw : S.codec = s2.codec := by rw [hS]; rfl
  rw [← hS] at hv hvo ⊢
  have hm : e1 = 0 → (valsS S).2 = 0 → ∀ H, Does Tryz.prog 14 [.d (.list false ((valsS S).1.map Val.enc)), iA S.kind, iA S.codec] H (.ok (.tup [.agg (makeP (valsS S).1 S.kind S.codec).1.cs, iA (makeP (valsS S).1 S.kind S.codec).2])) H := by
    intro h1 h2 H
    obtain ⟨_, _, g3, g4⟩ := hvo h1 h2
    exact make_does _ _ _ g4 (by omega) H
  have hB : e1 = 0 → (valsS S).2 = 0 → (makeP (valsS S).1 S.kind S.codec).2 = 0 → Byte (segB S.kind.toNat S.codec.toNat (makeP (valsS S).1 S.kind S.codec).1) ∧ Byte (blockP x) ∧ (∀ H, Does Tryz.prog 15 [.agg (makeP (valsS S).1 S.kind S.codec).1.cs] H (.ok (.d (.list false (bys (segB S.kind.toNat S.codec.toNat (makeP (valsS S).1 S.kind S.codec).1))))) H) ∧ ∀ H, Does Tryz.prog 22 [.d (.list false (bys x))] H (.ok (.d (.list false (bys (blockP x))))) H := by
    intro h1 h2 h3
    obtain ⟨g1, _, g3, g4⟩ := hvo h1 h2
    obtain ⟨kn, cn, m1, m2, m3, m4, m5, m6, m7, m8, m9⟩ := (make_made h3).bytes g4
    have hw : whichP (valsS S).1 S.kind S.codec = S.codec := if_neg (by omega)
    rw [hw] at m4
    rw [show S.kind.toNat = kn by omega, show S.codec.toNat = cn by omega]
    exact ⟨segB_byte m7 m8, ((putP_byte64 (by omega)).app ox).app (fourW_lt _), m9.1, hbk⟩
  generalize valsS S = v at *
  obtain ⟨L, e3⟩ := v
  simp only at hv hvo hm hB ⊢
  generalize makeP L S.kind S.codec = m at *
  obtain ⟨t, e4⟩ := m
  simp only at hm hB ⊢
  generalize segB S.kind.toNat S.codec.toNat t = B1 at *
  rw [hSk, hSw] at hm
  have h := of_walk b x rest y y2 B1 (blockP x) s1 s2 t L e0 e1 e2 e3 e4 H ho (fun _ => hh) (fun _ h1 => hzz h1) (fun _ h1 _ => by rw [← hS]; exact hv h1) (fun _ h1 _ h3 => ⟨by have := (hvo h1 h3).1; omega, hm h1 h3⟩) (fun _ h1 _ h3 h4 => hB h1 h3 h4)
  by_cases h0 : e0 ≠ 0
  · rw [if_pos h0] at h ⊢
    exact Does.subT h (.cons zSg_sub (.cons .nil (.cons (.refl _) .nil)))
  rw [if_neg h0] at h ⊢
  by_cases h1 : e1 ≠ 0
  · rw [if_pos h1] at h ⊢
    exact Does.subT h (.cons zSg_sub (.cons .nil (.cons (.refl _) .nil)))
  rw [if_neg h1] at h ⊢
  by_cases h2 : e2 ≠ 0
  · rw [if_pos h2] at h ⊢
    exact Does.subT h (.cons zSg_sub (.cons .nil (.cons (.refl _) .nil)))
  rw [if_neg h2] at h ⊢
  by_cases h3 : e3 ≠ 0
  · rw [if_pos h3] at h ⊢
    exact Does.subT h (.cons zSg_sub (.cons .nil (.cons (.refl _) .nil)))
  rw [if_neg h3] at h ⊢
  by_cases h4 : e4 ≠ 0 ∨ B1 ≠ blockP x
  · rw [if_pos h4] at h ⊢
    exact Does.subT h (.cons zSg_sub (.cons .nil (.cons (.refl _) .nil)))
  rw [if_neg h4] at h ⊢
  exact h
end Go.Proofs.YtmbagpfmfiegkaaGreat
namespace Go.Proofs.YtmbagpfmfiegkaaGreat
open Go.Proofs.YtmbagpfmfiegkaaGreatAw Go.RowKit
set_option linter.unusedVariables false
set_option linter.unusedSimpArgs false
def noV : Val := ⟨0, 0, noS⟩
def normV (v : Val) : Val := if v.kind = 0 then noV else v
theorem count_some (l : List Val) : countP1 (nullsV l) + (someV l).length = l.length := by
  induction l with
  | nil => rfl
  | cons v l ih =>
    unfold countP1 nullsV someV at *
    by_cases h : v.kind = 0
    · simp [h] at *; omega
    · simp [h] at *; omega
theorem joinL_norm (l : List Val) : joinL (nullsV l) (someV l) = l.map normV := by
  induction l with
  | nil => rfl
  | cons v l ih =>
    unfold nullsV someV normV at *
    by_cases h : v.kind = 0
    · simp [h, joinL, noV] at *; exact ih
    · simp [h, joinL] at *; exact ih
theorem some_norm (l : List Val) : someV (l.map normV) = someV l := by
  induction l with
  | nil => rfl
  | cons v l ih =>
    unfold someV normV at *
    by_cases h : v.kind = 0
    · simp [h, noV] at *; exact ih
    · simp [h] at *; exact ih
theorem nulls_norm (l : List Val) : nullsV (l.map normV) = nullsV l := by
  unfold nullsV
  rw [List.map_map]
  apply List.map_congr_left
  intro v _
  by_cases h : v.kind = 0 <;> simp [normV, h, noV]
theorem zone_norm (l : List Val) : zoneP (l.map normV) = zoneP l := by
  have : ∀ (m : List Val) (z : Zn), (m.map normV).foldl zoneStep z = m.foldl zoneStep z := by
    intro m
    induction m with
    | nil => intro z; rfl
    | cons v m ih =>
      intro z
      rw [List.map_cons, List.foldl_cons, List.foldl_cons, ih]
      congr 1
      by_cases h : v.kind = 0
      · simp [normV, h, noV, zoneStep]
      · simp [normV, h]
  unfold zoneP
  rw [this, List.length_map]
theorem some_some (l : List Val) : someV (someV l) = someV l := by simp [someV]
theorem some_all {l : List Val} (h : (someV l).length = l.length) : someV l = l := List.Sublist.eq_of_length List.filter_sublist h
theorem norm_all {l : List Val} (h : (someV l).length = l.length) : l.map normV = l := by
  have e := some_all h
  have : ∀ v ∈ l, normV v = v := fun v hv => by
    rw [← e] at hv
    have := (List.mem_filter.1 hv).2
    simp only [decide_eq_true_eq] at this
    simp [normV, this]
  rw [List.map_congr_left (g := id) this, List.map_id]
structure Ends (m : List Val) (z : Zn) : Prop where
  none : someV m = [] → z.mn = noV ∧ z.mx = noV
  some : someV m ≠ [] → z.mn ∈ someV m ∧ z.mx ∈ someV m
  all : ∀ v ∈ someV m, 0 ≤ cmpV v z.mn ∧ cmpV v z.mx ≤ 0
theorem Ends.step {m : List Val} {z : Zn} (h : Ends m z) (v : Val) : Ends (m ++ [v]) (zoneStep z v) := by
  unfold zoneStep
  by_cases hk : v.kind = 0
  · rw [if_pos hk]
    have e : someV (m ++ [v]) = someV m := by simp [someV, hk]
    exact ⟨by rw [e]; exact h.none, by rw [e]; exact h.some, by rw [e]; exact h.all⟩
  · rw [if_neg hk]
    have e : someV (m ++ [v]) = someV m ++ [v] := by simp [someV, hk]
    have hne : someV (m ++ [v]) ≠ [] := by rw [e]; simp
    have vv := cmpV_tri.self v
    by_cases hm : someV m = []
    · obtain ⟨h1, h2⟩ := h.none hm
      have e1 : zone1 z v = ⟨z.rows, z.nulls, v, v⟩ := by unfold zone1; rw [h1]; rfl
      have e2 : zone2 (zone1 z v) v = ⟨z.rows, z.nulls, v, v⟩ := by rw [e1]; unfold zone2; rw [if_neg (by simp only; omega)]
      have e3 : zone3 (zone2 (zone1 z v) v) v = ⟨z.rows, z.nulls, v, v⟩ := by rw [e2]; unfold zone3; rw [if_neg (by simp only; omega)]
      rw [e3]
      refine ⟨fun h => absurd h hne, fun _ => ⟨by rw [e, hm]; simp, by rw [e, hm]; simp⟩, fun u hu => ?_⟩
      rw [e, hm] at hu
      obtain rfl : u = v := by simpa using hu
      simp only; omega
    · obtain ⟨h1, h2⟩ := h.some hm
      have hk1 : z.mn.kind ≠ 0 := by simpa using (List.mem_filter.1 h1).2
      have e1 : zone1 z v = z := by unfold zone1; rw [if_neg hk1]
      rw [e1]
      have g2 : (zone2 z v).mn ∈ someV (m ++ [v]) ∧ (zone2 z v).mx = z.mx ∧ ∀ u ∈ someV (m ++ [v]), 0 ≤ cmpV u (zone2 z v).mn := by
        unfold zone2
        rw [e]
        by_cases c : cmpV v z.mn < 0
        · rw [if_pos c]
          refine ⟨by simp, rfl, fun u hu => ?_⟩
          rcases List.mem_append.1 hu with hu | hu
          · have a1 := (h.all u hu).1
            have a2 := cmpV_tri.anti u z.mn
            have a3 := cmpV_tri.anti u v
            have a4 := cmpV_tri.anti v u
            have a5 := cmpV_tri.ntrans v u z.mn c
            simp only
            omega
          · obtain rfl : u = v := by simpa using hu
            simp only; omega
        · rw [if_neg c]
          refine ⟨by simp [h1], rfl, fun u hu => ?_⟩
          rcases List.mem_append.1 hu with hu | hu
          · exact (h.all u hu).1
          · obtain rfl : u = v := by simpa using hu
            omega
      obtain ⟨b1, b2, b3⟩ := g2
      have mm := cmpV_tri.anti v z.mx
      have mm2 := cmpV_tri.anti z.mx v
      unfold zone3
      rw [b2]
      by_cases c : 0 < cmpV v z.mx
      · rw [if_pos c]
        refine ⟨fun h => absurd h hne, fun _ => ⟨b1, by rw [e]; simp⟩, fun u hu => ⟨b3 u hu, ?_⟩⟩
        rw [e] at hu
        rcases List.mem_append.1 hu with hu | hu
        · have a1 := (h.all u hu).2
          exact cmpV_tri.le_trans a1 (by show cmpV z.mx v ≤ 0; omega)
        · obtain rfl : u = v := by simpa using hu
          simp only; omega
      · rw [if_neg c]
        refine ⟨fun h => absurd h hne, fun _ => ⟨b1, by rw [e, b2]; simp [h2]⟩, fun u hu => ⟨b3 u hu, ?_⟩⟩
        rw [b2]
        rw [e] at hu
        rcases List.mem_append.1 hu with hu | hu
        · exact (h.all u hu).2
        · obtain rfl : u = v := by simpa using hu
          omega
theorem zone_ends (l : List Val) : Ends l (zoneP l) := by
  have : ∀ (r m : List Val) (z : Zn), Ends m z → Ends (m ++ r) (r.foldl zoneStep z) := by
    intro r
    induction r with
    | nil => intro m z h; simpa using h
    | cons v r ih =>
      intro m z h
      have := ih _ _ (h.step v)
      rwa [List.append_assoc] at this
  have h0 : Ends [] ⟨l.length, 0, ⟨0, 0, noS⟩, ⟨0, 0, noS⟩⟩ := ⟨fun _ => ⟨rfl, rfl⟩, fun h => absurd rfl h, fun v hv => by cases hv⟩
  simpa [zoneP] using this l [] _ h0
theorem openP_block {x : List Nat} (hx : x.length ≤ 1048576) (more : List Nat) : openP (blockP x ++ more) 1048576 = (x, more, 0) := by
  have e : blockP x ++ more = putP x.length ++ (x ++ (fourW (crcP x) ++ more)) := by unfold blockP; simp
  have hg := getP_put x.length (by omega) (x ++ (fourW (crcP x) ++ more))
  have hB : openB (blockP x ++ more) = x := by
    unfold openB
    rw [e, hg]
    simp only
    rw [List.drop_left' rfl, List.take_left' rfl]
  have hR : openR (blockP x ++ more) = fourW (crcP x) ++ more := by
    unfold openR
    rw [e, hg]
    simp only
    rw [← List.drop_drop, List.drop_left' rfl, List.drop_left' rfl]
  unfold openP
  rw [hB, hR, e, hg]
  simp only
  rw [if_neg (by simp), if_neg (by omega), if_neg (by simp [fourW]), List.take_left' (by rfl), if_neg (by simp), List.drop_left' (by rfl)]
theorem numsF_put (a b c d : Nat) (ha : a < 1048576) (hb : b < 1048576) (hc : c < 1048576) (hd : d < 1048576) (r : List Nat) : numsF 4 (putP a ++ (putP b ++ (putP c ++ (putP d ++ r)))) [] = ([a, b, c, d], r, 0) := by
  have st : ∀ (f n : Nat) (r acc : List Nat), n < 1048576 → numsF (f + 1) (putP n ++ r) acc = numsF f r (acc ++ [n]) := by
    intro f n r acc hn
    have hg := getP_put n (by omega) r
    show (if (getP (putP n ++ r)).2.2 ≠ 0 then _ else _) = _
    rw [hg]
    simp only
    rw [if_neg (by simp), List.drop_left' rfl, Nat.min_eq_left (by omega)]
  rw [st 3 a _ _ ha, st 2 b _ _ hb, st 1 c _ _ hc, st 0 d _ _ hd]
  rfl
theorem bits_one (l : List Bool) : bitsL (l.map fun b => b.toNat) 1 = l := by
  induction l with
  | nil => rfl
  | cons b l ih =>
    have e : bitsL ((b :: l).map fun b => b.toNat) 1 = bitsN b.toNat 1 ++ bitsL (l.map fun b => b.toNat) 1 := rfl
    rw [e, ih]
    cases b <;> rfl
theorem nof_pack (l : List Bool) : unpackE (packB l) l.length 1 = 0 ∧ nofL (packB l) l.length = l := by
  have h := unpack_pack (l.map fun b => b.toNat) 1 (fun n hn => by obtain ⟨b, _, rfl⟩ := List.mem_map.1 hn; cases b <;> decide)
  unfold packP at h
  rw [bits_one, List.length_map] at h
  refine ⟨h.2, ?_⟩
  unfold nofL
  rw [h.1, List.map_map]
  have : ∀ b ∈ l, ((fun x : Nat => decide (x = 1)) ∘ fun b : Bool => b.toNat) b = b := fun b _ => by cases b <;> rfl
  rw [List.map_congr_left (g := id) this, List.map_id]
theorem vals_back {l : List Val} {k w : Int} {s : Sg} (hm : Made l k w s) (hok : ∀ v ∈ l, I64 v.i) : valsS s = (l.map normV, 0) := by
  have hcs := count_some l
  have hok2 : ∀ v ∈ someV l, I64 v.i := fun v hv => hok v (some_sub hv)
  have hg := getV_body hm.some0 hm.body0 hok2
  have hro := zoneP_rows l
  rw [hm.eq]
  unfold valsS makeNulls
  simp only
  by_cases c : (someV l).length = l.length
  · rw [if_pos c]
    have e : ((zoneP l).rows : Int) - (countP1 [] : Int) = ((someV l).length : Int) := by rw [hro, c]; simp [countP1]
    rw [e, hg, if_pos (.inr rfl), norm_all c, some_all c]
  · rw [if_neg c]
    have e : ((zoneP l).rows : Int) - (countP1 (nullsV l) : Int) = ((someV l).length : Int) := by omega
    rw [e, hg]
    have hne : nullsV l ≠ [] := by
      intro h
      have := nullsV_len l
      rw [h] at this
      have h2 : (someV l).length ≤ l.length := List.length_filter_le _ _
      simp at this
      omega
    rw [if_neg (fun h => h.elim (fun h => h rfl) hne)]
    unfold joinP
    have hnl := nullsV_len l
    simp only
    rw [if_neg (by omega), some_some, if_neg (by simp), joinL_norm]
theorem make_norm (l : List Val) (k w : Int) : makeP (l.map normV) k w = makeP l k w := by
  unfold makeP makeNulls whichP
  rw [some_norm, zone_norm, nulls_norm, List.length_map]
theorem make_again {l : List Val} {k w : Int} {s : Sg} (hm : Made l k w s) : makeP l k (whichP l k w) = (s, 0) := by
  obtain ⟨h1, h2, h3, h4⟩ := hm
  have hw := (body_codec h3).1
  have e : whichP l k (whichP l k w) = whichP l k w := by
    generalize whichP l k w = c at *
    exact if_neg (by omega)
  unfold makeP
  rw [e, if_neg (by simpa using h1), if_neg (by omega), if_neg (by simpa using h3), h4]
theorem zone_back {l : List Val} {k w : Int} {s : Sg} (hm : Made l k w s) (hok : ∀ v ∈ l, I64 v.i) (c : Int) (r : List Nat) :
    zoneR ⟨k, c, ⟨(zoneP l).rows, (zoneP l).nulls, noV, noV⟩, [], []⟩ (packB (makeNulls l) ++ (valB (zoneP l).mn ++ (valB (zoneP l).mx ++ r))) = (⟨k, c, zoneP l, makeNulls l, []⟩, r, 0) := by
  have hcs := count_some l
  have hro := zoneP_rows l
  have hnu := zoneP_nulls l
  have hE := zone_ends l
  have hkk := ((plainP_iff _ _).1 hm.some0).1
  have key : ∀ ns, zoneE ⟨k, c, ⟨(zoneP l).rows, (zoneP l).nulls, noV, noV⟩, ns, []⟩ (valB (zoneP l).mn ++ (valB (zoneP l).mx ++ r)) = (⟨k, c, zoneP l, ns, []⟩, r, 0) := by
    intro ns
    unfold zoneE
    simp only
    by_cases h : (zoneP l).nulls = (zoneP l).rows
    · have hs : someV l = [] := List.eq_nil_of_length_eq_zero (by omega)
      obtain ⟨e1, e2⟩ := hE.none hs
      rw [if_pos h]
      have ez : zoneP l = ⟨(zoneP l).rows, (zoneP l).nulls, noV, noV⟩ := by
        generalize zoneP l = z at *
        obtain ⟨a, b, m1, m2⟩ := z
        simp only at e1 e2
        rw [e1, e2]
      have e0 : valB noV = [] := rfl
      rw [e1, e2, e0, ← ez]
      rfl
    · have hs : someV l ≠ [] := fun hs => by rw [hs] at hcs; simp at hcs; omega
      obtain ⟨m1, m2⟩ := hE.some hs
      rw [if_neg h]
      have g1 := hm.good hok _ (some_sub m1) (by simpa using (List.mem_filter.1 m1).2)
      have g2 := hm.good hok _ (some_sub m2) (by simpa using (List.mem_filter.1 m2).2)
      have o1 := ofV_put (v := (zoneP l).mn) (valB (zoneP l).mx ++ r) g1.2.2 g1.1 (by rw [g1.2.1]; exact hkk)
      have o2 := ofV_put (v := (zoneP l).mx) r g2.2.2 g2.1 (by rw [g2.2.1]; exact hkk)
      rw [g1.2.1] at o1
      rw [g2.2.1] at o2
      rw [o1]
      simp only
      rw [o2]
      simp
  unfold zoneR
  simp only
  by_cases h0 : (zoneP l).nulls = 0
  · have e : makeNulls l = [] := if_pos (by omega)
    rw [if_pos h0, e]
    exact key []
  · have e : makeNulls l = nullsV l := if_neg (by omega)
    have hnl := nullsV_len l
    obtain ⟨n1, n2⟩ := nof_pack (nullsV l)
    have hpl := packB_len (nullsV l)
    have hlen : (packB (nullsV l)).length = ((zoneP l).rows + 7) / 8 := by rw [hpl, hnl, hro]
    rw [if_neg h0, e, if_neg (by rw [List.length_append]; omega), List.take_left' hlen, List.drop_left' hlen]
    rw [hnl, ← hro] at n1 n2
    rw [n1, n2, if_neg (by simp)]
    exact key _
/-- What was made is read as it was. -/
theorem seg_back {l : List Val} {k w : Int} {s : Sg} (hm : Made l k w s) (hok : ∀ v ∈ l, I64 v.i) {kn cn : Nat} (hk : k = (kn : Int)) (hc : whichP l k w = (cn : Int)) (hl : (segI kn cn s).length ≤ 1048576) (more : List Nat) : segOf (segB kn cn s ++ more) = (s, more, 0) := by
  have hkk := ((plainP_iff _ _).1 hm.some0).1
  rw [kindsP_iff] at hkk
  obtain ⟨c1, c2, _⟩ := body_codec hm.body0
  have hcs := count_some l
  have hro := zoneP_rows l
  have hnu := zoneP_nulls l
  have hl4 := hm.len
  have hz := zone_back hm hok (whichP l k w) (bodyP (someV l) k (whichP l k w)).1
  have hv := vals_back hm hok
  have hmk := make_again hm
  have hx : segI kn cn s = putP kn ++ (putP cn ++ (putP (zoneP l).rows ++ (putP (zoneP l).nulls ++ (packB (makeNulls l) ++ (valB (zoneP l).mn ++ (valB (zoneP l).mx ++ (bodyP (someV l) k (whichP l k w)).1)))))) := by
    rw [hm.eq]
    simp [segI, numsB]
  have hnf := numsF_put kn cn (zoneP l).rows (zoneP l).nulls (by omega) (by omega) (by omega) (by omega) (packB (makeNulls l) ++ (valB (zoneP l).mn ++ (valB (zoneP l).mx ++ (bodyP (someV l) k (whichP l k w)).1)))
  rw [← hx] at hnf
  have hh : headP (segI kn cn s) = (⟨k, whichP l k w, ⟨(zoneP l).rows, (zoneP l).nulls, noV, noV⟩, [], []⟩, packB (makeNulls l) ++ (valB (zoneP l).mn ++ (valB (zoneP l).mx ++ (bodyP (someV l) k (whichP l k w)).1)), 0) := by
    unfold headP
    rw [hnf]
    simp only
    have hho : headOk [kn, cn, (zoneP l).rows, (zoneP l).nulls] = true := by
      simp only [headOk, List.getD_cons_zero, List.getD_cons_succ, Bool.and_eq_true, decide_eq_true_eq]
      omega
    rw [if_neg (by simp), hho, if_neg (by simp)]
    simp only [headS, List.getD_cons_zero, List.getD_cons_succ]
    rw [← hk, ← hc]
    rfl
  unfold segOf segB
  rw [openP_block hl]
  simp only
  rw [if_neg (by simp), hh]
  simp only
  rw [if_neg (by simp), hz]
  simp only
  rw [if_neg (by simp)]
  have hs : withBody ⟨k, whichP l k w, zoneP l, makeNulls l, []⟩ (bodyP (someV l) k (whichP l k w)).1 = s := by rw [hm.eq]; rfl
  rw [hs]
  unfold segOf.segOf2
  have hsk : s.kind = k := by rw [hm.eq]
  have hsw : s.codec = whichP l k w := by rw [hm.eq]
  rw [hv]
  simp only
  rw [if_neg (by simp), hsk, hsw, make_norm, hmk]
  simp only
  rw [if_neg]
  rintro (h | h)
  · exact h rfl
  · apply h
    unfold segB
    rw [show k.toNat = kn by omega, show (whichP l k w).toNat = cn by omega]
theorem Made.ilen {l : List Val} {k w : Int} {s : Sg} (hm : Made l k w s) (hok : ∀ v ∈ l, I64 v.i) {kn cn : Nat} (hk : k = (kn : Int)) (hc : whichP l k w = (cn : Int)) : (segI kn cn s).length ≤ 2700 + s.body.length := by
  have hkk := ((plainP_iff _ _).1 hm.some0).1
  rw [kindsP_iff] at hkk
  obtain ⟨c1, c2, _⟩ := body_codec hm.body0
  have hz : ZnOk (zoneP l) := zoneP_ok fun v hv hk => ⟨hok v hv, (hm.good hok v hv hk).1⟩
  have hnu := zoneP_nulls l
  have hro := zoneP_rows l
  have hcl := countP1_le (nullsV l)
  have hnl := nullsV_len l
  have hml : (makeNulls l).length ≤ 4096 := by have := hm.len; unfold makeNulls; split; simp; omega
  have hl4 := hm.len
  have hlen1 := putP_len 10 kn (by omega)
  have hlen2 := putP_len 10 cn (by omega)
  have hlen3 := putP_len 10 (zoneP l).rows (by omega)
  have hlen4 := putP_len 10 (zoneP l).nulls (by omega)
  have hv1 := valB_len hz.1.1 hz.1.2
  have hv2 := valB_len hz.2.1 hz.2.2
  rw [hm.eq]
  unfold segI
  simp only [List.length_append, numsB, List.flatMap_cons, List.flatMap_nil, List.length_nil, packB_len]
  omega
end Go.Proofs.YtmbagpfmfiegkaaGreat
namespace Go.Proofs.YtmbagpfmfiegkaaGreat
open Go.Proofs.YtmbagpfmfiegkaaGreatAw Go.RowKit
set_option linter.unusedVariables false
set_option linter.unusedSimpArgs false
def fsum : List Val → Nat → Nat
  | [], n => n
  | v :: r, n => if n ≤ 100000 then fsum r (n + v.s.size) else n
theorem fsum_cons (v : Val) (r : List Val) (n : Nat) : fsum (v :: r) n = if n ≤ 100000 then fsum r (n + v.s.size) else n := rfl
def fewP (l : List Val) : Bool := decide (l.length ≤ 1000) && decide (fsum l 0 ≤ 100000)
theorem fewP_len {l : List Val} (h : fewP l = true) : l.length ≤ 1000 := by
  unfold fewP at h
  simp at h
  exact h.1
set_option maxRecDepth 10000 in
set_option maxHeartbeats 1000000 in
theorem few11_does (l : List Val) (nn : Bool) (H : AHeap) (hl : l.length ≤ 1000000000000000) (hs : ∀ v ∈ l, v.s.size ≤ 140737488351232) : Does Tryz.prog 13 [.d (.list nn (l.map Val.enc))] H (.ok (bA (fewP l))) H := by
  refine Does.of_awp (hint := (fun _ => false)) Tryz.func13 (by kernel_rfl) rfl [2] (by kernel_rfl) (by decide) (by simp [Tryz.ntmps13]) ?_
  rw [Tryz.ntmps13]
  simp (implicitDefEqProofs := false) only [go_sem]
  refine awp_loop _ _ _ _ (fun (k : Nat) s H' => H' = H ∧ k ≤ l.length ∧ (∃ n : Nat, n ≤ 150000000000000 ∧ fsum l 0 = fsum (l.drop k) n ∧ s 3 = iA n) ∧ s 0 = .d (.list nn (l.map Val.enc)) ∧ s 4 = iA k) (fun k => l.length - k) 0 (Weak.refl _ _) ?_ ?_
  · refine ⟨rfl, Nat.zero_le _, ⟨0, by omega, rfl, ?_⟩, ?_⟩
    · simp (implicitDefEqProofs := false) only [↓reduceIte, go_sem, Nat.reduceLT, Nat.reduceEqDiff, eq_self]
    · simp (implicitDefEqProofs := false) only [↓reduceIte, go_sem, Nat.reduceLT, reduceCtorEq, eq_self]
  · rintro k s H' ⟨rfl, hk, ⟨n, hn, hf, t3⟩, t0, t4⟩
    have hw1 : IntKind.i64.wrap ((k : Int) + 1) = (k : Int) + 1 := wrap64_in _ (by omega) (by omega)
    have fin : (k = l.length ∨ 100000 < n) → fsum l 0 = n := by
      rintro (h | h)
      · rw [hf, List.drop_of_length_le (by omega)]; rfl
      · rw [hf]
        cases l.drop k with
        | nil => rfl
        | cons v r => rw [fsum_cons, if_neg (by omega)]
    by_cases hkl : k < l.length
    · by_cases hn2 : n ≤ 100000
      · have hx := List.getElem?_eq_getElem hkl
        have e1 := List.drop_eq_getElem_cons hkl
        have hxs := hs _ (List.getElem_mem hkl)
        generalize l[k] = x at hx e1 hxs
        have hf2 : fsum l 0 = fsum (l.drop (k + 1)) (n + x.s.size) := by rw [hf, e1, fsum_cons, if_pos hn2]
        obtain ⟨n2, hn2'⟩ : ∃ n2, n2 = n + x.s.size := ⟨_, rfl⟩
        have hw2 : IntKind.i64.wrap ((n : Int) + (x.s.size : Int)) = (n2 : Int) := by rw [wrap64_in _ (by omega) (by omega)]; omega
        simp (implicitDefEqProofs := false) only [↓reduceIte, go_sem, Nat.reduceLT, Nat.reduceEqDiff, reduceCtorEq, eq_self, t0, t3, t4, eq_true hkl, show ((n : Int) ≤ 100000) = True from eq_true (by omega)]
        simp (implicitDefEqProofs := false) only [↓reduceIte, go_sem, Nat.reduceAdd, Nat.reduceLT, Nat.reduceLeDiff, Nat.reduceEqDiff, eq_self, t4, hx, Val.enc, hw2, hw1]
        refine ⟨_, _, k + 1, Weak.refl _ _, ⟨rfl, hkl, ⟨n2, by omega, by rw [hn2']; exact hf2, ?_⟩, ?_⟩, by omega⟩
        · simp (implicitDefEqProofs := false) only [↓reduceIte, go_sem, Nat.reduceLT, Nat.reduceEqDiff, eq_self]
        · simp (implicitDefEqProofs := false) only [↓reduceIte, go_sem, Nat.reduceLT, reduceCtorEq, eq_self, t0]
      · simp (implicitDefEqProofs := false) only [↓reduceIte, go_sem, Nat.reduceLT, Nat.reduceEqDiff, reduceCtorEq, eq_self, t0, t3, t4, eq_true hkl, show ((n : Int) ≤ 100000) = False from eq_false (by omega)]
        have hfe : fewP l = false := by unfold fewP; rw [fin (.inr (by omega))]; simp; omega
        by_cases h1 : l.length ≤ 1000
        · simp (implicitDefEqProofs := false) only [↓reduceIte, go_sem, Nat.reduceLT, Nat.reduceEqDiff, eq_self, t3, show ((l.length : Int) ≤ 1000) = True from eq_true (by omega), show ((n : Int) ≤ 100000) = False from eq_false (by omega)]
          refine AEnd.ret0 ?_
          simp (implicitDefEqProofs := false) only [↓reduceIte, go_sem, Nat.reduceLT, eq_self, hfe]
        · simp (implicitDefEqProofs := false) only [↓reduceIte, go_sem, Nat.reduceLT, Nat.reduceEqDiff, reduceCtorEq, eq_self, show ((l.length : Int) ≤ 1000) = False from eq_false (by omega)]
          refine AEnd.ret0 ?_
          simp (implicitDefEqProofs := false) only [↓reduceIte, go_sem, Nat.reduceLT, eq_self, hfe]
    · simp (implicitDefEqProofs := false) only [↓reduceIte, go_sem, Nat.reduceLT, Nat.reduceEqDiff, reduceCtorEq, eq_self, t0, t4, eq_false hkl]
      have hfe : fewP l = (decide (l.length ≤ 1000) && decide (n ≤ 100000)) := by unfold fewP; rw [fin (.inl (by omega))]
      by_cases h1 : l.length ≤ 1000
      · by_cases h2 : n ≤ 100000
        · simp (implicitDefEqProofs := false) only [↓reduceIte, go_sem, Nat.reduceLT, Nat.reduceEqDiff, eq_self, t3, show ((l.length : Int) ≤ 1000) = True from eq_true (by omega), show ((n : Int) ≤ 100000) = True from eq_true (by omega)]
          refine AEnd.ret0 ?_
          simp (implicitDefEqProofs := false) only [↓reduceIte, go_sem, Nat.reduceLT, eq_self, hfe, h1, h2, Bool.and_self]
        · simp (implicitDefEqProofs := false) only [↓reduceIte, go_sem, Nat.reduceLT, Nat.reduceEqDiff, eq_self, t3, show ((l.length : Int) ≤ 1000) = True from eq_true (by omega), show ((n : Int) ≤ 100000) = False from eq_false (by omega)]
          refine AEnd.ret0 ?_
          simp (implicitDefEqProofs := false) only [↓reduceIte, go_sem, Nat.reduceLT, eq_self, hfe, h1, h2, Bool.and_false]
      · simp (implicitDefEqProofs := false) only [↓reduceIte, go_sem, Nat.reduceLT, Nat.reduceEqDiff, reduceCtorEq, eq_self, show ((l.length : Int) ≤ 1000) = False from eq_false (by omega)]
        refine AEnd.ret0 ?_
        simp (implicitDefEqProofs := false) only [↓reduceIte, go_sem, Nat.reduceLT, eq_self, hfe, h1, Bool.false_and]
def fives : List Val := [num10 5, num10 5, num10 5, num10 5]
theorem five_words : wordsP cmpV fives = [num10 5] := by
  have vv := cmpV_tri.self (num10 5)
  simp [fives, wordsP, St.sortS, St.ins, ltT, vv, St.compactP, St.cgo]
theorem zig5 : zigP (num10 5).i = 10 := by decide
theorem five_val : valB (num10 5) = [10] := by
  unfold valB
  rw [if_pos (show (num10 5).kind = 1 from rfl), zig5, putP_small (by decide)]
theorem five_num : ∀ v ∈ fives, v = num10 5 := by simp [fives]
theorem five_plain : plainP fives 1 = 0 := plainP_num (fun v hv => ⟨5, five_num v hv⟩) (by decide)
theorem five_runs : runsP fives = [(4, num10 5)] := by decide +kernel
theorem five_rle : rleB (runsP fives) = [4, 10] := by
  rw [five_runs]
  simp only [rleB, runB, List.flatMap_cons, List.flatMap_nil, List.append_nil, five_val]
  rw [putP_small (by decide)]
  rfl
theorem five_wb : wbytes fives = [10, 10, 10, 10] := by
  simp only [wbytes, fives, List.flatMap_cons, List.flatMap_nil, List.append_nil, five_val]
  rfl
theorem five_dict : dictB fives = [1, 10] := by
  unfold dictB
  rw [five_words]
  have h3 : packP (fives.map (codeW fives)) (widP [num10 5].length) = [] := by
    have : widP [num10 5].length = 0 := by decide
    rw [this]
    unfold packP
    apply List.eq_nil_of_length_eq_zero
    rw [packB_len, bitsL_len]
    simp
  rw [h3]
  simp only [wbytes, List.flatMap_cons, List.flatMap_nil, List.append_nil, five_val, List.length_singleton]
  rw [putP_small (by decide)]
  rfl
theorem five_delta : deltaB fives = [10, 0] := by
  unfold deltaB
  rw [if_pos ⟨five_plain, by decide⟩]
  unfold bytesD
  have h1 : stepsP fives = [0, 0, 0] := by decide +kernel
  rw [h1]
  have h2 : widthP [0, 0, 0] = 0 := by decide
  have h3 : packP [0, 0, 0] 0 = [] := by decide +kernel
  simp only [fives]
  rw [h2, h3, zig5, putP_small (by decide), putP_small (by decide)]
  rfl
theorem five_some : someV fives = fives := by decide +kernel
theorem five_best : bestP fives 1 = 2 := by
  have b1 : bodyP fives 1 1 = ([10, 10, 10, 10], 0) := by
    unfold bodyP; rw [if_pos rfl, five_plain, show plainL fives 1 = wbytes fives from if_pos five_plain, five_wb]
  have b2 : bodyP fives 1 2 = ([4, 10], 0) := by
    unfold bodyP; rw [if_neg (by decide), if_pos rfl, five_plain, show rleL fives 1 = rleB (runsP fives) from if_pos five_plain, five_rle]
  have b3 : bodyP fives 1 3 = ([1, 10], 0) := by
    unfold bodyP; rw [if_neg (by decide), if_neg (by decide), if_pos rfl, five_plain, show dictL fives 1 = dictB fives from if_pos five_plain, five_dict]
  have b4 : bodyP fives 1 4 = ([10, 0], 0) := by
    unfold bodyP; rw [if_neg (by decide), if_neg (by decide), if_neg (by decide), if_pos ⟨rfl, rfl⟩, five_plain, five_delta]
  have s0 : bestF fives 1 0 = (-1, 0) := rfl
  have st : ∀ n, bestF fives 1 (n + 1) = bestS fives 1 (bestF fives 1 n) ((n : Int) + 1) := fun n => rfl
  have s1 : bestF fives 1 1 = (4, 1) := by rw [st 0, s0]; unfold bestS; simp [b1]
  have s2 : bestF fives 1 2 = (2, 2) := by rw [st 1, s1]; unfold bestS; simp [b2]
  have s3 : bestF fives 1 3 = (2, 2) := by rw [st 2, s2]; unfold bestS; simp [b3]
  have s4 : bestF fives 1 4 = (2, 2) := by rw [st 3, s3]; unfold bestS; simp [b4]
  unfold bestP
  rw [s4]
theorem five_make : makeP fives 1 0 = (⟨1, 2, zoneP fives, [], [4, 10]⟩, 0) := by
  have hw : whichP fives 1 0 = 2 := by unfold whichP; rw [if_pos rfl, five_some, five_best]
  have b2 : bodyP fives 1 2 = ([4, 10], 0) := by
    unfold bodyP; rw [if_neg (by decide), if_pos rfl, five_plain, show rleL fives 1 = rleB (runsP fives) from if_pos five_plain, five_rle]
  unfold makeP makeNulls
  rw [five_some, hw, five_plain, b2, if_neg (by decide), if_neg (by decide), if_neg (by decide), if_pos rfl]
theorem five_made : Made fives 1 0 ⟨1, 2, zoneP fives, [], [4, 10]⟩ := by
  have h := make_made (l := fives) (k := 1) (w := 0) (by rw [five_make])
  rwa [five_make] at h
theorem five_ok : ∀ v ∈ fives, I64 v.i := fun v hv => by rw [five_num v hv]; exact ⟨by decide, by decide⟩
set_option maxRecDepth 10000 in
set_option maxHeartbeats 1000000 in
theorem shown11_does (H : AHeap) : Does Tryz.prog 7 [] H (.ok (bA true)) H := by
  have hm := fun H => make_does fives 1 0 five_ok (by decide) H
  rw [five_make] at hm
  obtain ⟨kn, cn, h1, _, _, h4, _, _, h7, h8, _, hB⟩ := five_made.bytes five_ok
  have hil := five_made.ilen five_ok h1 h4
  have hbk := seg_back five_made five_ok h1 h4 (by simp only [List.length_cons, List.length_nil] at hil; omega) [9]
  have hbl : (segB kn cn ⟨1, 2, zoneP fives, [], [4, 10]⟩).length ≤ 1000000 := by
    have := putP_len 10 (segI kn cn ⟨1, 2, zoneP fives, [], [4, 10]⟩).length (by omega)
    simp only [List.length_cons, List.length_nil] at hil
    unfold segB blockP
    simp only [List.length_append, fourW, List.length_cons, List.length_nil]
    omega
  have hby := segB_byte h7 h8
  have hof := fun H => segOf_does (segB kn cn ⟨1, 2, zoneP fives, [], [4, 10]⟩ ++ [9]) (hby.app (by intro c hc; simp at hc; omega)) (by rw [List.length_append]; simp; omega) H
  rw [hbk] at hof
  have hro : (zoneP fives).rows = 4 := zoneP_rows fives
  have hin : fives.map Val.enc = [(num10 5).enc, (num10 5).enc, (num10 5).enc, (num10 5).enc] := rfl
  rw [hin] at hm
  generalize (putP (segI kn cn ⟨1, 2, zoneP fives, [], [4, 10]⟩).length).length + 2 = ver at *
  generalize segB kn cn ⟨1, 2, zoneP fives, [], [4, 10]⟩ = B at *
  generalize zoneP fives = z at *
  obtain ⟨zr, zn, zmn, zmx⟩ := z
  simp only at hro
  subst hro
  simp only [Sg.cs] at hm hB hof
  have e1 : (pushAll [9]).toList = [9] := bstr_list [9]
  have e2 : (⟨#[9]⟩ : ByteArray).toList = [9] := by rw [ByteArray.toList_eq]
  have e : ((pushAll [9]).toList == (⟨#[9]⟩ : ByteArray).toList) = true := by rw [e1, e2]; decide
  have hB2 : ∀ o1 o2 : AObj, _ := fun o1 o2 => hB (H ++ [o1, o2])
  simp only [List.length_append, List.append_assoc, List.cons_append, List.nil_append, List.length_cons, List.length_nil, Nat.zero_add, Nat.add_assoc, Nat.reduceAdd] at hB2
  refine Does.of_awp (hint := (fun _ => false)) Tryz.func7 (by kernel_rfl) rfl [0] (by kernel_rfl) (by decide) (by simp [Tryz.ntmps7]) ?_
  rw [Tryz.ntmps7]
  simp (implicitDefEqProofs := false) only [↓reduceIte, go_sem, oread, owrite, Nat.reduceAdd, Nat.reduceMul, Nat.reduceLT, Nat.reduceLeDiff, Nat.reduceEqDiff, eq_self]
  refine KCall.sub (.cons (.nn _) (.cons (.refl _) (.cons (.refl _) .nil))) (hm _) ?_
  simp (implicitDefEqProofs := false) only [↓reduceIte, go_sem, oread, owrite, Nat.reduceAdd, Nat.reduceLT, Nat.reduceEqDiff, eq_self]
  refine KCall.ok (hB2 _ _) ?_
  simp (implicitDefEqProofs := false) only [↓reduceIte, go_sem, Nat.reduceAdd, Nat.reduceLT, Nat.reduceLeDiff, Nat.reduceEqDiff, eq_self, bys_len]
  refine ⟨by omega, by omega, ?_⟩
  have e9 : bys B ++ [[D.v (.int .u8 9)]] = bys (B ++ [9]) := by rw [← bys_app]; rfl
  rw [e9]
  refine KCall.frz [] (e := 5) (k := 1) (ver := ver + 1) (es := bys (B ++ [9])) (by simp) (by rw [List.drop_zero, List.take_of_length_le (by rw [bys_len]; simp)]; exact hof _) ?_
  have b9 : bys [4, 10] = [[D.v (.int .u8 4)], [D.v (.int .u8 10)]] := rfl
  simp (implicitDefEqProofs := false) only [↓reduceIte, go_sem, oread, owrite, Nat.reduceAdd, Nat.reduceLT, Nat.reduceLeDiff, Nat.reduceEqDiff, eq_self, asBytes_bys, e, List.length_cons, List.length_nil, b9]
  refine AEnd.ret ?_
  simp (implicitDefEqProofs := false) only [↓reduceIte, go_sem, Nat.reduceLT, eq_self]
end Go.Proofs.YtmbagpfmfiegkaaGreat
namespace Go.Proofs.YtmbagpfmfiegkaaGreat
open Go.Proofs.YtmbagpfmfiegkaaGreatAw Go.RowKit
set_option linter.unusedVariables false
set_option linter.unusedSimpArgs false
theorem best_inv (l : List Val) (k : Int) : ∀ n : Nat, (∀ c : Int, 1 ≤ c → c ≤ n → (bodyP l k c).2 = 0 → 0 ≤ (bestF l k n).1 ∧ (bestF l k n).1 ≤ ((bodyP l k c).1.length : Int)) ∧
    (0 ≤ (bestF l k n).1 → (bestF l k n).1 = ((bodyP l k (bestF l k n).2).1.length : Int))
  | 0 => ⟨fun c h1 h2 => by omega, fun h => by exact absurd (show (0 : Int) ≤ -1 from h) (by omega)⟩
  | n + 1 => by
    obtain ⟨h1, h2⟩ := best_inv l k n
    have hst : bestF l k (n + 1) = bestS l k (bestF l k n) ((n : Int) + 1) := rfl
    rw [hst]
    generalize bestF l k n = x at *
    unfold bestS
    by_cases c : (bodyP l k ((n : Int) + 1)).2 = 0 ∧ (x.1 < 0 ∨ ((bodyP l k ((n : Int) + 1)).1.length : Int) < x.1)
    · rw [if_pos c]
      refine ⟨fun d g1 g2 g3 => ⟨by simp only; omega, ?_⟩, fun _ => rfl⟩
      simp only
      by_cases hd : d = (n : Int) + 1
      · rw [hd]; omega
      · have := h1 d g1 (by omega) g3
        omega
    · rw [if_neg c]
      refine ⟨fun d g1 g2 g3 => ?_, h2⟩
      by_cases hd : d = (n : Int) + 1
      · subst hd
        have := fun h => c ⟨g3, h⟩
        omega
      · exact h1 d g1 (by omega) g3
/-- Whatever codec can lay values down, the chosen one needs no more. -/
theorem best_least {l : List Val} {k : Int} {s : Sg} (hm : Made l k 0 s) {c : Int} (h1 : 1 ≤ c) (h4 : c ≤ 4) (hc : (bodyP (someV l) k c).2 = 0) : s.body.length ≤ (bodyP (someV l) k c).1.length := by
  obtain ⟨g1, g2⟩ := best_inv (someV l) k 4
  obtain ⟨g3, g4⟩ := g1 c h1 h4 hc
  have hw : whichP l k 0 = (bestF (someV l) k 4).2 := if_pos rfl
  rw [hm.eq, hw]
  have := g2 g3
  simp only
  omega
theorem make_least {l : List Val} {k : Int} {s : Sg} (hm : Made l k 0 s) {c : Int} (h1 : 1 ≤ c) (h4 : c ≤ 4) (hc : (makeP l k c).2 = 0) : s.body.length ≤ (makeP l k c).1.body.length := by
  have h := make_made hc
  have hw : whichP l k c = c := if_neg (by omega)
  have := best_least hm h1 h4 (by rw [← hw]; exact h.body0)
  rw [h.eq, hw]
  exact this
end Go.Proofs.YtmbagpfmfiegkaaGreat
namespace Go.Proofs.YtmbagpfmfiegkaaGreat
open Go.Proofs.YtmbagpfmfiegkaaGreatAw Go.RowKit
set_option linter.unusedVariables false
set_option linter.unusedSimpArgs false
def among1 (l : List Val) (v : Val) : Bool := (someV l).any fun x => decide (x = v)
theorem among1_snoc (l : List Val) (v w : Val) : among1 (l ++ [v]) w = if v.kind = 0 then among1 l w else among1 l w || decide (v = w) := by
  unfold among1
  rw [someV_snoc]
  split <;> simp
set_option maxRecDepth 10000 in
set_option maxHeartbeats 4000000 in
theorem segZones_walk (l : List Val) (k : Int) (hl : l.length ≤ 140737488351232) (hls : ∀ v ∈ l, v.Ok) (H : AHeap) :
    Does Tryz.prog 5 [.d (.list false (l.map Val.enc)), iA k] H (.ok (bA true)) H := by
  have hfew := fun H => few11_does l false H (by omega) (fun v hv => (hls v hv).s)
  refine Does.of_awp (hint := (fun _ => false)) Tryz.func5 (by kernel_rfl) rfl [4] (by kernel_rfl) (by decide) (by simp [Tryz.ntmps5]) ?_
  rw [Tryz.ntmps5]
  simp (implicitDefEqProofs := false) only [go_sem]
  refine KCall.ok (shown11_does _) ?_
  simp (implicitDefEqProofs := false) only [↓reduceIte, go_sem, Nat.reduceLT, reduceCtorEq, eq_self]
  refine KCall.ok (hfew _) ?_
  by_cases hf : fewP l = false
  · simp (implicitDefEqProofs := false) only [↓reduceIte, go_sem, Nat.reduceLT, Nat.reduceEqDiff, eq_self, hf]
    refine AEnd.ret0 ?_
    simp (implicitDefEqProofs := false) only [↓reduceIte, go_sem, Nat.reduceLT, eq_self]
  have hf : fewP l = true := by simpa using hf
  have hll := fewP_len hf
  have hok : ∀ v ∈ l, I64 v.i := fun v hv => (hls v hv).i
  have hmk := fun w H => make_does l k w hok (by omega) H
  have hmk0 := fun H => hmk 0 H
  have hm := make_made (l := l) (k := k) (w := 0)
  have hE := zone_ends l
  have hro := zoneP_rows l
  have hnu := zoneP_nulls l
  have hcs := count_some l
  have hle := fun s (hm : Made l k 0 s) c h1 h4 hc => make_least hm (c := c) h1 h4 hc
  generalize makeP l k 0 = q at *
  obtain ⟨s, e⟩ := q
  simp only at hmk0 hm
  have hzn : e = 0 → s.zone = zoneP l := fun h => by rw [(hm h).eq]
  have hleb : e = 0 → ∀ c : Int, 1 ≤ c → c ≤ 4 → (makeP l k c).2 = 0 → s.body.length ≤ (makeP l k c).1.body.length := fun h => hle s (hm h)
  clear hle hm
  obtain ⟨sk, sw, ⟨zr, zn, mn, mx⟩, ns, bd⟩ := s
  simp only [Sg.cs] at hmk0
  simp only at hzn hleb
  simp (implicitDefEqProofs := false) only [↓reduceIte, go_sem, Nat.reduceLT, Nat.reduceEqDiff, reduceCtorEq, eq_self, hf]
  refine KCall.ok (hmk0 _) ?_
  by_cases he : e ≠ 0
  · simp (implicitDefEqProofs := false) only [↓reduceIte, go_sem, owrite, Nat.reduceAdd, Nat.reduceLT, Nat.reduceEqDiff, eq_self, he]
    refine AEnd.ret ?_
    simp (implicitDefEqProofs := false) only [↓reduceIte, go_sem, Nat.reduceLT, eq_self]
  obtain rfl : e = 0 := by simpa using he
  have hzn := hzn rfl
  have hleb := hleb rfl
  rw [← hzn] at hE hro hnu
  clear hzn hmk0
  simp only at hro hnu
  simp (implicitDefEqProofs := false) only [↓reduceIte, go_sem, owrite, Nat.reduceAdd, Nat.reduceLT, Nat.reduceEqDiff, eq_self]
  refine awp_for3 (fun j s H' => H' = H ++ [.box 30 12 0 1 [iA sk, iA sw, iA zr, iA zn, iA mn.kind, iA mn.i, sA mn.s, iA mx.kind, iA mx.i, sA mx.s, .d (.list false (boolR ns)), .d (.list false (bys bd))]] ∧ s 0 = .d (.list false (l.map Val.enc)) ∧ s 1 = iA k ∧ s 5 = bA true ∧ s 6 = .ptr H.length 0 0 0 ∧ s 8 = bA (among1 (l.take j) mn) ∧ s 9 = bA (among1 (l.take j) mx) ∧ s 10 = iA (countP1 (nullsV (l.take j))) ∧ s 11 = iA j) l.length (by omega) (Weak.refl _ _) ?_ ?_ ?_
  · refine ⟨rfl, ?_⟩
    simp (implicitDefEqProofs := false) only [↓reduceIte, go_sem, Nat.reduceLT, Nat.reduceEqDiff, reduceCtorEq, eq_self]
    exact ⟨rfl, rfl, rfl⟩
  · rintro j s H' hj hw ⟨rfl, t0, t1, t5, t6, t8, t9, t10, t11⟩
    have hx := List.getElem?_eq_getElem hj
    have hv := List.getElem_mem hj
    have e1 := List.take_succ_eq_append_getElem hj
    have hcl := countP1_le (nullsV (l.take j))
    rw [nullsV_len, List.length_take] at hcl
    have hxs := (hls _ hv).s
    have hsome := fun h => hE.all _ (some_in hv h)
    rw [e1, among1_snoc, among1_snoc, nullsV_snoc, countP1_snoc]
    generalize among1 (l.take j) mn = least at *
    generalize among1 (l.take j) mx = most at *
    generalize countP1 (nullsV (l.take j)) = n at *
    generalize l[j] = v at *
    have hwn : IntKind.i64.wrap ((n : Int) + 1) = ((n + 1 : Nat) : Int) := by rw [wrap64_in _ (by omega) (by omega)]; omega
    by_cases hk : v.kind = 0
    · rw [if_pos hk, if_pos hk]
      simp (implicitDefEqProofs := false) only [↓reduceIte, go_sem, Nat.reduceAdd, Nat.reduceLT, Nat.reduceLeDiff, Nat.reduceEqDiff, reduceCtorEq, eq_self, t0, t10, t11, hj, hx, Val.enc, List.length_map, eq_true hk, hwn]
      refine Rnd.same ⟨rfl, ?_⟩
      simp (implicitDefEqProofs := false) only [↓reduceIte, go_sem, Nat.reduceLT, Nat.reduceEqDiff, reduceCtorEq, eq_self, t0, t1, t5, t6, t8, t9, hw]
    · rw [if_neg hk, if_neg hk]
      obtain ⟨a1, a2⟩ := hsome hk
      simp only at a1 a2
      simp (implicitDefEqProofs := false) only [↓reduceIte, go_sem, Nat.reduceAdd, Nat.reduceLT, Nat.reduceLeDiff, Nat.reduceEqDiff, reduceCtorEq, eq_self, t0, t11, hj, hx, Val.enc, List.length_map, eq_false hk]
      refine awp_draw K.mixed (by kernel_rfl) ?_
      simp (implicitDefEqProofs := false) only [↓reduceIte, go_sem, oread, Nat.reduceAdd, Nat.reduceLT, Nat.reduceLeDiff, Nat.reduceEqDiff, reduceCtorEq, eq_self, t0, t6, t11, hx, Val.enc]
      refine KCall.ok (vcmp05_does v mn (by omega) _) ?_
      simp (implicitDefEqProofs := false) only [↓reduceIte, go_sem, oread, Nat.reduceAdd, Nat.reduceLT, Nat.reduceLeDiff, Nat.reduceEqDiff, reduceCtorEq, eq_self, t0, t6, t11, hx, Val.enc, show (cmpV v mn < 0) = False from eq_false (by omega)]
      refine KCall.ok (vcmp05_does v mx (by omega) _) ?_
      simp (implicitDefEqProofs := false) only [↓reduceIte, go_sem, Nat.reduceLT, Nat.reduceEqDiff, reduceCtorEq, eq_self, show (cmpV v mx > 0) = False from eq_false (by omega)]
      refine awp_draw K.mixed (by kernel_rfl) ?_
      cases least <;> cases most <;> simp (implicitDefEqProofs := false) only [↓reduceIte, go_sem, oread, Nat.reduceAdd, Nat.reduceLT, Nat.reduceLeDiff, Nat.reduceEqDiff, reduceCtorEq, eq_self, t0, t6, t8, t11, hx, Val.enc, sameV_eq]
      all_goals refine awp_draw K.mixed (by kernel_rfl) ?_
      all_goals simp (implicitDefEqProofs := false) only [↓reduceIte, go_sem, oread, Nat.reduceAdd, Nat.reduceLT, Nat.reduceLeDiff, Nat.reduceEqDiff, reduceCtorEq, eq_self, t0, t6, t9, t11, hx, Val.enc, sameV_eq]
      all_goals refine Rnd.same ⟨rfl, ?_⟩
      all_goals simp (implicitDefEqProofs := false) only [↓reduceIte, go_sem, Nat.reduceLT, Nat.reduceEqDiff, reduceCtorEq, eq_self, t0, t1, t5, t6, t10, hw, hk]
  · rintro s H' ⟨rfl, t0, t1, t5, t6, t8, t9, t10, t11⟩
    rw [List.take_length] at *
    simp (implicitDefEqProofs := false) only [↓reduceIte, go_sem, Nat.reduceLT, Nat.reduceEqDiff, reduceCtorEq, eq_self, t0, t11, List.length_map]
    have hzb : ∃ Z : AObj, Z = .box 30 12 0 1 [iA sk, iA sw, iA zr, iA zn, iA mn.kind, iA mn.i, sA mn.s, iA mx.kind, iA mx.i, sA mx.s, .d (.list false (boolR ns)), .d (.list false (bys bd))] := ⟨_, rfl⟩
    refine awp_for3 (fun j s H' => H' = H ++ [.box 30 12 0 1 [iA sk, iA sw, iA zr, iA zn, iA mn.kind, iA mn.i, sA mn.s, iA mx.kind, iA mx.i, sA mx.s, .d (.list false (boolR ns)), .d (.list false (bys bd))]] ∧ s 0 = .d (.list false (l.map Val.enc)) ∧ s 1 = iA k ∧ s 5 = bA true ∧ s 6 = .ptr H.length 0 0 0 ∧ s 8 = bA (among1 l mn) ∧ s 9 = bA (among1 l mx) ∧ s 10 = iA (countP1 (nullsV l)) ∧ s 12 = iA ((j : Int) + 1)) 4 (by omega) (Weak.refl _ _) ?_ ?_ ?_
    · refine ⟨rfl, ?_⟩
      simp (implicitDefEqProofs := false) only [↓reduceIte, go_sem, Nat.reduceLT, Nat.reduceEqDiff, Int.reduceAdd, reduceCtorEq, eq_self, t0, t1, t5, t6, t8, t9, t10]
    · rintro j s H' hj hw ⟨rfl, t0, t1, t5, t6, t8, t9, t10, t12⟩
      have hmj := fun H => hmk ((j : Int) + 1) H
      have hlj := hleb ((j : Int) + 1) (by omega) (by omega)
      generalize makeP l k ((j : Int) + 1) = m at *
      obtain ⟨⟨mk, mw, ⟨mr, mz, m1, m2⟩, mns, mb⟩, me⟩ := m
      simp only [Sg.cs] at hmj
      simp only at hlj
      obtain ⟨jw, hjw⟩ : ∃ jw : Int, jw = (j : Int) + 1 := ⟨_, rfl⟩
      have hw4 : IntKind.i64.wrap (jw + 1) = jw + 1 := wrap64_in _ (by omega) (by omega)
      rw [← hjw] at hmj t12
      have hj2 : (j : Int) + 1 + 1 = jw + 1 := by omega
      simp (implicitDefEqProofs := false) only [↓reduceIte, go_sem, Nat.reduceLT, Nat.reduceEqDiff, reduceCtorEq, eq_self, t0, t1, t12, show (jw ≤ 4) = True from eq_true (by omega)]
      refine KCall.ok (hmj _) ?_
      by_cases hme : me = 0
      · have hlj := hlj hme
        simp (implicitDefEqProofs := false) only [↓reduceIte, go_sem, oread, owrite, Nat.reduceAdd, Nat.reduceLT, Nat.reduceEqDiff, eq_self, t6, hme, bys_len, show ((mb.length : Int) < (bd.length : Int)) = False from eq_false (by omega)]
        simp (implicitDefEqProofs := false) only [↓reduceIte, go_sem, Nat.reduceLT, eq_self, t12, hw4]
        refine Rnd.cut [.box 30 12 0 1 [iA sk, iA sw, iA zr, iA zn, iA mn.kind, iA mn.i, sA mn.s, iA mx.kind, iA mx.i, sA mx.s, .d (.list false (boolR ns)), .d (.list false (bys bd))]] _ 1 rfl rfl (by simp (implicitDefEqProofs := false) only [go_sem, eq_self]) ?_
        refine ⟨rfl, ?_⟩
        simp (implicitDefEqProofs := false) only [↓reduceIte, go_sem, Nat.reduceLT, Nat.reduceEqDiff, reduceCtorEq, eq_self, t0, t1, t5, t6, t8, t9, t10, hj2]
      · simp (implicitDefEqProofs := false) only [↓reduceIte, go_sem, owrite, Nat.reduceAdd, Nat.reduceLT, Nat.reduceEqDiff, reduceCtorEq, eq_self, hme]
        simp (implicitDefEqProofs := false) only [↓reduceIte, go_sem, Nat.reduceLT, eq_self, t12, hw4]
        refine Rnd.cut [.box 30 12 0 1 [iA sk, iA sw, iA zr, iA zn, iA mn.kind, iA mn.i, sA mn.s, iA mx.kind, iA mx.i, sA mx.s, .d (.list false (boolR ns)), .d (.list false (bys bd))]] _ 1 rfl rfl (by simp (implicitDefEqProofs := false) only [go_sem, eq_self]) ?_
        refine ⟨rfl, ?_⟩
        simp (implicitDefEqProofs := false) only [↓reduceIte, go_sem, Nat.reduceLT, Nat.reduceEqDiff, reduceCtorEq, eq_self, t0, t1, t5, t6, t8, t9, t10, hj2]
    · rintro s H' ⟨rfl, t0, t1, t5, t6, t8, t9, t10, t12⟩
      have hcl := countP1_le (nullsV l)
      rw [nullsV_len] at hcl
      generalize hn : countP1 (nullsV l) = n at *
      subst hnu
      subst hro
      by_cases ha : zn = l.length
      · subst ha
        simp (implicitDefEqProofs := false) only [↓reduceIte, go_sem, oread, Nat.reduceAdd, Nat.reduceLT, Nat.reduceLeDiff, Nat.reduceEqDiff, Int.reduceLE, Int.reduceAdd, reduceCtorEq, eq_self, t0, t5, t6, t10, t12, List.length_map]
        refine AEnd.ret ?_
        simp (implicitDefEqProofs := false) only [↓reduceIte, go_sem, Nat.reduceLT, eq_self]
      · have hs : someV l ≠ [] := fun hs => by rw [hs] at hcs; simp at hcs; omega
        obtain ⟨m1, m2⟩ := hE.some hs
        have h1 : among1 l mn = true := List.any_eq_true.2 ⟨_, m1, by simp⟩
        have h2 : among1 l mx = true := List.any_eq_true.2 ⟨_, m2, by simp⟩
        rw [h1] at t8
        rw [h2] at t9
        simp (implicitDefEqProofs := false) only [↓reduceIte, go_sem, oread, Nat.reduceAdd, Nat.reduceLT, Nat.reduceLeDiff, Nat.reduceEqDiff, Int.reduceLE, Int.reduceAdd, reduceCtorEq, eq_self, t0, t5, t6, t8, t9, t10, t12, List.length_map, show ((zn : Int) = (l.length : Int)) = False from eq_false (by omega)]
        refine AEnd.ret ?_
        simp (implicitDefEqProofs := false) only [↓reduceIte, go_sem, Nat.reduceLT, eq_self]
theorem segZones_does (x0 : AV) (h0 : ArgOk Tryz.prog 42 x0) (x1 : AV) (h1 : ArgOk Tryz.prog 3 x1) : Does Tryz.prog 5 [x0, x1] [] (.ok (.d (.v (.bool true)))) [] := by
  obtain ⟨l, rfl, hl, hls⟩ := vals_arg h0
  obtain ⟨k, rfl, hk⟩ := int_arg h1
  exact segZones_walk l k hl hls []
end Go.Proofs.YtmbagpfmfiegkaaGreat

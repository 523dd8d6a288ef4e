/- seg.Zone: what it does. val.May: what it does. slices.IndexFunc, ContainsFunc of values with a closure: what they do. plain.Check: what it does. leb.Zig, delta.Steps: what they do. Numbers that are not negative, in the machine's operations. math/bits.Len64: what it does; numbers of bits. Lists of numbers and of bytes. bits.Width, leb.Put, bits.Pack: what they do. bits.Writer, bits.Pack: what they do. Zig's numbers: plain facts. Widths, and lengths of bytes: plain facts. Bytes as a text, and what is a byte: plain facts. leb.Text, val.Bytes: what they do. Stable sorting, in plain Lean: what is sorted, and stands alike within each class, is one list. Three-way comparing functions: what they have in common; val.Compare is one. Neighbours that are alike, each once: in plain Lean. What is sorted, each once: in plain Lean. The document's Compare (layers 4 and 5): what it does: the same as val.Compare. The reference's Below (layer 9): what it does. dict.Below, dict.Codes, and the reference's: what they do. dict.Codes, the reference's place and Codes: what they do. slices.Clone over Val: what it does. slices' swapRange, rotate, insertion sort over Val: what they do. slices' rotate over Val: what it does. slices' insertion sort over Val: what it does. slices' symMerge over Val: what it does. slices' symMerge over Val, the general case: what it does. Blocks that are sorted one by one. -/
import Derived.Test.YtmbagpfmfiegkaaGreatM03
namespace Go.Proofs.YtmbagpfmfiegkaaGreat
open Go.Proofs.YtmbagpfmfiegkaaGreatAw Go.RowKit
set_option linter.unusedVariables false
set_option linter.unusedSimpArgs false
/-- What values are within. -/
structure Zn where
  rows : Nat
  nulls : Nat
  mn : Val
  mx : Val
deriving DecidableEq
def Zn.cs (z : Zn) : List AV := [iA z.rows, iA z.nulls, iA z.mn.kind, iA z.mn.i, sA z.mn.s, iA z.mx.kind, iA z.mx.i, sA z.mx.s]
def zone1 (z : Zn) (v : Val) : Zn := if z.mn.kind = 0 then ⟨z.rows, z.nulls, v, v⟩ else z
def zone2 (z : Zn) (v : Val) : Zn := if cmpV v z.mn < 0 then ⟨z.rows, z.nulls, v, z.mx⟩ else z
def zone3 (z : Zn) (v : Val) : Zn := if 0 < cmpV v z.mx then ⟨z.rows, z.nulls, z.mn, v⟩ else z
def zoneStep (z : Zn) (v : Val) : Zn := if v.kind = 0 then ⟨z.rows, z.nulls + 1, z.mn, z.mx⟩ else zone3 (zone2 (zone1 z v) v) v
def zoneP (l : List Val) : Zn := l.foldl zoneStep ⟨l.length, 0, ⟨0, 0, noS⟩, ⟨0, 0, noS⟩⟩
theorem zoneStep_nulls (z : Zn) (v : Val) : (zoneStep z v).nulls ≤ z.nulls + 1 := by
  have e1 : (zone1 z v).nulls = z.nulls := by unfold zone1; split <;> rfl
  have e2 : ∀ z, (zone2 z v).nulls = z.nulls := fun z => by unfold zone2; split <;> rfl
  have e3 : ∀ z, (zone3 z v).nulls = z.nulls := fun z => by unfold zone3; split <;> rfl
  unfold zoneStep
  split
  · exact Nat.le_refl _
  · rw [e3, e2, e1]; omega
set_option maxRecDepth 10000 in
set_option maxHeartbeats 2000000 in
theorem zone_does (l : List Val) (nn : Bool) (hl : l.length ≤ 1000000000) (H : AHeap) : Does Tryz.prog 32 [.d (.list nn (l.map Val.enc))] H (.ok (.agg (zoneP l).cs)) H := by
  refine Does.of_awpC (hint := fun _ => false) Tryz.func32 (by kernel_rfl) rfl [.cell 2 27] (by kernel_rfl) (by simp [Tryz.ntmps32]) ?_
  rw [Tryz.ntmps32]
  have hnl : ∀ k, k ≤ l.length → ((l.take k).foldl zoneStep ⟨l.length, 0, ⟨0, 0, noS⟩, ⟨0, 0, noS⟩⟩).nulls ≤ k := by
    intro k
    induction k with
    | zero => intro _; simp
    | succ k ih =>
      intro hk
      rw [List.take_succ_eq_append_getElem (by omega), List.foldl_append]
      have := zoneStep_nulls ((l.take k).foldl zoneStep ⟨l.length, 0, ⟨0, 0, noS⟩, ⟨0, 0, noS⟩⟩) l[k]
      have := ih (by omega)
      simp only [List.foldl_cons, List.foldl_nil]
      omega
  simp (implicitDefEqProofs := false) only [↓reduceIte, go_sem, owrite, Nat.reduceAdd, Nat.reduceLT, Nat.reduceLeDiff, Nat.reduceEqDiff, reduceCtorEq, eq_self, List.length_map]
  refine awp_for (fun k s H' => ∃ z : Zn, z = (l.take k).foldl zoneStep ⟨l.length, 0, ⟨0, 0, noS⟩, ⟨0, 0, noS⟩⟩ ∧ H' = H ++ [.box 27 8 0 1 [iA 0, iA 0, iA 0, iA 0, sA ⟨#[]⟩, iA 0, iA 0, sA ⟨#[]⟩], .box 27 8 0 1 z.cs] ∧ s 2 = .ptr H.length 0 0 0 ∧ s 3 = .ptr (H.length + 1) 0 0 0 ∧ s 9 = .d (.list nn (l.map Val.enc)) ∧ s 10 = iA l.length ∧ s 11 = iA k) l.length (by omega) (Weak.refl _ _) ?_ ?_ ?_
  · refine ⟨⟨l.length, 0, ⟨0, 0, noS⟩, ⟨0, 0, noS⟩⟩, rfl, rfl, ?_⟩
    simp (implicitDefEqProofs := false) only [↓reduceIte, go_sem, Nat.reduceLT, Nat.reduceEqDiff, eq_self]
  · rintro k s H' hk hw ⟨z, hz, rfl, t2, t3, t9, t10, t11⟩
    have hx : (l.map Val.enc)[k]? = some [.v (.int .i64 l[k].kind), .v (.int .i64 l[k].i), .v (.string l[k].s)] := by rw [List.getElem?_map, List.getElem?_eq_getElem hk]; rfl
    have e1 : (l.take (k + 1)).foldl zoneStep ⟨l.length, 0, ⟨0, 0, noS⟩, ⟨0, 0, noS⟩⟩ = zoneStep z l[k] := by rw [List.take_succ_eq_append_getElem hk, List.foldl_append, hz]; rfl
    have hn := hnl k (by omega)
    rw [← hz] at hn
    rw [e1]
    clear hz e1 hnl
    generalize l[k] = v at *
    obtain ⟨zr, zn, zmn, zmx⟩ := z
    simp only at hn
    have wn : IntKind.i64.wrap ((zn : Int) + 1) = ((zn + 1 : Nat) : Int) := by rw [wrap64_in _ (by omega) (by omega)]; rfl
    by_cases hk0 : v.kind = 0
    · have hst : zoneStep ⟨zr, zn, zmn, zmx⟩ v = ⟨zr, zn + 1, zmn, zmx⟩ := if_pos hk0
      rw [hst]
      simp (implicitDefEqProofs := false) only [↓reduceIte, go_sem, oread, owrite, Nat.reduceAdd, Nat.reduceLT, Nat.reduceLeDiff, Nat.reduceEqDiff, eq_self, t3, t9, t10, t11, hk, hx, hk0, Zn.cs, wn]
      refine Rnd.cut [.box 27 8 0 1 [iA 0, iA 0, iA 0, iA 0, sA ⟨#[]⟩, iA 0, iA 0, sA ⟨#[]⟩], .box 27 8 0 1 (Zn.cs ⟨zr, zn + 1, zmn, zmx⟩)] _ 2 rfl rfl (by simp (implicitDefEqProofs := false) only [go_sem, eq_self, Zn.cs]) ⟨⟨zr, zn + 1, zmn, zmx⟩, rfl, rfl, ?_⟩
      simp (implicitDefEqProofs := false) only [↓reduceIte, go_sem, Nat.reduceLT, Nat.reduceEqDiff, eq_self, t2, t3, t9, t10, hw]
    · by_cases hm : zmn.kind = 0
      · have hE : ∀ cs : List AV, Ext (H ++ [.box 27 8 0 1 [iA 0, iA 0, iA 0, iA 0, sA ⟨#[]⟩, iA 0, iA 0, sA ⟨#[]⟩], .dead 0, .box 25 3 0 1 [iA v.kind, iA v.i, sA v.s]]) (H ++ [.box 27 8 0 1 [iA 0, iA 0, iA 0, iA 0, sA ⟨#[]⟩, iA 0, iA 0, sA ⟨#[]⟩], .box 27 8 0 1 cs, .box 25 3 0 1 [iA v.kind, iA v.i, sA v.s]]) := fun cs =>
          Ext.objs H ⟨fun _ => rfl, fun h => (by cases h), fun _ => rfl, trivial⟩
        have hE' := fun cs => eq_true (hE cs)
        simp (implicitDefEqProofs := false) only [↓reduceIte, go_sem, oread, owrite, Nat.reduceAdd, Nat.reduceLT, Nat.reduceLeDiff, Nat.reduceEqDiff, eq_self, t3, t9, t10, t11, hk, hx, hk0, hm, Zn.cs]
        refine awp_drawL [some false, none, some false, some true, some true, some true] 3 (H ++ [.box 27 8 0 1 [iA 0, iA 0, iA 0, iA 0, sA ⟨#[]⟩, iA 0, iA 0, sA ⟨#[]⟩], .dead 0, .box 25 3 0 1 [iA v.kind, iA v.i, sA v.s]]) K.mixed (by kernel_rfl) (by kernel_rfl) (by kernel_rfl) (hE _) ?_
        simp (implicitDefEqProofs := false) only [↓reduceIte, go_sem, oread, owrite, Nat.reduceAdd, Nat.reduceLT, Nat.reduceLeDiff, Nat.reduceEqDiff, eq_self, t3, hE']
        refine KCall.ok (vcmp_does v v _) ?_
        by_cases c1 : cmpV v v < 0
        · simp (implicitDefEqProofs := false) only [↓reduceIte, go_sem, oread, owrite, Nat.reduceAdd, Nat.reduceLT, Nat.reduceLeDiff, Nat.reduceEqDiff, eq_self, t3, c1]
          refine KCall.ok (vcmp_does v v _) ?_
          by_cases c2 : 0 < cmpV v v
          · have hst : zoneStep ⟨zr, zn, zmn, zmx⟩ v = ⟨zr, zn, v, v⟩ := by
                simp only [zoneStep, zone1, zone2, zone3, hk0, hm, c1, c2, if_true, if_false]
            rw [hst]
            simp (implicitDefEqProofs := false) only [↓reduceIte, go_sem, oread, owrite, Nat.reduceAdd, Nat.reduceLT, Nat.reduceEqDiff, eq_self, t3, t11, c2]
            refine Rnd.cut [.box 27 8 0 1 [iA 0, iA 0, iA 0, iA 0, sA ⟨#[]⟩, iA 0, iA 0, sA ⟨#[]⟩], .box 27 8 0 1 (Zn.cs ⟨zr, zn, v, v⟩)] _ 2 rfl rfl (by simp (implicitDefEqProofs := false) only [go_sem, eq_self, Zn.cs]) ⟨⟨zr, zn, v, v⟩, rfl, rfl, ?_⟩
            simp (implicitDefEqProofs := false) only [↓reduceIte, go_sem, Nat.reduceLT, Nat.reduceEqDiff, eq_self, t2, t3, t9, t10, hw]
          · have hst : zoneStep ⟨zr, zn, zmn, zmx⟩ v = ⟨zr, zn, v, v⟩ := by
                simp only [zoneStep, zone1, zone2, zone3, hk0, hm, c1, c2, if_true, if_false]
            rw [hst]
            simp (implicitDefEqProofs := false) only [↓reduceIte, go_sem, Nat.reduceLT, Nat.reduceEqDiff, eq_self, t11, c2]
            refine Rnd.cut [.box 27 8 0 1 [iA 0, iA 0, iA 0, iA 0, sA ⟨#[]⟩, iA 0, iA 0, sA ⟨#[]⟩], .box 27 8 0 1 (Zn.cs ⟨zr, zn, v, v⟩)] _ 2 rfl rfl (by simp (implicitDefEqProofs := false) only [go_sem, eq_self, Zn.cs]) ⟨⟨zr, zn, v, v⟩, rfl, rfl, ?_⟩
            simp (implicitDefEqProofs := false) only [↓reduceIte, go_sem, Nat.reduceLT, Nat.reduceEqDiff, eq_self, t2, t3, t9, t10, hw]
        · simp (implicitDefEqProofs := false) only [↓reduceIte, go_sem, oread, Nat.reduceAdd, Nat.reduceLT, Nat.reduceEqDiff, eq_self, t3, c1]
          refine KCall.ok (vcmp_does v v _) ?_
          by_cases c2 : 0 < cmpV v v
          · have hst : zoneStep ⟨zr, zn, zmn, zmx⟩ v = ⟨zr, zn, v, v⟩ := by
                simp only [zoneStep, zone1, zone2, zone3, hk0, hm, c1, c2, if_true, if_false]
            rw [hst]
            simp (implicitDefEqProofs := false) only [↓reduceIte, go_sem, oread, owrite, Nat.reduceAdd, Nat.reduceLT, Nat.reduceEqDiff, eq_self, t3, t11, c2]
            refine Rnd.cut [.box 27 8 0 1 [iA 0, iA 0, iA 0, iA 0, sA ⟨#[]⟩, iA 0, iA 0, sA ⟨#[]⟩], .box 27 8 0 1 (Zn.cs ⟨zr, zn, v, v⟩)] _ 2 rfl rfl (by simp (implicitDefEqProofs := false) only [go_sem, eq_self, Zn.cs]) ⟨⟨zr, zn, v, v⟩, rfl, rfl, ?_⟩
            simp (implicitDefEqProofs := false) only [↓reduceIte, go_sem, Nat.reduceLT, Nat.reduceEqDiff, eq_self, t2, t3, t9, t10, hw]
          · have hst : zoneStep ⟨zr, zn, zmn, zmx⟩ v = ⟨zr, zn, v, v⟩ := by
                simp only [zoneStep, zone1, zone2, zone3, hk0, hm, c1, c2, if_true, if_false]
            rw [hst]
            simp (implicitDefEqProofs := false) only [↓reduceIte, go_sem, Nat.reduceLT, Nat.reduceEqDiff, eq_self, t11, c2]
            refine Rnd.cut [.box 27 8 0 1 [iA 0, iA 0, iA 0, iA 0, sA ⟨#[]⟩, iA 0, iA 0, sA ⟨#[]⟩], .box 27 8 0 1 (Zn.cs ⟨zr, zn, v, v⟩)] _ 2 rfl rfl (by simp (implicitDefEqProofs := false) only [go_sem, eq_self, Zn.cs]) ⟨⟨zr, zn, v, v⟩, rfl, rfl, ?_⟩
            simp (implicitDefEqProofs := false) only [↓reduceIte, go_sem, Nat.reduceLT, Nat.reduceEqDiff, eq_self, t2, t3, t9, t10, hw]
      · simp (implicitDefEqProofs := false) only [↓reduceIte, go_sem, oread, owrite, Nat.reduceAdd, Nat.reduceLT, Nat.reduceLeDiff, Nat.reduceEqDiff, eq_self, t3, t9, t10, t11, hk, hx, hk0, hm, Zn.cs]
        refine KCall.ok (vcmp_does v zmn _) ?_
        by_cases c1 : cmpV v zmn < 0
        · simp (implicitDefEqProofs := false) only [↓reduceIte, go_sem, oread, owrite, Nat.reduceAdd, Nat.reduceLT, Nat.reduceLeDiff, Nat.reduceEqDiff, eq_self, t3, c1]
          refine KCall.ok (vcmp_does v zmx _) ?_
          by_cases c2 : 0 < cmpV v zmx
          · have hst : zoneStep ⟨zr, zn, zmn, zmx⟩ v = ⟨zr, zn, v, v⟩ := by
                simp only [zoneStep, zone1, zone2, zone3, hk0, hm, c1, c2, if_true, if_false]
            rw [hst]
            simp (implicitDefEqProofs := false) only [↓reduceIte, go_sem, oread, owrite, Nat.reduceAdd, Nat.reduceLT, Nat.reduceEqDiff, eq_self, t3, t11, c2]
            refine Rnd.cut [.box 27 8 0 1 [iA 0, iA 0, iA 0, iA 0, sA ⟨#[]⟩, iA 0, iA 0, sA ⟨#[]⟩], .box 27 8 0 1 (Zn.cs ⟨zr, zn, v, v⟩)] _ 2 rfl rfl (by simp (implicitDefEqProofs := false) only [go_sem, eq_self, Zn.cs]) ⟨⟨zr, zn, v, v⟩, rfl, rfl, ?_⟩
            simp (implicitDefEqProofs := false) only [↓reduceIte, go_sem, Nat.reduceLT, Nat.reduceEqDiff, eq_self, t2, t3, t9, t10, hw]
          · have hst : zoneStep ⟨zr, zn, zmn, zmx⟩ v = ⟨zr, zn, v, zmx⟩ := by
                simp only [zoneStep, zone1, zone2, zone3, hk0, hm, c1, c2, if_true, if_false]
            rw [hst]
            simp (implicitDefEqProofs := false) only [↓reduceIte, go_sem, Nat.reduceLT, Nat.reduceEqDiff, eq_self, t11, c2]
            refine Rnd.cut [.box 27 8 0 1 [iA 0, iA 0, iA 0, iA 0, sA ⟨#[]⟩, iA 0, iA 0, sA ⟨#[]⟩], .box 27 8 0 1 (Zn.cs ⟨zr, zn, v, zmx⟩)] _ 2 rfl rfl (by simp (implicitDefEqProofs := false) only [go_sem, eq_self, Zn.cs]) ⟨⟨zr, zn, v, zmx⟩, rfl, rfl, ?_⟩
            simp (implicitDefEqProofs := false) only [↓reduceIte, go_sem, Nat.reduceLT, Nat.reduceEqDiff, eq_self, t2, t3, t9, t10, hw]
        · simp (implicitDefEqProofs := false) only [↓reduceIte, go_sem, oread, Nat.reduceAdd, Nat.reduceLT, Nat.reduceEqDiff, eq_self, t3, c1]
          refine KCall.ok (vcmp_does v zmx _) ?_
          by_cases c2 : 0 < cmpV v zmx
          · have hst : zoneStep ⟨zr, zn, zmn, zmx⟩ v = ⟨zr, zn, zmn, v⟩ := by
                simp only [zoneStep, zone1, zone2, zone3, hk0, hm, c1, c2, if_true, if_false]
            rw [hst]
            simp (implicitDefEqProofs := false) only [↓reduceIte, go_sem, oread, owrite, Nat.reduceAdd, Nat.reduceLT, Nat.reduceEqDiff, eq_self, t3, t11, c2]
            refine Rnd.cut [.box 27 8 0 1 [iA 0, iA 0, iA 0, iA 0, sA ⟨#[]⟩, iA 0, iA 0, sA ⟨#[]⟩], .box 27 8 0 1 (Zn.cs ⟨zr, zn, zmn, v⟩)] _ 2 rfl rfl (by simp (implicitDefEqProofs := false) only [go_sem, eq_self, Zn.cs]) ⟨⟨zr, zn, zmn, v⟩, rfl, rfl, ?_⟩
            simp (implicitDefEqProofs := false) only [↓reduceIte, go_sem, Nat.reduceLT, Nat.reduceEqDiff, eq_self, t2, t3, t9, t10, hw]
          · have hst : zoneStep ⟨zr, zn, zmn, zmx⟩ v = ⟨zr, zn, zmn, zmx⟩ := by
                simp only [zoneStep, zone1, zone2, zone3, hk0, hm, c1, c2, if_false]
            rw [hst]
            simp (implicitDefEqProofs := false) only [↓reduceIte, go_sem, Nat.reduceLT, Nat.reduceEqDiff, eq_self, t11, c2]
            refine Rnd.cut [.box 27 8 0 1 [iA 0, iA 0, iA 0, iA 0, sA ⟨#[]⟩, iA 0, iA 0, sA ⟨#[]⟩], .box 27 8 0 1 (Zn.cs ⟨zr, zn, zmn, zmx⟩)] _ 2 rfl rfl (by simp (implicitDefEqProofs := false) only [go_sem, eq_self, Zn.cs]) ⟨⟨zr, zn, zmn, zmx⟩, rfl, rfl, ?_⟩
            simp (implicitDefEqProofs := false) only [↓reduceIte, go_sem, Nat.reduceLT, Nat.reduceEqDiff, eq_self, t2, t3, t9, t10, hw]
  · rintro s H' ⟨z, hz, rfl, t2, t3, t9, t10, t11⟩
    rw [List.take_length] at hz
    have hz' : zoneP l = z := hz.symm
    rw [hz']
    simp (implicitDefEqProofs := false) only [↓reduceIte, go_sem, oread, owrite, Nat.reduceAdd, Nat.reduceLT, Nat.reduceEqDiff, eq_self, t2, t3, t10, t11, Zn.cs]
    refine AEndC.ret ?_
    simp (implicitDefEqProofs := false) only [↓reduceIte, go_sem, oread, Nat.reduceAdd, Nat.reduceLeDiff, Nat.reduceEqDiff, eq_self, resAll, resAV, t2]
end Go.Proofs.YtmbagpfmfiegkaaGreat
namespace Go.Proofs.YtmbagpfmfiegkaaGreat
open Go.Proofs.YtmbagpfmfiegkaaGreatAw Go.RowKit
set_option linter.unusedVariables false
set_option linter.unusedSimpArgs false
def mayV (v : Val) : Bool := if v.kind = 2 then decide (toU v.i = cleanN (toU v.i)) && decide (v.s.toList = []) else if v.kind = 1 then decide (v.s.toList = []) else if v.kind = 3 then decide (v.i = 0) && decide (v.s.size ≤ 1024) else if v.kind = 0 then decide (v.i = 0) && decide (v.s.toList = []) else false
set_option maxRecDepth 10000 in
set_option maxHeartbeats 1000000 in
theorem mayV_does (v : Val) (H : AHeap) : Does Tryz.prog 60 [v.av] H (.ok (bA (mayV v))) H := by
  have e0 : ∀ x : ByteArray, (x.toList == (⟨#[]⟩ : ByteArray).toList) = decide (x.toList = []) := fun x => by
    rw [show (⟨#[]⟩ : ByteArray).toList = [] from noS_toList]; rw [Bool.eq_iff_iff]; simp
  refine Does.of_awp (hint := (fun _ => false)) Tryz.func60 (by kernel_rfl) rfl [2] (by kernel_rfl) (by decide) (by simp [Tryz.ntmps60]) ?_
  rw [Tryz.ntmps60]
  by_cases h2 : v.kind = 2
  · simp (implicitDefEqProofs := false) only [↓reduceIte, go_sem, oread, Nat.reduceAdd, Nat.reduceLT, Nat.reduceLeDiff, Nat.reduceEqDiff, eq_self, h2]
    refine awp_draw K.mixed (by kernel_rfl) ?_
    simp (implicitDefEqProofs := false) only [↓reduceIte, go_sem, oread, Nat.reduceAdd, Nat.reduceLT, Nat.reduceLeDiff, Nat.reduceEqDiff, eq_self, wrap_toU]
    refine KCall.ok (fclean_does _ (toU_lt _) _) ?_
    simp (implicitDefEqProofs := false) only [↓reduceIte, go_sem, Nat.reduceLT, Nat.reduceEqDiff, eq_self, Int.natCast_inj]
    cases hc : decide (toU v.i = cleanN (toU v.i)) with
    | true =>
      simp (implicitDefEqProofs := false) only [↓reduceIte, go_sem, oread, Nat.reduceAdd, Nat.reduceLT, Nat.reduceEqDiff, eq_self, e0]
      refine AEnd.ret ?_
      simp (implicitDefEqProofs := false) only [↓reduceIte, go_sem, Nat.reduceLT, eq_self, mayV, h2, hc]
    | false =>
      simp (implicitDefEqProofs := false) only [↓reduceIte, go_sem, Nat.reduceLT, Nat.reduceEqDiff, reduceCtorEq, eq_self]
      refine AEnd.ret ?_
      simp (implicitDefEqProofs := false) only [↓reduceIte, go_sem, Nat.reduceLT, eq_self, mayV, h2, hc]
  by_cases h1 : v.kind = 1
  · simp (implicitDefEqProofs := false) only [↓reduceIte, go_sem, oread, Nat.reduceAdd, Nat.reduceLT, Nat.reduceLeDiff, Nat.reduceEqDiff, Int.reduceEq, eq_self, h1, e0]
    refine AEnd.ret ?_
    simp (implicitDefEqProofs := false) only [↓reduceIte, go_sem, Nat.reduceLT, Int.reduceEq, eq_self, mayV, h1]
  by_cases h3 : v.kind = 3
  · by_cases hi : v.i = 0
    · simp (implicitDefEqProofs := false) only [↓reduceIte, go_sem, oread, Nat.reduceAdd, Nat.reduceLT, Nat.reduceLeDiff, Nat.reduceEqDiff, Int.reduceEq, eq_self, h3, hi]
      refine AEnd.ret ?_
      simp (implicitDefEqProofs := false) only [↓reduceIte, go_sem, Nat.reduceLT, Int.reduceEq, eq_self, mayV, h3, hi, show ((v.s.size : Int) ≤ 1024) = (v.s.size ≤ 1024) from by simp; omega]
    · simp (implicitDefEqProofs := false) only [↓reduceIte, go_sem, oread, Nat.reduceAdd, Nat.reduceLT, Nat.reduceLeDiff, Nat.reduceEqDiff, Int.reduceEq, reduceCtorEq, eq_self, h3, hi]
      refine AEnd.ret ?_
      simp (implicitDefEqProofs := false) only [↓reduceIte, go_sem, Nat.reduceLT, Int.reduceEq, eq_self, mayV, h3, hi]
  by_cases h0 : v.kind = 0
  · have e1 : sameV v.kind v.i v.s 0 0 ⟨#[]⟩ = (decide (v.i = 0) && decide (v.s.toList = [])) := by
      rw [show sameV v.kind v.i v.s 0 0 ⟨#[]⟩ = decide (v = ⟨0, 0, noS⟩) from sameV_noS v]
      simp only [zero_iff v h0, Bool.decide_and]
    simp (implicitDefEqProofs := false) only [↓reduceIte, go_sem, oread, Nat.reduceAdd, Nat.reduceLT, Nat.reduceLeDiff, Nat.reduceEqDiff, eq_self, h1, h2, h3, eq_true h0, e1]
    refine AEnd.ret ?_
    simp (implicitDefEqProofs := false) only [↓reduceIte, go_sem, Nat.reduceLT, eq_self, mayV, h1, h2, h3, eq_true h0]
  simp (implicitDefEqProofs := false) only [↓reduceIte, go_sem, oread, Nat.reduceAdd, Nat.reduceLT, Nat.reduceLeDiff, Nat.reduceEqDiff, reduceCtorEq, eq_self, h0, h1, h2, h3]
  refine AEnd.ret ?_
  simp (implicitDefEqProofs := false) only [↓reduceIte, go_sem, Nat.reduceLT, eq_self, mayV, h0, h1, h2, h3]
end Go.Proofs.YtmbagpfmfiegkaaGreat
namespace Go.Proofs.YtmbagpfmfiegkaaGreat
open Go.Proofs.YtmbagpfmfiegkaaGreatAw Go.RowKit
set_option linter.unusedVariables false
set_option linter.unusedSimpArgs false
def idxP {α : Type} (p : α → Bool) (l : List α) : Int := if l.any p then (l.findIdx p : Nat) else -1
theorem idxP_hit {α : Type} {p : α → Bool} {l : List α} {k : Nat} (h : ∀ i (hi : i < k) (hl : i < l.length), p l[i] = false) (hk : k < l.length) (hp : p l[k] = true) : idxP p l = k := by
  unfold idxP
  rw [if_pos (List.any_eq_true.2 ⟨l[k], List.getElem_mem hk, hp⟩)]
  congr 1
  exact (List.findIdx_eq hk).2 ⟨hp, fun j hj => h j hj (by omega)⟩
theorem any_none {α : Type} {p : α → Bool} {l : List α} (h : ∀ i (hi : i < l.length), p l[i] = false) : l.any p = false := by
  rw [List.any_eq_false]
  intro x hx
  obtain ⟨i, hi, rfl⟩ := List.mem_iff_getElem.1 hx
  simp [h i hi]
theorem idxP_none {α : Type} {p : α → Bool} {l : List α} (h : ∀ i (hi : i < l.length), p l[i] = false) : idxP p l = -1 := by
  unfold idxP
  rw [any_none h]
  rfl
theorem idxP_pos {α : Type} (p : α → Bool) (l : List α) : (0 ≤ idxP p l) = (l.any p = true) := by
  unfold idxP
  cases h : l.any p with
  | true => simp
  | false => simp
set_option maxRecDepth 10000 in
set_option maxHeartbeats 1000000 in
theorem indexV_does (l : List Val) (p : Val → Bool) (g : FuncId) (caps : List AV) (n1 : Bool) (H : AHeap) (hl : l.length ≤ 9223372036854775807) (hf : ∀ v ∈ l, Does Tryz.prog g ([v.av] ++ caps) H (.ok (bA (p v))) H) :
    Does Tryz.prog 103 [.d (.list n1 (l.map Val.enc)), .fn g caps] H (.ok (iA (idxP p l))) H := by
  refine Does.of_awp (hint := (fun _ => false)) Tryz.func103 (by kernel_rfl) rfl [4] (by kernel_rfl) (by decide) (by simp [Tryz.ntmps103]) ?_
  rw [Tryz.ntmps103]
  simp (implicitDefEqProofs := false) only [↓reduceIte, go_sem, Nat.reduceLT, Int.reduceNeg, reduceCtorEq, eq_self]
  refine awp_for (fun k s H' => H' = H ∧ (∀ i (hi : i < k) (hl : i < l.length), p l[i] = false) ∧ s 0 = .d (.list n1 (l.map Val.enc)) ∧ s 1 = .fn g caps ∧ s 7 = iA l.length ∧ s 8 = iA k) l.length hl (Weak.refl _ _) ?_ ?_ ?_
  · refine ⟨rfl, fun i hi => by omega, ?_⟩
    simp (implicitDefEqProofs := false) only [↓reduceIte, go_sem, Nat.reduceLT, Nat.reduceEqDiff, reduceCtorEq, eq_self]
  · rintro k s H' hk hw ⟨rfl, hp, h0, h1, h7, h8⟩
    have hx := List.getElem?_eq_getElem hk
    have hit : p l[k] = true → idxP p l = k := fun h => idxP_hit hp hk h
    have hpp : p l[k] = false → ∀ i (hi : i < k + 1) (hl : i < l.length), p l[i] = false := fun h0 i hi hl' => by
      rcases Nat.lt_or_ge i k with h | h
      · exact hp i h hl'
      · obtain rfl : i = k := by omega
        exact h0
    have hfk := hf l[k] (List.getElem_mem hk)
    generalize l[k] = v at hx hit hpp hfk
    simp (implicitDefEqProofs := false) only [↓reduceIte, go_sem, Nat.reduceAdd, Nat.reduceLT, Nat.reduceEqDiff, reduceCtorEq, eq_self, h0, h1, h7, h8, hk, hx, Val.enc]
    refine KCall.ok hfk ?_
    cases hv : p v with
    | true =>
      simp (implicitDefEqProofs := false) only [↓reduceIte, go_sem, Nat.reduceLT, Nat.reduceEqDiff, eq_self]
      refine AEnd.ret0 ?_
      simp (implicitDefEqProofs := false) only [↓reduceIte, go_sem, Nat.reduceLT, eq_self, hit hv]
    | false =>
      simp (implicitDefEqProofs := false) only [↓reduceIte, go_sem, Nat.reduceLT, Nat.reduceEqDiff, eq_self, h8]
      refine Rnd.same ⟨rfl, hpp hv, ?_⟩
      simp (implicitDefEqProofs := false) only [↓reduceIte, go_sem, Nat.reduceLT, Nat.reduceEqDiff, reduceCtorEq, eq_self, h0, h1, h7, hw]
  · rintro s H' ⟨rfl, hp, h0, h1, h7, h8⟩
    simp (implicitDefEqProofs := false) only [↓reduceIte, go_sem, Nat.reduceLT, Int.reduceNeg, eq_self, h7, h8]
    refine AEnd.ret0 ?_
    simp (implicitDefEqProofs := false) only [↓reduceIte, go_sem, Nat.reduceLT, Int.reduceNeg, eq_self, idxP_none fun i hi => hp i hi hi]
set_option maxRecDepth 10000 in
theorem containsV_does (l : List Val) (p : Val → Bool) (g : FuncId) (caps : List AV) (n1 : Bool) (H : AHeap) (hl : l.length ≤ 9223372036854775807) (hf : ∀ v ∈ l, Does Tryz.prog g ([v.av] ++ caps) H (.ok (bA (p v))) H) :
    Does Tryz.prog 62 [.d (.list n1 (l.map Val.enc)), .fn g caps] H (.ok (bA (l.any p))) H := by
  refine Does.of_awp (hint := (fun _ => false)) Tryz.func62 (by kernel_rfl) rfl [4] (by kernel_rfl) (by decide) (by simp [Tryz.ntmps62]) ?_
  rw [Tryz.ntmps62]
  simp (implicitDefEqProofs := false) only [↓reduceIte, go_sem, Nat.reduceLT, Nat.reduceEqDiff, reduceCtorEq, eq_self]
  refine KCall.ok (indexV_does l p g caps n1 H hl hf) ?_
  simp (implicitDefEqProofs := false) only [↓reduceIte, go_sem, Nat.reduceLT, eq_self, idxP_pos]
  refine AEnd.ret0 ?_
  simp (implicitDefEqProofs := false) only [↓reduceIte, go_sem, Nat.reduceLT, eq_self, Bool.decide_eq_true]
end Go.Proofs.YtmbagpfmfiegkaaGreat
namespace Go.Proofs.YtmbagpfmfiegkaaGreat
open Go.Proofs.YtmbagpfmfiegkaaGreatAw Go.RowKit
set_option linter.unusedVariables false
set_option linter.unusedSimpArgs false
def kindsP (k : Int) : Bool := decide (1 ≤ k) && decide (k ≤ 3)
set_option maxRecDepth 10000 in
theorem kinds_does (k : Int) (H : AHeap) : Does Tryz.prog 61 [iA k] H (.ok (bA (kindsP k))) H := by
  refine Does.of_awp (hint := (fun _ => false)) Tryz.func61 (by kernel_rfl) rfl [2] (by kernel_rfl) (by decide) (by simp [Tryz.ntmps61]) ?_
  rw [Tryz.ntmps61]
  by_cases h : 1 ≤ k
  · simp (implicitDefEqProofs := false) only [↓reduceIte, go_sem, Nat.reduceLT, Nat.reduceEqDiff, reduceCtorEq, eq_self, h]
    refine AEnd.ret0 ?_
    simp (implicitDefEqProofs := false) only [↓reduceIte, go_sem, Nat.reduceLT, eq_self, kindsP, h]
  · simp (implicitDefEqProofs := false) only [↓reduceIte, go_sem, Nat.reduceLT, Nat.reduceEqDiff, reduceCtorEq, eq_self, h]
    refine AEnd.ret0 ?_
    simp (implicitDefEqProofs := false) only [↓reduceIte, go_sem, Nat.reduceLT, eq_self, kindsP, h]
def plainP (l : List Val) (k : Int) : Int := if !kindsP k then 1 else if 4096 < l.length then 2 else if l.any (fun v => !decide (v.kind = k)) then 7 else if l.any (fun v => !mayV v) then 1 else 0
set_option maxRecDepth 10000 in
theorem plain1_does (v : Val) (k : Int) (id : Nat) (H : AHeap) (hb : H[id]? = some (.box 3 1 0 1 [iA k])) : Does Tryz.prog 58 [v.av, .ptr id 0 0 0] H (.ok (bA (!decide (v.kind = k)))) H := by
  have hlt : id < H.length := (List.getElem?_eq_some_iff.1 hb).1
  refine Does.of_awp (hint := (fun _ => false)) Tryz.func58 (by kernel_rfl) rfl [3] (by kernel_rfl) (by decide) (by simp [Tryz.ntmps58]) ?_
  rw [Tryz.ntmps58]
  simp (implicitDefEqProofs := false) only [↓reduceIte, go_sem, oread, Nat.reduceAdd, Nat.reduceLT, Nat.reduceLeDiff, Nat.reduceEqDiff, eq_self, hb, List.getElem?_append_left hlt]
  refine AEnd.ret ?_
  simp (implicitDefEqProofs := false) only [↓reduceIte, go_sem, Nat.reduceLT, eq_self]
set_option maxRecDepth 10000 in
theorem plain2_does (v : Val) (H : AHeap) : Does Tryz.prog 59 [v.av] H (.ok (bA (!mayV v))) H := by
  refine Does.of_awp (hint := (fun _ => false)) Tryz.func59 (by kernel_rfl) rfl [2] (by kernel_rfl) (by decide) (by simp [Tryz.ntmps59]) ?_
  rw [Tryz.ntmps59]
  simp (implicitDefEqProofs := false) only [↓reduceIte, go_sem, oread, Nat.reduceAdd, Nat.reduceLT, Nat.reduceEqDiff, eq_self]
  refine KCall.ok (mayV_does v _) ?_
  simp (implicitDefEqProofs := false) only [↓reduceIte, go_sem, Nat.reduceLT, eq_self]
  refine AEnd.ret ?_
  simp (implicitDefEqProofs := false) only [↓reduceIte, go_sem, Nat.reduceLT, eq_self]
set_option maxRecDepth 10000 in
set_option maxHeartbeats 1000000 in
theorem plain_does (l : List Val) (k : Int) (nn : Bool) (H : AHeap) (hl : l.length ≤ 9223372036854775807) : Does Tryz.prog 29 [.d (.list nn (l.map Val.enc)), iA k] H (.ok (iA (plainP l k))) H := by
  refine Does.of_awp (hint := (fun _ => false)) Tryz.func29 (by kernel_rfl) rfl [4] (by kernel_rfl) (by decide) (by simp [Tryz.ntmps29]) ?_
  rw [Tryz.ntmps29]
  simp (implicitDefEqProofs := false) only [↓reduceIte, go_sem, oread, Nat.reduceLT, Nat.reduceEqDiff, eq_self]
  refine KCall.ok (kinds_does k _) ?_
  cases h1 : kindsP k with
  | false =>
    simp (implicitDefEqProofs := false) only [↓reduceIte, go_sem, Nat.reduceLT, eq_self]
    refine AEnd.ret ?_
    simp (implicitDefEqProofs := false) only [↓reduceIte, go_sem, Nat.reduceLT, eq_self, plainP, h1]
  | true =>
    by_cases h2 : 4096 < l.length
    · simp (implicitDefEqProofs := false) only [↓reduceIte, go_sem, Nat.reduceLT, reduceCtorEq, eq_self, show ((4096 : Int) < (l.length : Int)) = True from eq_true (by omega)]
      refine AEnd.ret ?_
      simp (implicitDefEqProofs := false) only [↓reduceIte, go_sem, Nat.reduceLT, eq_self, plainP, h1, h2, Bool.false_eq_true]
    · simp (implicitDefEqProofs := false) only [↓reduceIte, go_sem, Nat.reduceLT, Nat.reduceEqDiff, reduceCtorEq, eq_self, show ((4096 : Int) < (l.length : Int)) = False from eq_false (by omega)]
      refine KCall.ok (containsV_does l (fun v => !decide (v.kind = k)) _ _ nn _ hl fun v _ => plain1_does v k _ _ (by simp)) ?_
      cases h3 : l.any (fun v => !decide (v.kind = k)) with
      | true =>
        simp (implicitDefEqProofs := false) only [↓reduceIte, go_sem, Nat.reduceLT, eq_self]
        refine AEnd.ret ?_
        simp (implicitDefEqProofs := false) only [↓reduceIte, go_sem, Nat.reduceLT, eq_self, plainP, h1, h2, h3, Bool.false_eq_true]
      | false =>
        simp (implicitDefEqProofs := false) only [↓reduceIte, go_sem, Nat.reduceLT, Nat.reduceEqDiff, reduceCtorEq, eq_self]
        refine KCall.ok (containsV_does l (fun v => !mayV v) _ _ nn _ hl fun v _ => plain2_does v _) ?_
        cases h4 : l.any (fun v => !mayV v) with
        | true =>
          simp (implicitDefEqProofs := false) only [↓reduceIte, go_sem, Nat.reduceLT, eq_self]
          refine AEnd.ret ?_
          simp (implicitDefEqProofs := false) only [↓reduceIte, go_sem, Nat.reduceLT, eq_self, plainP, h1, h2, h3, h4, Bool.false_eq_true]
        | false =>
          simp (implicitDefEqProofs := false) only [↓reduceIte, go_sem, Nat.reduceLT, eq_self]
          refine AEnd.ret ?_
          simp (implicitDefEqProofs := false) only [↓reduceIte, go_sem, Nat.reduceLT, eq_self, plainP, h1, h2, h3, h4, Bool.false_eq_true]
end Go.Proofs.YtmbagpfmfiegkaaGreat
namespace Go.Proofs.YtmbagpfmfiegkaaGreat
open Go.Proofs.YtmbagpfmfiegkaaGreatAw Go.RowKit
set_option linter.unusedVariables false
set_option linter.unusedSimpArgs false
def zigP (n : Int) : Nat := if 0 ≤ n then (2 * n).toNat else (-2 * n - 1).toNat
theorem wrapU (n : Int) : IntKind.u64.wrap n = n % 18446744073709551616 := by simp [IntKind.wrap, IntKind.signed, IntKind.bits]
theorem xorAll (c : Nat) (h : c < 18446744073709551616) : c ^^^ 18446744073709551615 = 18446744073709551615 - c := by
  have := Nat.testBit_two_pow_sub_succ (x := c) (n := 64) h
  apply Nat.eq_of_testBit_eq
  intro i
  rw [Nat.testBit_xor]
  have h2 := this i
  rw [show 2 ^ 64 - (c + 1) = 18446744073709551615 - c from by omega] at h2
  rw [h2]
  have h3 : (18446744073709551615 : Nat).testBit i = decide (i < 64) := by
    have := Nat.testBit_two_pow_sub_one 64 i
    simpa using this
  rw [h3]
  by_cases hi : i < 64
  · simp [hi]
  · have h5 : 2 ^ 64 ≤ 2 ^ i := Nat.pow_le_pow_right (by omega) (by omega)
    have : c.testBit i = false := Nat.testBit_lt_two_pow (by omega)
    simp [hi, this]
theorem zig_eq (n : Int) (h1 : -9223372036854775808 ≤ n) (h2 : n ≤ 9223372036854775807) :
    IntKind.u64.wrap (xorI .u64 (IntKind.u64.wrap (shlI .u64 (IntKind.u64.wrap n) 1)) (IntKind.u64.wrap (shrI .i64 n 63))) = ((zigP n : Nat) : Int) := by
  have s1 : shlI .u64 (IntKind.u64.wrap n) 1 = IntKind.u64.wrap n * 2 := by simp [shlI, IntKind.bits]
  have s2 : shrI .i64 n 63 = n.fdiv 9223372036854775808 := by simp [shrI, IntKind.bits]
  rw [s1, s2]
  by_cases h : 0 ≤ n
  · have e1 : IntKind.u64.wrap (IntKind.u64.wrap n * 2) = (((2 * n).toNat : Nat) : Int) := by rw [wrapU, wrapU]; omega
    have e2 : IntKind.u64.wrap (n.fdiv 9223372036854775808) = ((0 : Nat) : Int) := by
      rw [show n.fdiv 9223372036854775808 = 0 from by rw [Int.fdiv_eq_ediv_of_nonneg _ (by decide)]; omega]; rfl
    rw [e1, e2]
    have e := bits_xor_u64_nat (2 * n).toNat 0 (by omega) (by omega)
    rw [Nat.xor_zero] at e
    unfold zigP
    rw [if_pos h]
    exact e
  · have e1 : IntKind.u64.wrap (IntKind.u64.wrap n * 2) = (((2 * n + 18446744073709551616).toNat : Nat) : Int) := by rw [wrapU, wrapU]; omega
    have e2 : IntKind.u64.wrap (n.fdiv 9223372036854775808) = ((18446744073709551615 : Nat) : Int) := by
      rw [show n.fdiv 9223372036854775808 = -1 from by rw [Int.fdiv_eq_ediv_of_nonneg _ (by decide)]; omega]; rfl
    rw [e1, e2]
    have e := bits_xor_u64_nat (2 * n + 18446744073709551616).toNat 18446744073709551615 (by omega) (by omega)
    rw [xorAll _ (by omega)] at e
    unfold zigP
    rw [if_neg h, show (-2 * n - 1).toNat = 18446744073709551615 - (2 * n + 18446744073709551616).toNat from by omega]
    exact e
set_option maxRecDepth 10000 in
theorem zig_does (n : Int) (h1 : -9223372036854775808 ≤ n) (h2 : n ≤ 9223372036854775807) (H : AHeap) : Does Tryz.prog 64 [iA n] H (.ok (du (zigP n))) H := by
  refine Does.of_awp (hint := (fun _ => false)) Tryz.func64 (by kernel_rfl) rfl [2] (by kernel_rfl) (by decide) (by simp [Tryz.ntmps64]) ?_
  rw [Tryz.ntmps64]
  simp (implicitDefEqProofs := false) only [↓reduceIte, go_sem, Nat.reduceLT, Nat.reduceEqDiff, Int.reduceLE, reduceCtorEq, eq_self, zig_eq n h1 h2]
  refine AEnd.ret0 ?_
  simp (implicitDefEqProofs := false) only [↓reduceIte, go_sem, Nat.reduceLT, eq_self]
end Go.Proofs.YtmbagpfmfiegkaaGreat
namespace Go.Proofs.YtmbagpfmfiegkaaGreat
open Go.Proofs.YtmbagpfmfiegkaaGreatAw Go.RowKit
set_option linter.unusedVariables false
theorem shrU (n k : Nat) (h : k ≤ 64) : shrI .u64 (n : Int) (k : Int) = ((n / 2 ^ k : Nat) : Int) := by
  have : min k 64 = k := by omega
  simp only [shrI, IntKind.bits, Int.toNat_natCast, this]
  rw [Int.fdiv_eq_ediv_of_nonneg _ (by exact_mod_cast Nat.zero_le _)]
  norm_cast
theorem wrap8N (n : Nat) (h : n < 256) : IntKind.u8.wrap (n : Int) = n := wrapu8_in _ (by omega) (by omega)
theorem orI_nat (k : IntKind) (a b : Nat) (ha : a < 2 ^ k.bits) (hb : b < 2 ^ k.bits) : orI k (a : Int) (b : Int) = ((a ||| b : Nat) : Int) := by
  simp [orI, BitVec.toNat_or, BitVec.ofInt_natCast, Nat.mod_eq_of_lt ha, Nat.mod_eq_of_lt hb]
theorem andI_nat (k : IntKind) (a b : Nat) (ha : a < 2 ^ k.bits) (hb : b < 2 ^ k.bits) : andI k (a : Int) (b : Int) = ((a &&& b : Nat) : Int) := by
  simp [andI, BitVec.toNat_and, BitVec.ofInt_natCast, Nat.mod_eq_of_lt ha, Nat.mod_eq_of_lt hb]
theorem wrapU64N (n : Nat) (h : n < 18446744073709551616) : IntKind.u64.wrap (n : Int) = n := wrapu64_in _ (by omega) (by omega)
theorem wrapU8mod (n : Nat) : IntKind.u8.wrap (n : Int) = ((n % 256 : Nat) : Int) := by simp [IntKind.wrap, IntKind.signed, IntKind.bits]
theorem wrapI (n : Nat) (h : n ≤ 1000000000000) : IntKind.i64.wrap (n : Int) = (n : Int) := wrap64_in _ (by omega) (by omega)
end Go.Proofs.YtmbagpfmfiegkaaGreat
namespace Go.Proofs.YtmbagpfmfiegkaaGreat
open Go.Proofs.YtmbagpfmfiegkaaGreatAw Go.RowKit
set_option linter.unusedVariables false
set_option linter.unusedSimpArgs false
def lenN (n : Nat) : Nat := if n = 0 then 0 else n.log2 + 1
theorem lenN_le (n w : Nat) : lenN n ≤ w ↔ n < 2 ^ w := by
  unfold lenN
  split
  · subst_vars; simp [Nat.two_pow_pos]
  · rename_i h
    rw [← Nat.log2_lt h]; omega
theorem lenN_div (n k : Nat) (h : 2 ^ k ≤ n) : lenN n = k + lenN (n / 2 ^ k) := by
  have key : ∀ w, lenN n ≤ w ↔ k + lenN (n / 2 ^ k) ≤ w := by
    intro w
    rcases Nat.lt_or_ge w k with hw | hw
    · rw [lenN_le]
      have : 2 ^ w ≤ 2 ^ k := Nat.pow_le_pow_right (by omega) (by omega)
      omega
    · rw [show (k + lenN (n / 2 ^ k) ≤ w) = (lenN (n / 2 ^ k) ≤ w - k) from propext ⟨fun h => by omega, fun h => by omega⟩, lenN_le, lenN_le, Nat.div_lt_iff_lt_mul (Nat.two_pow_pos k), ← Nat.pow_add, Nat.sub_add_cancel hw]
  exact Nat.le_antisymm ((key _).2 (Nat.le_refl _)) ((key _).1 (Nat.le_refl _))
theorem lenN_le64 {n : Nat} (h : n < 18446744073709551616) : lenN n ≤ 64 := (lenN_le n 64).2 h
theorem lenTab : ∀ n, n < 256 → ∀ b : ByteArray, b.data.toList = (List.range 256).map (fun n => UInt8.ofNat (lenN n)) → b[n]? = some (UInt8.ofNat (lenN n)) := by
  intro n hn b hb
  have : b.data[n]? = some (UInt8.ofNat (lenN n)) := by
    rw [← Array.getElem?_toList, hb]; simp [hn]
  obtain ⟨h1, h2⟩ := Array.getElem?_eq_some_iff.1 this
  rw [getElem?_pos b n h1]
  exact congrArg some h2
theorem ofNat_len {n : Nat} (h : n < 256) : (UInt8.ofNat (lenN n)).toNat = lenN n := by
  have : lenN n ≤ 8 := (lenN_le n 8).2 h
  simp; omega
theorem len_small (n : Nat) : (4294967296 ≤ n → lenN n = 32 + lenN (n / 4294967296)) ∧ (65536 ≤ n → lenN n = 16 + lenN (n / 65536)) ∧ (256 ≤ n → lenN n = 8 + lenN (n / 256)) :=
  ⟨lenN_div n 32, lenN_div n 16, lenN_div n 8⟩
set_option maxRecDepth 10000 in
set_option maxHeartbeats 1000000 in
theorem len64_does (n : Nat) (hn : n < 18446744073709551616) (H : AHeap) : Does Tryz.prog 108 [du n] H (.ok (iA (lenN n))) H := by
  have s32 : ∀ n : Nat, shrI .u64 (n : Int) 32 = ((n / 4294967296 : Nat) : Int) := fun n => shrU n 32 (by decide)
  have s16 : ∀ n : Nat, shrI .u64 (n : Int) 16 = ((n / 65536 : Nat) : Int) := fun n => shrU n 16 (by decide)
  have s8 : ∀ n : Nat, shrI .u64 (n : Int) 8 = ((n / 256 : Nat) : Int) := fun n => shrU n 8 (by decide)
  have w48 : IntKind.i64.wrap 48 = 48 := rfl
  have w56 : IntKind.i64.wrap 56 = 56 := rfl
  have w40 : IntKind.i64.wrap 40 = 40 := rfl
  have w24 : IntKind.i64.wrap 24 = 24 := rfl
  have w16 : IntKind.i64.wrap 16 = 16 := rfl
  have w8 : IntKind.i64.wrap 8 = 8 := rfl
  have fin : ∀ (r : Int) (q m : Nat), r = (q : Int) → q ≤ 56 → m < 256 → IntKind.i64.wrap (r + IntKind.i64.wrap ((lenN m : Nat) : Int)) = ((q + lenN m : Nat) : Int) := fun r q m h0 hr hm => by
    have := (lenN_le m 8).2 hm
    rw [wrap64_in (lenN m : Int) (by omega) (by omega), wrap64_in _ (by omega) (by omega)]
    omega
  refine Does.of_awp (hint := (fun _ => false)) Tryz.func108 (by kernel_rfl) rfl [2] (by kernel_rfl) (by decide) (by simp [Tryz.ntmps108]) ?_
  rw [Tryz.ntmps108]
  simp (implicitDefEqProofs := false) only [↓reduceIte, go_sem, Nat.reduceLT, reduceCtorEq, eq_self]
  by_cases h : (4294967296 : Int) ≤ (n : Int)
  all_goals first
    | (have e1 := (len_small n).1 (by omega)
       simp (implicitDefEqProofs := false) only [↓reduceIte, go_sem, Nat.reduceLT, Int.reduceLE, reduceCtorEq, eq_self, h, s32]
       have hn1 : n / 4294967296 < 4294967296 := by omega
       generalize n / 4294967296 = n1 at e1 hn1 ⊢)
    | (simp (implicitDefEqProofs := false) only [↓reduceIte, go_sem, Nat.reduceLT, reduceCtorEq, eq_self, h]
       obtain ⟨n1, g1⟩ : ∃ n1, n1 = n := ⟨_, rfl⟩
       have hn1 : n1 < 4294967296 := by omega
       have e1 : lenN n = 0 + lenN n1 := by rw [g1]; omega
       rw [← g1])
  all_goals
    by_cases h2 : (65536 : Int) ≤ (n1 : Int)
    all_goals first
      | (have e2 := (len_small n1).2.1 (by omega)
         simp (implicitDefEqProofs := false) only [↓reduceIte, go_sem, Nat.reduceLT, Nat.reduceEqDiff, Int.reduceLE, Int.reduceAdd, reduceCtorEq, eq_self, h2, s16, w48]
         have hn2 : n1 / 65536 < 65536 := by omega
         generalize n1 / 65536 = n2 at e2 hn2 ⊢)
      | (simp (implicitDefEqProofs := false) only [↓reduceIte, go_sem, Nat.reduceLT, reduceCtorEq, eq_self, h2]
         obtain ⟨n2, g2⟩ : ∃ n2, n2 = n1 := ⟨_, rfl⟩
         have hn2 : n2 < 65536 := by omega
         have e2 : lenN n1 = 0 + lenN n2 := by rw [g2]; omega
         rw [← g2])
    all_goals
      by_cases h3 : (256 : Int) ≤ (n2 : Int)
      all_goals first
        | (have e3 := (len_small n2).2.2 (by omega)
           simp (implicitDefEqProofs := false) only [↓reduceIte, go_sem, Nat.reduceLT, Nat.reduceEqDiff, Int.reduceLE, Int.reduceAdd, reduceCtorEq, eq_self, h3, s8, w56, w40, w24, w16, w8]
           have hn3 : n2 / 256 < 256 := by omega
           generalize n2 / 256 = n3 at e3 hn3 ⊢)
        | (simp (implicitDefEqProofs := false) only [↓reduceIte, go_sem, Nat.reduceLT, Nat.reduceEqDiff, reduceCtorEq, eq_self, h3]
           obtain ⟨n3, g3⟩ : ∃ n3, n3 = n2 := ⟨_, rfl⟩
           have hn3 : n3 < 256 := by omega
           have e3 : lenN n2 = 0 + lenN n3 := by rw [g3]; omega
           rw [← g3])
      all_goals
        simp (implicitDefEqProofs := false) only [go_sem, wrap8N n3 hn3]
        rw [lenTab n3 hn3 _ (by kernel_rfl)]
        simp (implicitDefEqProofs := false) only [↓reduceIte, go_sem, Nat.reduceLT, Nat.reduceEqDiff, eq_self, ofNat_len hn3]
        refine AEnd.ret0 ?_
        have f0 := fin 0 0 n3 rfl (by decide) hn3
        have f8 := fin 8 8 n3 rfl (by decide) hn3
        have f16 := fin 16 16 n3 rfl (by decide) hn3
        have f24 := fin 24 24 n3 rfl (by decide) hn3
        have f32 := fin 32 32 n3 rfl (by decide) hn3
        have f40 := fin 40 40 n3 rfl (by decide) hn3
        have f48 := fin 48 48 n3 rfl (by decide) hn3
        have f56 := fin 56 56 n3 rfl (by decide) hn3
        simp (implicitDefEqProofs := false) only [↓reduceIte, go_sem, Nat.reduceLT, eq_self, w16, f0, f8, f16, f24, f32, f40, f48, f56]
        all_goals
          refine congrArg (fun m : Nat => iA m) ?_
          first | omega | (simp only [e1, e2, e3]; omega)
end Go.Proofs.YtmbagpfmfiegkaaGreat
namespace Go.Proofs.YtmbagpfmfiegkaaGreat
open Go.Proofs.YtmbagpfmfiegkaaGreatAw Go.RowKit
set_option linter.unusedVariables false
def us (l : List Nat) : List (List D) := l.map fun (n : Nat) => [.v (.int .u64 (n : Int))]
def bys (l : List Nat) : List (List D) := l.map fun (n : Nat) => [.v (.int .u8 (n : Int))]
theorem us_len (l : List Nat) : (us l).length = l.length := by simp [us]
theorem bys_len (l : List Nat) : (bys l).length = l.length := by simp [bys]
theorem us_nil : us [] = [] := rfl
theorem bys_nil : bys [] = [] := rfl
theorem us_get (l : List Nat) (k : Nat) (h : k < l.length) : (us l)[k]? = some [.v (.int .u64 (l[k] : Int))] := by simp [us, h]
theorem bys_get (l : List Nat) (k : Nat) (h : k < l.length) : (bys l)[k]? = some [.v (.int .u8 (l[k] : Int))] := by simp [bys, h]
theorem us_snoc (l : List Nat) (n : Nat) : us l ++ [[.v (.int .u64 (n : Int))]] = us (l ++ [n]) := by simp [us]
theorem bys_snoc (l : List Nat) (n : Nat) : bys l ++ [[.v (.int .u8 (n : Int))]] = bys (l ++ [n]) := by simp [bys]
theorem bys_app (l m : List Nat) : bys l ++ bys m = bys (l ++ m) := by simp [bys]
theorem bys_set (l : List Nat) (k n : Nat) : (bys l).set k [.v (.int .u8 (n : Int))] = bys (l.set k n) := by simp [bys, List.map_set]
theorem bys_one (l : List Nat) : (∀ c ∈ bys l, c.length = 1) = True := eq_true fun c hc => by obtain ⟨x, _, rfl⟩ := List.mem_map.1 hc; rfl
end Go.Proofs.YtmbagpfmfiegkaaGreat
namespace Go.Proofs.YtmbagpfmfiegkaaGreat
open Go.Proofs.YtmbagpfmfiegkaaGreatAw Go.RowKit
set_option linter.unusedVariables false
set_option linter.unusedSimpArgs false
def widthP (l : List Nat) : Nat := lenN (l.foldl (· ||| ·) 0)
theorem foldOr_lt {l : List Nat} (h : ∀ n ∈ l, n < 18446744073709551616) : ∀ {a : Nat}, a < 18446744073709551616 → l.foldl (· ||| ·) a < 18446744073709551616 := by
  induction l with
  | nil => exact fun h => h
  | cons x l ih => exact fun {a} ha => ih (fun n hn => h n (by simp [hn])) (Nat.or_lt_two_pow (n := 64) ha (h x (by simp)))
set_option maxRecDepth 10000 in
set_option maxHeartbeats 1000000 in
theorem width_does (l : List Nat) (nn : Bool) (H : AHeap) (hl : l.length ≤ 9223372036854775807) (hu : ∀ n ∈ l, n < 18446744073709551616) : Does Tryz.prog 125 [.d (.list nn (us l))] H (.ok (iA (widthP l))) H := by
  refine Does.of_awp (hint := (fun _ => false)) Tryz.func125 (by kernel_rfl) rfl [2] (by kernel_rfl) (by decide) (by simp [Tryz.ntmps125]) ?_
  rw [Tryz.ntmps125]
  simp (implicitDefEqProofs := false) only [↓reduceIte, go_sem, Nat.reduceLT, reduceCtorEq, eq_self, us_len]
  refine awp_for (fun k s H' => H' = H ∧ s 3 = du ((l.take k).foldl (· ||| ·) 0) ∧ s 6 = .d (.list nn (us l)) ∧ s 7 = iA l.length ∧ s 8 = iA k) l.length hl (Weak.refl _ _) ?_ ?_ ?_
  · refine ⟨rfl, ?_⟩
    simp (implicitDefEqProofs := false) only [↓reduceIte, go_sem, Nat.reduceLT, Nat.reduceEqDiff, eq_self, List.take_zero, List.foldl_nil]
    rfl
  · rintro k s H' hk hw ⟨rfl, t3, t6, t7, t8⟩
    have hx := us_get l k hk
    have e1 := List.take_succ_eq_append_getElem hk
    have hb : (l.take k).foldl (· ||| ·) 0 < 18446744073709551616 := foldOr_lt (fun n hn => hu n (List.mem_of_mem_take hn)) (by decide)
    have hc := hu _ (List.getElem_mem hk)
    have e2 : (l.take (k + 1)).foldl (· ||| ·) 0 = (l.take k).foldl (· ||| ·) 0 ||| l[k] := by rw [e1, List.foldl_append]; rfl
    generalize l[k] = x at hx hc e2
    generalize (l.take k).foldl (· ||| ·) 0 = A at *
    have hor := orI_nat .u64 A x hb hc
    have hd : A ||| x < 18446744073709551616 := Nat.or_lt_two_pow (n := 64) hb hc
    simp (implicitDefEqProofs := false) only [↓reduceIte, go_sem, Nat.reduceLT, Nat.reduceEqDiff, eq_self, t3, t6, t7, t8, hk, hx, hor, wrapU64N _ hd]
    refine Rnd.same ⟨rfl, ?_⟩
    simp (implicitDefEqProofs := false) only [↓reduceIte, go_sem, Nat.reduceLT, Nat.reduceEqDiff, eq_self, t6, t7, hw, e2]
  · rintro s H' ⟨rfl, t3, t6, t7, t8⟩
    simp (implicitDefEqProofs := false) only [↓reduceIte, go_sem, Nat.reduceLT, Nat.reduceEqDiff, eq_self, t3, t7, t8]
    rw [List.take_length]
    refine KCall.ok (len64_does _ (foldOr_lt hu (by decide)) _) ?_
    simp (implicitDefEqProofs := false) only [↓reduceIte, go_sem, Nat.reduceLT, eq_self]
    refine AEnd.ret0 ?_
    simp (implicitDefEqProofs := false) only [↓reduceIte, go_sem, Nat.reduceLT, eq_self, widthP]
def putP (n : Nat) : List Nat := if h : n < 128 then [n] else (n % 128 + 128) :: putP (n / 128)
termination_by n
theorem putP_small {n : Nat} (h : n < 128) : putP n = [n] := by rw [putP]; simp [h]
theorem putP_big {n : Nat} (h : ¬ n < 128) : putP n = (n % 128 + 128) :: putP (n / 128) := by rw [putP]; simp [h]
theorem or128 : ∀ m, m < 256 → m ||| 128 = m % 128 + 128 := by decide +kernel
theorem putByte (n : Nat) : IntKind.u8.wrap (orI .u8 ((n % 256 : Nat) : Int) 128) = ((n % 128 + 128 : Nat) : Int) := by
  have := orI_nat .u8 (n % 256) 128 (Nat.mod_lt _ (by decide)) (by decide)
  rw [show ((128 : Nat) : Int) = 128 from rfl] at this
  rw [this, or128 _ (Nat.mod_lt _ (by decide))]
  rw [show n % 256 % 128 = n % 128 from Nat.mod_mod_of_dvd n (by decide)]
  exact wrapu8_in _ (by omega) (by omega)
set_option maxRecDepth 10000 in
set_option maxHeartbeats 1000000 in
theorem putOwn_does (n0 : Nat) (hn : n0 < 18446744073709551616) (H : AHeap) : Does Tryz.prog 49 [du n0] H (.ok (.sl H.length (putP n0).length 0 (putP n0).length)) (H ++ [.arr 5 1 (putP n0).length (bys (putP n0))]) := by
  have s7 : ∀ n : Nat, shrI .u64 (n : Int) 7 = ((n / 128 : Nat) : Int) := fun n => shrU n 7 (by decide)
  refine Does.of_awp (hint := (fun _ => false)) Tryz.func49 (by kernel_rfl) rfl [2] (by kernel_rfl) (by decide) (by simp [Tryz.ntmps49]) ?_
  rw [Tryz.ntmps49]
  simp (implicitDefEqProofs := false) only [go_sem]
  refine awp_loop _ _ _ _ (fun (x : Nat × List Nat) s H' => H' = H ++ [.arr 5 1 x.2.length (bys x.2)] ∧ x.1 * 128 ^ x.2.length ≤ n0 ∧ (x.2.length = 0 ∨ 0 < x.1) ∧ putP n0 = x.2 ++ putP x.1 ∧ s 0 = du x.1 ∧ s 3 = .sl H.length x.2.length 0 x.2.length) (fun x => x.1) (n0, []) (Weak.virt1 _ _ 3 5 1 (by decide) (by simp (implicitDefEqProofs := false) only [↓reduceIte, go_sem, Nat.reduceLT, eq_self]) _) ?_ ?_
  · refine ⟨?_, by simp, .inl rfl, by simp, ?_⟩
    · simp (implicitDefEqProofs := false) only [go_sem, eq_self, bys_nil, List.length_nil]
    · simp (implicitDefEqProofs := false) only [↓reduceIte, go_sem, reduceCtorEq, eq_self, List.length_nil]
  · rintro ⟨n, bs⟩ s H' ⟨rfl, h1, h3, h2, t0, t3⟩
    simp only at h1 h2 h3 t0 t3
    have hb : bs.length < 10 := by
      rcases Nat.lt_or_ge bs.length 10 with h | h
      · exact h
      · exfalso
        have h4 : 128 ^ 10 ≤ 128 ^ bs.length := Nat.pow_le_pow_right (by decide) h
        have h5 : 1 * 128 ^ bs.length ≤ n * 128 ^ bs.length := Nat.mul_le_mul_right _ (by omega)
        omega
    have hnn : n ≤ n0 := Nat.le_trans (Nat.le_mul_of_pos_right _ (Nat.pow_pos (by decide))) h1
    by_cases hlt : (128 : Int) ≤ (n : Int)
    · have hpb := putByte n
      have hp2 := putP_big (n := n) (by omega)
      generalize n % 128 + 128 = m at hpb hp2
      simp (implicitDefEqProofs := false) only [↓reduceIte, go_sem, Nat.reduceLT, Nat.reduceLeDiff, Nat.reduceEqDiff, Int.reduceLE, reduceCtorEq, eq_self, t0, t3, hlt, wrapU8mod, hpb, bys_len, bys_snoc, s7]
      refine ⟨by omega, by omega, _, _, (n / 128, bs ++ [m]), .refl _ _, ⟨?_, ?_, .inr (by simp only; omega), ?_, ?_⟩, by simp only; omega⟩
      · simp (implicitDefEqProofs := false) only [go_sem, eq_self, List.length_append]
      · simp only [List.length_append, List.length_singleton, Nat.pow_succ]
        have : n / 128 * (128 ^ bs.length * 128) = (n / 128 * 128) * 128 ^ bs.length := by rw [Nat.mul_comm (128 ^ _), ← Nat.mul_assoc]
        rw [this]
        exact Nat.le_trans (Nat.mul_le_mul_right _ (Nat.div_mul_le_self n 128)) h1
      · rw [h2, hp2]; simp
      · simp (implicitDefEqProofs := false) only [↓reduceIte, go_sem, Nat.reduceLT, Nat.reduceEqDiff, reduceCtorEq, eq_self, List.length_append]
    · have hm : n % 256 = n := by omega
      simp (implicitDefEqProofs := false) only [↓reduceIte, go_sem, Nat.reduceLT, Nat.reduceLeDiff, Nat.reduceEqDiff, reduceCtorEq, eq_self, t0, t3, hlt, wrapU8mod, bys_len, hm, bys_snoc]
      have : putP n0 = bs ++ [n] := by rw [h2, putP_small (by omega)]
      rw [this, List.length_append, List.length_singleton]
      exact ⟨by omega, by omega, _, Weak.refl _ _, by simp (implicitDefEqProofs := false) only [↓reduceIte, go_sem, Nat.reduceLT, eq_self]⟩
theorem put_does (n0 : Nat) (hn : n0 < 18446744073709551616) (H : AHeap) : Does Tryz.prog 49 [du n0] H (.ok (.d (.list false (bys (putP n0))))) H := (putOwn_does n0 hn H).list (bys_len _)
end Go.Proofs.YtmbagpfmfiegkaaGreat
namespace Go.Proofs.YtmbagpfmfiegkaaGreat
open Go.Proofs.YtmbagpfmfiegkaaGreatAw Go.RowKit
set_option linter.unusedVariables false
set_option linter.unusedSimpArgs false
def byteOf : List Bool → Nat
  | [] => 0
  | b :: r => b.toNat + 2 * byteOf r
theorem byteOf_lt : ∀ l : List Bool, byteOf l < 2 ^ l.length
  | [] => by simp [byteOf]
  | b :: r => by
    have := byteOf_lt r
    simp only [byteOf, List.length_cons, Nat.pow_succ]
    cases b <;> simp <;> omega
theorem byteOf_snoc : ∀ (l : List Bool) (b : Bool), byteOf (l ++ [b]) = byteOf l + b.toNat * 2 ^ l.length
  | [], b => by simp [byteOf]
  | c :: r, b => by
    simp only [List.cons_append, byteOf, byteOf_snoc r b, List.length_cons, Nat.pow_succ]
    rw [Nat.mul_add, ← Nat.mul_assoc 2, Nat.mul_comm 2 b.toNat, Nat.mul_assoc b.toNat, Nat.mul_comm 2 (2 ^ _)]
    omega
def byteAt (l : List Bool) (i : Nat) : Nat := byteOf ((l.drop (8 * i)).take 8)
def packB (l : List Bool) : List Nat := (List.range ((l.length + 7) / 8)).map (byteAt l)
theorem packB_len (l : List Bool) : (packB l).length = (l.length + 7) / 8 := by simp [packB]
/-- Ready for one bit more. -/
def packR (l : List Bool) : List Nat := (List.range (l.length / 8 + 1)).map (byteAt l)
theorem packR_len (l : List Bool) : (packR l).length = l.length / 8 + 1 := by simp [packR]
theorem packR_full {l : List Bool} (h : l.length % 8 = 0) : packR l = packB l ++ [0] := by
  unfold packR packB
  rw [show (l.length + 7) / 8 = l.length / 8 by omega, List.range_succ, List.map_append]
  congr 1
  simp only [List.map_cons, List.map_nil, byteAt]
  rw [List.drop_of_length_le (by omega)]
  rfl
theorem packR_part {l : List Bool} (h : ¬ l.length % 8 = 0) : packR l = packB l := by
  unfold packR packB
  rw [show (l.length + 7) / 8 = l.length / 8 + 1 by omega]
theorem byteAt_lt (l : List Bool) (i : Nat) : byteAt l i < 256 := by
  have h1 := byteOf_lt ((l.drop (8 * i)).take 8)
  have h2 : ((l.drop (8 * i)).take 8).length ≤ 8 := by simp; omega
  have : 2 ^ ((l.drop (8 * i)).take 8).length ≤ 2 ^ 8 := Nat.pow_le_pow_right (by decide) h2
  unfold byteAt; omega
theorem packR_get (l : List Bool) : (packR l)[l.length / 8]? = some (byteAt l (l.length / 8)) := by simp [packR]
theorem byteAt_last (l : List Bool) : byteAt l (l.length / 8) = byteOf (l.drop (8 * (l.length / 8))) := by
  unfold byteAt
  rw [List.take_of_length_le (by simp; omega)]
theorem byteAt_last_lt (l : List Bool) : byteAt l (l.length / 8) < 2 ^ (l.length % 8) := by
  rw [byteAt_last]
  have := byteOf_lt (l.drop (8 * (l.length / 8)))
  rwa [List.length_drop, show l.length - 8 * (l.length / 8) = l.length % 8 by omega] at this
theorem packB_snoc (l : List Bool) (b : Bool) : packB (l ++ [b]) = (packR l).set (l.length / 8) (byteAt l (l.length / 8) + b.toNat * 2 ^ (l.length % 8)) := by
  apply List.ext_getElem?
  intro i
  rw [List.getElem?_set]
  unfold packB packR
  simp only [List.getElem?_map, List.length_append, List.length_singleton, List.length_map, List.length_range]
  rw [show (l.length + 1 + 7) / 8 = l.length / 8 + 1 by omega]
  by_cases h : l.length / 8 = i
  · subst h
    rw [if_pos rfl, if_pos (by omega), List.getElem?_range (by omega)]
    simp only [Option.map_some]
    congr 1
    rw [byteAt_last]
    unfold byteAt
    rw [List.drop_append_of_le_length (by omega), List.take_of_length_le (by simp; omega), byteOf_snoc, List.length_drop, show l.length - 8 * (l.length / 8) = l.length % 8 by omega]
  · rw [if_neg h]
    by_cases hi : i < l.length / 8 + 1
    · rw [List.getElem?_range hi]
      simp only [Option.map_some]
      congr 1
      unfold byteAt
      rw [List.drop_append_of_le_length (by omega), List.take_append_of_le_length (by simp; omega)]
    · rw [List.getElem?_eq_none (by simpa using hi)]
      rfl
def bitsN (n w : Nat) : List Bool := (List.range w).map fun i => n.testBit i
theorem bitsN_len (n w : Nat) : (bitsN n w).length = w := by simp [bitsN]
theorem bitsN_succ (n w : Nat) : bitsN n (w + 1) = bitsN n w ++ [n.testBit w] := by simp [bitsN, List.range_succ]
def wH (G : AHeap) (l : List Bool) : AHeap := G ++ [.box 125 2 0 1 [.sl (G.length + 1) (packB l).length 0 (packB l).length, iA l.length], .arr 5 1 (packB l).length (bys (packB l))]
theorem bit_eq (n i : Nat) (hn : n < 18446744073709551616) (hi : i ≤ 64) : IntKind.u8.wrap (IntKind.u64.wrap (andI .u64 (shrI .u64 (n : Int) (i : Int)) 1)) = (((n.testBit i).toNat : Nat) : Int) := by
  rw [shrU n i hi]
  have h1 : n / 2 ^ i < 18446744073709551616 := Nat.lt_of_le_of_lt (Nat.div_le_self _ _) hn
  have := andI_nat .u64 (n / 2 ^ i) 1 h1 (by decide)
  rw [show ((1 : Nat) : Int) = 1 from rfl] at this
  rw [this, Nat.and_one_is_mod, wrapU64N _ (by omega), wrap8N _ (by omega), Nat.testBit_eq_decide_div_mod_eq]
  rcases Nat.mod_two_eq_zero_or_one (n / 2 ^ i) with h | h <;> rw [h] <;> rfl
theorem shlB (b : Bool) (j : Nat) (hj : j < 8) : IntKind.u8.wrap (shlI .u8 ((b.toNat : Nat) : Int) (j : Int)) = ((b.toNat * 2 ^ j : Nat) : Int) := by
  have h1 : min j 8 = j := by omega
  have h2 : 2 ^ j ≤ 2 ^ 7 := Nat.pow_le_pow_right (by decide) (by omega)
  have h3 : shlI .u8 ((b.toNat : Nat) : Int) (j : Int) = ((b.toNat * 2 ^ j : Nat) : Int) := by
    simp only [shlI, IntKind.bits, Int.toNat_natCast, h1]
    norm_cast
  rw [h3]
  refine wrap8N _ ?_
  cases b
  · simp
  · simp; omega
theorem orB (x : Nat) (b : Bool) (j : Nat) (hj : j < 8) (hx : x < 2 ^ j) : IntKind.u8.wrap (orI .u8 (x : Int) ((b.toNat * 2 ^ j : Nat) : Int)) = ((x + b.toNat * 2 ^ j : Nat) : Int) := by
  have h2 : 2 ^ j ≤ 2 ^ 7 := Nat.pow_le_pow_right (by decide) (by omega)
  have h3 : b.toNat * 2 ^ j ≤ 2 ^ j := by cases b <;> simp
  rw [orI_nat .u8 x (b.toNat * 2 ^ j) (by simp [IntKind.bits]; omega) (by simp [IntKind.bits]; omega)]
  have h4 : x ||| b.toNat * 2 ^ j = x + b.toNat * 2 ^ j := by
    rw [Nat.or_comm, Nat.mul_comm, ← Nat.two_pow_add_eq_or_of_lt hx]
    omega
  rw [h4]
  exact wrap8N _ (by omega)
theorem modI (n : Nat) : Int.tmod (n : Int) 8 = ((n % 8 : Nat) : Int) := by rw [Int.tmod_eq_emod_of_nonneg (by omega)]; rfl
theorem divI (n : Nat) : Int.tdiv (n : Int) 8 = ((n / 8 : Nat) : Int) := by rw [Int.tdiv_eq_ediv_of_nonneg (by omega)]; rfl
set_option maxRecDepth 10000 in
set_option maxHeartbeats 1000000 in
theorem wput_does (n w : Nat) (hw : w ≤ 64) (hn : n < 2 ^ w) (G : AHeap) (l0 : List Bool) (hl : l0.length ≤ 100000000) : Does Tryz.prog 67 [.ptr G.length 0 0 0, du n, iA w] (wH G l0) (.ok (iA 0)) (wH G (l0 ++ bitsN n w)) := by
  have hn64 : n < 18446744073709551616 := Nat.lt_of_lt_of_le hn (Nat.pow_le_pow_right (by decide) hw)
  have hlen := (lenN_le n w).2 hn
  generalize hE : wH G (l0 ++ bitsN n w) = E
  refine Does.of_awp (hint := (fun _ => false)) Tryz.func67 (by kernel_rfl) rfl [6] (by kernel_rfl) (by decide) (by simp [Tryz.ntmps67]) ?_
  rw [Tryz.ntmps67]
  simp (implicitDefEqProofs := false) only [↓reduceIte, go_sem, Nat.reduceLT, Nat.reduceEqDiff, reduceCtorEq, eq_self, wH, show ((w : Int) < 0) = False from eq_false (by omega), show ((64 : Int) < (w : Int)) = False from eq_false (by omega)]
  refine KCall.ok (len64_does n hn64 _) ?_
  simp (implicitDefEqProofs := false) only [↓reduceIte, go_sem, Nat.reduceLT, Nat.reduceEqDiff, reduceCtorEq, eq_self, show (((w : Nat) : Int) < ((lenN n : Nat) : Int)) = False from eq_false (by omega)]
  refine awp_for (fun k s H' => H' = wH G (l0 ++ bitsN n k) ∧ s 0 = .ptr G.length 0 0 0 ∧ s 1 = du n ∧ s 24 = iA w ∧ s 25 = iA k) w (by omega) (Weak.refl _ _) ?_ ?_ ?_
  · refine ⟨by simp [bitsN, wH], ?_⟩
    simp (implicitDefEqProofs := false) only [↓reduceIte, go_sem, Nat.reduceLT, Nat.reduceEqDiff, reduceCtorEq, eq_self]
  · rintro k s H' hk hw2 ⟨rfl, t0, t1, t24, t25⟩
    have hs := bitsN_succ n k
    have hL : (l0 ++ bitsN n k).length = l0.length + k := by rw [List.length_append, bitsN_len]
    have hb := bit_eq n k hn64 (by omega)
    have hap : l0 ++ bitsN n (k + 1) = (l0 ++ bitsN n k) ++ [n.testBit k] := by rw [hs, List.append_assoc]
    rw [hap]
    generalize n.testBit k = c at hb
    generalize l0 ++ bitsN n k = l at hL ⊢
    have hsn := packB_snoc l c
    have hget := packR_get l
    have hblt := byteAt_last_lt l
    have hb8 := byteAt_lt l (l.length / 8)
    generalize byteAt l (l.length / 8) = x at hsn hget hblt hb8
    have hRl := packR_len l
    have hBl := packB_len l
    have hBl2 := packB_len (l ++ [c])
    rw [List.length_append, List.length_singleton] at hBl2
    have hm8 : l.length % 8 < 8 := Nat.mod_lt _ (by decide)
    have e1 := shlB c _ hm8
    have e2 := orB x c _ hm8 hblt
    have hRget : (bys (packR l))[l.length / 8]? = some [.v (.int .u8 (x : Int))] := by simp [bys, hget]
    have hRset : (bys (packR l)).set (l.length / 8) [.v (.int .u8 ((x + c.toNat * 2 ^ (l.length % 8) : Nat) : Int))] = bys (packB (l ++ [c])) := by rw [bys_set, hsn]
    have hRB : (packR l).length = (packB (l ++ [c])).length := by omega
    have hdlt : l.length / 8 < (packR l).length := by omega
    have hfin : G ++ [.box 125 2 0 1 [.sl (G.length + 1) (packR l).length 0 (packR l).length, iA ((l.length : Int) + 1)], .arr 5 1 (packR l).length (bys (packB (l ++ [c])))] = wH G (l ++ [c]) := by
      unfold wH
      rw [hRB, List.length_append, List.length_singleton]
      rfl
    have hw3 : IntKind.i64.wrap ((l.length : Int) + 1) = (l.length : Int) + 1 := wrap64_in _ (by omega) (by omega)
    have hwq : IntKind.i64.wrap ((l.length / 8 : Nat) : Int) = ((l.length / 8 : Nat) : Int) := wrapI _ (by omega)
    have hwk : IntKind.u64.wrap ((k : Nat) : Int) = ((k : Nat) : Int) := wrapU64N _ (by omega)
    have hwm : IntKind.u64.wrap ((l.length % 8 : Nat) : Int) = ((l.length % 8 : Nat) : Int) := wrapU64N _ (by omega)
    generalize c.toNat * 2 ^ (l.length % 8) = y at *
    generalize x + y = z at *
    by_cases h8 : l.length % 8 = 0
    · have hR0 : bys (packB l) ++ [[.v (.int .u8 0)]] = bys (packR l) := by rw [packR_full h8]; exact bys_snoc _ 0
      have hR1 : (packB l).length + 1 = (packR l).length := by rw [packR_full h8]; simp
      simp (implicitDefEqProofs := false) only [↓reduceIte, go_sem, oread, owrite, Nat.reduceAdd, Nat.reduceLT, Nat.reduceLeDiff, Nat.reduceEqDiff, Int.reduceEq, reduceCtorEq, eq_self, wH, t0, t24, t25, hk, modI, h8, bys_len, hR0, hR1]
      refine ⟨by omega, by omega, ?_⟩
      refine awp_drawK 25 K.mixed (by kernel_rfl) (by kernel_rfl) ?_
      simp (implicitDefEqProofs := false) only [↓reduceIte, go_sem, oread, owrite, Nat.reduceAdd, Nat.reduceLT, Nat.reduceLeDiff, Nat.reduceEqDiff, Int.reduceEq, reduceCtorEq, eq_self, t0, t1, t25, divI, modI, hwq, hwk, hwm, hRget, hdlt, hb, e1, e2]
      refine Rnd.same ⟨?_, ?_⟩
      · simp (implicitDefEqProofs := false) only [go_sem, eq_self, hRset, hw3, hfin]
      · simp (implicitDefEqProofs := false) only [↓reduceIte, go_sem, Nat.reduceLT, Nat.reduceEqDiff, reduceCtorEq, eq_self, t0, t1, t24, hw2]
    · have h8' : (((l.length % 8 : Nat) : Int) = 0) = False := eq_false (by omega)
      rw [packR_part h8] at *
      simp (implicitDefEqProofs := false) only [↓reduceIte, go_sem, oread, Nat.reduceAdd, Nat.reduceLT, Nat.reduceEqDiff, Int.reduceEq, reduceCtorEq, eq_self, wH, t0, t24, t25, hk, modI, h8']
      refine awp_drawK 25 K.mixed (by kernel_rfl) (by kernel_rfl) ?_
      simp (implicitDefEqProofs := false) only [↓reduceIte, go_sem, oread, owrite, Nat.reduceAdd, Nat.reduceLT, Nat.reduceLeDiff, Nat.reduceEqDiff, Int.reduceEq, reduceCtorEq, eq_self, t0, t1, t25, divI, modI, hwq, hwk, hwm, hRget, hdlt, hb, e1, e2]
      refine Rnd.same ⟨?_, ?_⟩
      · simp (implicitDefEqProofs := false) only [go_sem, eq_self, hRset, hw3, hfin]
      · simp (implicitDefEqProofs := false) only [↓reduceIte, go_sem, Nat.reduceLT, Nat.reduceEqDiff, reduceCtorEq, eq_self, t0, t1, t24, hw2]
  · rintro s H' ⟨rfl, t0, t1, t24, t25⟩
    simp (implicitDefEqProofs := false) only [↓reduceIte, go_sem, Nat.reduceLT, eq_self, t24, t25]
    rw [hE]
    exact ⟨_, Weak.refl _ _, by simp (implicitDefEqProofs := false) only [↓reduceIte, go_sem, Nat.reduceLT, eq_self]⟩
set_option maxRecDepth 10000 in
theorem wbytes_does (G : AHeap) (l : List Bool) (hl : l.length ≤ 100000000) : Does Tryz.prog 68 [.ptr G.length 0 0 0] (wH G l) (.ok (.d (.list false (bys (packB l))))) (wH G l) := by
  have := packB_len l
  generalize hE : wH G l = E
  have hE2 := hE
  rw [wH] at hE2
  refine Does.of_awp (hint := (fun _ => false)) Tryz.func68 (by kernel_rfl) rfl [2] (by kernel_rfl) (by decide) (by simp [Tryz.ntmps68]) ?_
  rw [Tryz.ntmps68]
  rw [← hE]
  simp (implicitDefEqProofs := false) only [↓reduceIte, go_sem, oread, Nat.reduceAdd, Nat.reduceLT, Nat.reduceLeDiff, Nat.reduceEqDiff, reduceCtorEq, eq_self, wH, show (bys (packB l)).take (packB l).length = bys (packB l) from take_len _ _ (bys_len _), bys_one, bys_len]
  refine ⟨by omega, by omega, AEnd.ret' (T := [.arr 5 1 1 (bys (packB l))]) (by simp) ?_⟩
  simp (implicitDefEqProofs := false) only [↓reduceIte, go_sem, Nat.reduceAdd, Nat.reduceLT, eq_self, show (bys (packB l)).take (packB l).length = bys (packB l) from take_len _ _ (bys_len _)]
def bitsL (l : List Nat) (w : Nat) : List Bool := l.flatMap fun n => bitsN n w
def packP (l : List Nat) (w : Nat) : List Nat := packB (bitsL l w)
theorem bitsL_snoc (l : List Nat) (n w : Nat) : bitsL (l ++ [n]) w = bitsL l w ++ bitsN n w := by simp [bitsL]
theorem bitsL_len (l : List Nat) (w : Nat) : (bitsL l w).length = l.length * w := by
  induction l with
  | nil => simp [bitsL]
  | cons x l ih =>
    have : bitsL (x :: l) w = bitsN x w ++ bitsL l w := rfl
    rw [this, List.length_append, ih, bitsN_len, List.length_cons, Nat.add_mul]; omega
set_option maxRecDepth 10000 in
set_option maxHeartbeats 1000000 in
theorem pack_does (l : List Nat) (w : Nat) (hw : w ≤ 64) (hn : ∀ n ∈ l, n < 2 ^ w) (hl : l.length ≤ 1000000) (nn : Bool) (H : AHeap) :
    Does Tryz.prog 121 [.d (.list nn (us l)), iA w] H (.ok (.tup [.d (.list false (bys (packP l w))), iA 0])) H := by
  have z0 : wH H [] = H ++ [.box 125 2 0 1 [.sl (H.length + 1) 0 0 0, iA 0], .arr 5 1 0 []] := rfl
  have h0 : 0 < 2 ^ w := Nat.two_pow_pos w
  have hbl := bitsL_len l w
  have hbig : l.length * w ≤ 1000000 * 64 := Nat.mul_le_mul hl hw
  refine Does.of_awp (hint := (fun t => t == 1000002 || t == 1000005 || t == 1000006)) Tryz.func121 (by kernel_rfl) rfl [4, 5] (by kernel_rfl) (by decide) (by simp [Tryz.ntmps121]) ?_
  rw [Tryz.ntmps121]
  simp (implicitDefEqProofs := false) only [↓reduceIte, go_sem, Nat.reduceAdd, Nat.reduceLT, Nat.reduceEqDiff, Nat.reduceBEq, eq_self]
  refine ⟨_, _, Weak.virtBox _ _ H.length 125 2 0 1 [.d (.v (.slice none 0 0)), iA 0] 0 _ 5 1 (by decide) (by simp) rfl rfl, ?_⟩
  simp (implicitDefEqProofs := false) only [↓reduceIte, go_sem, Nat.reduceLT, Nat.reduceEqDiff, eq_self]
  rw [← z0]
  refine KCall.ok (wput_does 0 w hw h0 H [] (by simp)) ?_
  simp (implicitDefEqProofs := false) only [↓reduceIte, go_sem, Nat.reduceAdd, Nat.reduceLT, Nat.reduceEqDiff, Nat.reduceBEq, eq_self]
  refine ⟨_, _, (by unfold wH; exact Weak.drop H _ _), ?_⟩
  simp (implicitDefEqProofs := false) only [↓reduceIte, go_sem, Nat.reduceLT]
  refine ⟨_, _, Weak.virtBox _ _ H.length 125 2 0 1 [.d (.v (.slice none 0 0)), iA 0] 0 _ 5 1 (by decide) (by simp) rfl rfl, ?_⟩
  simp (implicitDefEqProofs := false) only [↓reduceIte, go_sem, reduceCtorEq, us_len]
  rw [← z0]
  refine awp_for (fun k s H' => H' = wH H (bitsL (l.take k) w) ∧ s 1 = iA w ∧ s 6 = .ptr H.length 0 0 0 ∧ s 21 = .d (.list nn (us l)) ∧ s 22 = iA l.length ∧ s 23 = iA k) l.length (by omega) (Weak.refl _ _) ?_ ?_ ?_
  · refine ⟨by simp [bitsL], ?_⟩
    simp (implicitDefEqProofs := false) only [↓reduceIte, go_sem, Nat.reduceLT, Nat.reduceEqDiff, reduceCtorEq, eq_self]
  · rintro k s H' hk hw2 ⟨rfl, t1, t6, t21, t22, t23⟩
    have hx := us_get l k hk
    have e1 := List.take_succ_eq_append_getElem hk
    have hc := hn _ (List.getElem_mem hk)
    have e2 : bitsL (l.take (k + 1)) w = bitsL (l.take k) w ++ bitsN l[k] w := by rw [e1, bitsL_snoc]
    have e3 := bitsL_len (l.take k) w
    have e4 : (l.take k).length * w ≤ 1000000 * 64 := Nat.mul_le_mul (by simp; omega) hw
    generalize l[k] = x at hx hc e2
    simp (implicitDefEqProofs := false) only [↓reduceIte, go_sem, Nat.reduceAdd, Nat.reduceLT, Nat.reduceEqDiff, Nat.reduceBEq, eq_self, t1, t6, t21, t22, t23, hk, hx]
    refine KCall.ok (wput_does x w hw hc H _ (by omega)) ?_
    simp (implicitDefEqProofs := false) only [↓reduceIte, go_sem, Nat.reduceAdd, Nat.reduceLT, Nat.reduceEqDiff, Nat.reduceBEq, eq_self, t23]
    refine Rnd.same ⟨by rw [e2], ?_⟩
    simp (implicitDefEqProofs := false) only [↓reduceIte, go_sem, Nat.reduceLT, Nat.reduceEqDiff, eq_self, t1, t6, t21, t22, hw2]
  · rintro s H' ⟨rfl, t1, t6, t21, t22, t23⟩
    rw [List.take_length]
    simp (implicitDefEqProofs := false) only [↓reduceIte, go_sem, Nat.reduceAdd, Nat.reduceLT, Nat.reduceEqDiff, Nat.reduceBEq, eq_self, t6, t22, t23]
    refine KCall.ok (wbytes_does H (bitsL l w) (by omega)) ?_
    simp (implicitDefEqProofs := false) only [↓reduceIte, go_sem, Nat.reduceLT, eq_self]
    unfold wH
    refine AEnd.ret ?_
    simp (implicitDefEqProofs := false) only [↓reduceIte, go_sem, Nat.reduceLT, Nat.reduceEqDiff, eq_self, packP]
end Go.Proofs.YtmbagpfmfiegkaaGreat
namespace Go.Proofs.YtmbagpfmfiegkaaGreat
open Go.Proofs.YtmbagpfmfiegkaaGreatAw Go.RowKit
set_option linter.unusedVariables false
set_option linter.unusedSimpArgs false
theorem zigP_lt {n : Int} (h1 : -9223372036854775808 ≤ n) (h2 : n ≤ 9223372036854775807) : zigP n < 18446744073709551616 := by unfold zigP; split <;> omega
theorem wrap64_rng (n : Int) : -9223372036854775808 ≤ IntKind.i64.wrap n ∧ IntKind.i64.wrap n ≤ 9223372036854775807 := by
  have h1 := Int.emod_nonneg n (show (18446744073709551616 : Int) ≠ 0 by decide)
  have h2 := Int.emod_lt_of_pos n (show (0 : Int) < 18446744073709551616 by decide)
  simp only [IntKind.wrap, IntKind.signed, IntKind.bits]
  simp only [show ((2 : Int) ^ 64) = 18446744073709551616 from rfl, show ((2 : Int) ^ (64 - 1)) = 9223372036854775808 from rfl]
  generalize n % 18446744073709551616 = m at *
  by_cases h : m ≥ 9223372036854775808 <;> simp [h] <;> omega
end Go.Proofs.YtmbagpfmfiegkaaGreat
namespace Go.Proofs.YtmbagpfmfiegkaaGreat
open Go.Proofs.YtmbagpfmfiegkaaGreatAw Go.RowKit
set_option linter.unusedVariables false
set_option linter.unusedSimpArgs false
theorem foldOr_le {l : List Nat} : ∀ {a : Nat}, a ≤ l.foldl (· ||| ·) a ∧ ∀ n ∈ l, n ≤ l.foldl (· ||| ·) a := by
  induction l with
  | nil => intro a; exact ⟨Nat.le_refl _, fun n hn => by simp at hn⟩
  | cons x l ih =>
    intro a
    simp only [List.foldl_cons]
    have h := ih (a := a ||| x)
    refine ⟨Nat.le_trans Nat.left_le_or h.1, fun n hn => ?_⟩
    rcases List.mem_cons.1 hn with rfl | hn
    · exact Nat.le_trans Nat.right_le_or h.1
    · exact h.2 n hn
theorem widthP_fits {l : List Nat} : ∀ n ∈ l, n < 2 ^ widthP l := fun n hn => Nat.lt_of_le_of_lt (foldOr_le.2 n hn) ((lenN_le _ _).1 (Nat.le_refl _))
theorem widthP_le {l : List Nat} (h : ∀ n ∈ l, n < 18446744073709551616) : widthP l ≤ 64 := lenN_le64 (foldOr_lt h (by decide))
theorem putP_len : ∀ (k n : Nat), n < 128 ^ k → (putP n).length ≤ k + 1 := by
  intro k
  induction k with
  | zero => intro n hn; rw [putP_small (by omega)]; simp
  | succ k ih =>
    intro n hn
    by_cases h : n < 128
    · rw [putP_small h]; simp
    · rw [putP_big h, List.length_cons]
      have := ih (n / 128) (by rw [Nat.div_lt_iff_lt_mul (by decide)]; exact hn)
      omega
theorem plainP_len {l : List Val} {k : Int} (h : plainP l k = 0) : l.length ≤ 4096 := by
  unfold plainP at h
  by_cases h1 : 4096 < l.length
  · rw [if_pos h1] at h
    split at h <;> omega
  · omega
end Go.Proofs.YtmbagpfmfiegkaaGreat
namespace Go.Proofs.YtmbagpfmfiegkaaGreat
open Go.Proofs.YtmbagpfmfiegkaaGreatAw Go.RowKit
set_option linter.unusedVariables false
set_option linter.unusedSimpArgs false
def bstr (l : List Nat) : ByteArray := pushAll (l.map fun (n : Nat) => (n : Int))
theorem asBytes_bys : ∀ l : List Nat, asBytes (bys l) = some (l.map fun (n : Nat) => (n : Int))
  | [] => rfl
  | n :: l => by
    show asBytes ([.v (.int .u8 (n : Int))] :: bys l) = _
    simp only [asBytes, asBytes_bys l]; rfl
theorem bstr_eq (l : List Nat) : pushAll (l.map fun (n : Nat) => (n : Int)) = bstr l := rfl
theorem pushAll_list (ns : List Int) (b : ByteArray) : (ns.foldl (fun r n => r.push (UInt8.ofNat n.toNat)) b).data.toList = b.data.toList ++ ns.map fun n => UInt8.ofNat n.toNat := by
  induction ns generalizing b with
  | nil => simp
  | cons n ns ih => rw [List.foldl_cons, ih]; simp [ByteArray.push]
theorem bstr_list (l : List Nat) : (bstr l).toList = l.map UInt8.ofNat := by
  rw [ByteArray.toList_eq]
  unfold bstr pushAll
  rw [pushAll_list]
  simp [List.map_map, Function.comp_def]
/-- Numbers that are bytes. -/
def Byte (l : List Nat) : Prop := ∀ n ∈ l, n < 256
theorem ofNat_inj {a b : Nat} (ha : a < 256) (hb : b < 256) (h : UInt8.ofNat a = UInt8.ofNat b) : a = b := by
  have := congrArg UInt8.toNat h
  simpa [Nat.mod_eq_of_lt ha, Nat.mod_eq_of_lt hb] using this
theorem map_byte : ∀ {l m : List Nat}, Byte l → Byte m → l.map UInt8.ofNat = m.map UInt8.ofNat → l = m
  | [], [], _, _, _ => rfl
  | [], _ :: _, _, _, h => by simp at h
  | _ :: _, [], _, _, h => by simp at h
  | a :: l, b :: m, hl, hm, h => by
    simp only [List.map_cons, List.cons.injEq] at h
    rw [ofNat_inj (hl a (by simp)) (hm b (by simp)) h.1, map_byte (fun n hn => hl n (by simp [hn])) (fun n hn => hm n (by simp [hn])) h.2]
theorem bstr_beq {l m : List Nat} (hl : Byte l) (hm : Byte m) : ((bstr l).toList == (bstr m).toList) = decide (l = m) := by
  rw [bstr_list, bstr_list, Bool.eq_iff_iff]
  simp only [beq_iff_eq, decide_eq_true_eq]
  exact ⟨map_byte hl hm, fun h => by rw [h]⟩
theorem drop_bys (l : List Nat) (k : Nat) : (bys l).drop k = bys (l.drop k) := by simp [bys, List.map_drop]
theorem take_bys (l : List Nat) (k : Nat) : (bys l).take k = bys (l.take k) := by simp [bys, List.map_take]
def num10 (n : Int) : Val := ⟨1, n, noS⟩
theorem mayV_num (n : Int) : mayV (num10 n) = true := by simp [mayV, num10, noS_toList]
theorem plainP_num {l : List Val} (h : ∀ v ∈ l, ∃ n, v = num10 n) (hl : l.length ≤ 4096) : plainP l 1 = 0 := by
  have h1 : l.any (fun v => !decide (v.kind = 1)) = false := by
    rw [List.any_eq_false]
    intro v hv
    obtain ⟨n, rfl⟩ := h v hv
    simp [num10]
  have h2 : l.any (fun v => !mayV v) = false := by
    rw [List.any_eq_false]
    intro v hv
    obtain ⟨n, rfl⟩ := h v hv
    simp [mayV_num]
  unfold plainP
  rw [h1, h2]
  simp [kindsP, show ¬ 4096 < l.length by omega]
theorem putP_byte : ∀ (k n : Nat), n < 128 ^ k → Byte (putP n) := by
  intro k
  induction k with
  | zero => intro n hn m hm; rw [putP_small (by omega)] at hm; simp at hm; omega
  | succ k ih =>
    intro n hn
    by_cases h : n < 128
    · rw [putP_small h]; intro m hm; simp at hm; omega
    · rw [putP_big h]
      intro m hm
      rcases List.mem_cons.1 hm with rfl | hm
      · omega
      · exact ih (n / 128) (by rw [Nat.div_lt_iff_lt_mul (by decide)]; exact hn) m hm
theorem putP_byte64 {n : Nat} (h : n < 18446744073709551616) : Byte (putP n) := putP_byte 10 n (by omega)
theorem packP_byte (l : List Nat) (w : Nat) : Byte (packP l w) := by
  intro n hn
  unfold packP packB at hn
  obtain ⟨i, _, rfl⟩ := List.mem_map.1 hn
  exact byteAt_lt _ _
theorem Byte.app {l m : List Nat} (hl : Byte l) (hm : Byte m) : Byte (l ++ m) := fun n hn => by
  rcases List.mem_append.1 hn with h | h
  · exact hl n h
  · exact hm n h
end Go.Proofs.YtmbagpfmfiegkaaGreat
namespace Go.Proofs.YtmbagpfmfiegkaaGreat
open Go.Proofs.YtmbagpfmfiegkaaGreatAw Go.RowKit
set_option linter.unusedVariables false
set_option linter.unusedSimpArgs false
/-- A text's bytes. -/
def sbytes (s : ByteArray) : List Nat := s.data.toList.map UInt8.toNat
theorem sbytes_len (s : ByteArray) : (sbytes s).length = s.size := by simp [sbytes]
theorem sbytes_byte (s : ByteArray) : ∀ c ∈ sbytes s, c < 256 := fun c hc => by
  obtain ⟨x, _, rfl⟩ := List.mem_map.1 hc
  exact x.toNat_lt
theorem strRows_eq (s : ByteArray) : strRows s = bys (sbytes s) := by
  unfold strRows bys sbytes
  rw [List.map_map]
  rfl
def textP (s : ByteArray) : List Nat := putP s.size ++ sbytes s
set_option maxRecDepth 10000 in
theorem text_does (s : ByteArray) (hs : s.size ≤ 100000000000000) (H : AHeap) : Does Tryz.prog 66 [sA s] H (.ok (.d (.list false (bys (textP s))))) H := by
  refine Does.of_awp (hint := (fun _ => false)) Tryz.func66 (by kernel_rfl) rfl [2] (by kernel_rfl) (by decide) (by simp [Tryz.ntmps66]) ?_
  rw [Tryz.ntmps66]
  simp (implicitDefEqProofs := false) only [↓reduceIte, go_sem, Nat.reduceLT, reduceCtorEq, eq_self, wrapU64N s.size (by omega)]
  refine KCall.ok (putOwn_does s.size (by omega) _) ?_
  have hl := putP_len 10 s.size (by omega)
  have hsl := sbytes_len s
  simp (implicitDefEqProofs := false) only [↓reduceIte, go_sem, Nat.reduceLT, Nat.reduceEqDiff, reduceCtorEq, eq_self, strRows_eq, bys_len, bys_one, bys_app]
  refine ⟨by omega, by omega, AEnd.ret ?_⟩
  have ht : (bys (putP s.size ++ sbytes s)).take ((putP s.size).length + (sbytes s).length) = bys (putP s.size ++ sbytes s) := List.take_of_length_le (by rw [bys_len, List.length_append]; omega)
  simp (implicitDefEqProofs := false) only [↓reduceIte, go_sem, Nat.reduceLT, eq_self, ht, textP]
/-- Eight bytes, the greatest first. -/
def beP (n : Nat) : List Nat := (List.range 8).map fun i => n / 256 ^ (7 - i) % 256
theorem beP_len (n : Nat) : (beP n).length = 8 := by simp [beP]
theorem beP_take (n k : Nat) (h : k < 8) : (beP n).take (k + 1) = (beP n).take k ++ [n / 256 ^ (7 - k) % 256] := by
  rw [List.take_succ_eq_append_getElem (by rw [beP_len]; exact h)]
  simp [beP]
theorem may_size {v : Val} (hm : mayV v = true) (h3 : v.kind = 3) : v.s.size ≤ 1024 := by
  unfold mayV at hm
  rw [if_neg (by omega), if_neg (by omega), if_pos h3] at hm
  simp at hm
  exact hm.2
/-- A value's bytes. -/
def valB (v : Val) : List Nat := if v.kind = 1 then putP (zigP v.i) else if v.kind = 2 then beP (keyN (toU v.i)) else if v.kind = 3 then textP v.s else []
set_option maxRecDepth 10000 in
set_option maxHeartbeats 1000000 in
theorem valBytes_does (v : Val) (hi : -9223372036854775808 ≤ v.i ∧ v.i ≤ 9223372036854775807) (hm : mayV v = true) (H : AHeap) :
    Does Tryz.prog 34 [v.av] H (.ok (.tup [.d (.list false (bys (valB v))), iA 0])) H := by
  by_cases h1 : v.kind = 1
  · have e : valB v = putP (zigP v.i) := by unfold valB; rw [if_pos h1]
    rw [e]
    refine Does.of_awp (hint := (fun _ => false)) Tryz.func34 (by kernel_rfl) rfl [2, 3] (by kernel_rfl) (by decide) (by simp [Tryz.ntmps34]) ?_
    rw [Tryz.ntmps34]
    simp (implicitDefEqProofs := false) only [↓reduceIte, go_sem, oread, Nat.reduceAdd, Nat.reduceLT, Nat.reduceEqDiff, eq_self]
    refine KCall.ok (mayV_does v _) ?_
    simp (implicitDefEqProofs := false) only [↓reduceIte, go_sem, oread, Nat.reduceAdd, Nat.reduceLT, Nat.reduceLeDiff, Nat.reduceEqDiff, eq_self, hm, eq_true h1]
    refine KCall.ok (zig_does v.i hi.1 hi.2 _) ?_
    simp (implicitDefEqProofs := false) only [↓reduceIte, go_sem, Nat.reduceLT, eq_self]
    refine KCall.ok (put_does (zigP v.i) (zigP_lt hi.1 hi.2) _) ?_
    simp (implicitDefEqProofs := false) only [↓reduceIte, go_sem, Nat.reduceLT, eq_self]
    refine AEnd.ret ?_
    simp (implicitDefEqProofs := false) only [↓reduceIte, go_sem, Nat.reduceLT, Nat.reduceEqDiff, eq_self]
  by_cases h2 : v.kind = 2
  · have e : valB v = beP (keyN (toU v.i)) := by unfold valB; rw [if_neg h1, if_pos h2]
    have hk := keyN_lt (toU v.i) (toU_lt _)
    rw [e]
    refine Does.of_awp (hint := (fun _ => false)) Tryz.func34 (by kernel_rfl) rfl [2, 3] (by kernel_rfl) (by decide) (by simp [Tryz.ntmps34]) ?_
    rw [Tryz.ntmps34]
    simp (implicitDefEqProofs := false) only [↓reduceIte, go_sem, oread, Nat.reduceAdd, Nat.reduceLT, Nat.reduceEqDiff, eq_self]
    refine KCall.ok (mayV_does v _) ?_
    simp (implicitDefEqProofs := false) only [↓reduceIte, go_sem, oread, Nat.reduceAdd, Nat.reduceLT, Nat.reduceLeDiff, Nat.reduceEqDiff, eq_self, hm, h1, eq_true h2, wrap_toU]
    refine KCall.ok (fkey_does _ (toU_lt _) _) ?_
    generalize keyN (toU v.i) = n at *
    simp (implicitDefEqProofs := false) only [↓reduceIte, go_sem, Nat.reduceLT, eq_self]
    refine awp_for (fun k s H' => H' = H ++ [.box 25 3 0 1 [iA v.kind, iA v.i, sA v.s], .arr 5 1 k (bys ((beP n).take k))] ∧ s 4 = du n ∧ s 5 = .sl (H.length + 1) k 0 k ∧ s 24 = iA k) 8 (by omega) (Weak.virt1 _ _ 5 5 1 (by decide) (by simp (implicitDefEqProofs := false) only [↓reduceIte, go_sem, Nat.reduceLT, Nat.reduceEqDiff, eq_self]) _) ?_ ?_ ?_
    · refine ⟨?_, ?_⟩
      · simp (implicitDefEqProofs := false) only [go_sem, eq_self, List.take_zero, bys_nil]
      · simp (implicitDefEqProofs := false) only [↓reduceIte, go_sem, Nat.reduceLT, Nat.reduceEqDiff, eq_self]
    · rintro k s H' hk2 hw ⟨rfl, t4, t5, t24⟩
      have hk8 : ((k : Int) < 8) = True := eq_true (by omega)
      have e1 := beP_take n k hk2
      have el : ((beP n).take k).length = k := by rw [List.length_take, beP_len]; omega
      have w1 : IntKind.i64.wrap (7 - (k : Int)) = ((7 - k : Nat) : Int) := by rw [wrap64_in _ (by omega) (by omega)]; omega
      have w2 : IntKind.i64.wrap (8 * ((7 - k : Nat) : Int)) = ((8 * (7 - k) : Nat) : Int) := by rw [wrap64_in _ (by omega) (by omega)]; omega
      have w3 : IntKind.u64.wrap ((8 * (7 - k) : Nat) : Int) = ((8 * (7 - k) : Nat) : Int) := wrapU64N _ (by omega)
      have w4 : shrI .u64 (n : Int) ((8 * (7 - k) : Nat) : Int) = ((n / 256 ^ (7 - k) : Nat) : Int) := by
        rw [shrU n (8 * (7 - k)) (by omega), Nat.pow_mul]
      have w5 : IntKind.u64.wrap ((n / 256 ^ (7 - k) : Nat) : Int) = ((n / 256 ^ (7 - k) : Nat) : Int) := wrapU64N _ (Nat.lt_of_le_of_lt (Nat.div_le_self _ _) hk)
      rw [e1]
      generalize n / 256 ^ (7 - k) = m at *
      generalize hq : ((8 * (7 - k) : Nat) : Int) = q at *
      generalize ((7 - k : Nat) : Int) = q2 at *
      generalize (beP n).take k = B at *
      simp (implicitDefEqProofs := false) only [↓reduceIte, go_sem, Nat.reduceAdd, Nat.reduceLT, Nat.reduceLeDiff, Nat.reduceEqDiff, eq_self, t4, t5, t24, hk8, w1, w2, w3, w4, wrapU8mod, bys_len, el, bys_snoc]
      refine ⟨by omega, by omega, by omega, Rnd.same ⟨?_, ?_⟩⟩
      · simp (implicitDefEqProofs := false) only [go_sem, eq_self]
      · simp (implicitDefEqProofs := false) only [↓reduceIte, go_sem, Nat.reduceLT, Nat.reduceEqDiff, eq_self, t4, hw]
    · rintro s H' ⟨rfl, t4, t5, t24⟩
      rw [show (beP n).take 8 = beP n from List.take_of_length_le (by rw [beP_len]; exact Nat.le_refl _)]
      simp (implicitDefEqProofs := false) only [↓reduceIte, go_sem, Nat.reduceLT, Nat.reduceEqDiff, Int.reduceLT, eq_self, t5, t24]
      refine AEnd.ret ?_
      simp (implicitDefEqProofs := false) only [↓reduceIte, go_sem, Nat.reduceLT, Nat.reduceEqDiff, eq_self, show (bys (beP n)).take 8 = bys (beP n) from List.take_of_length_le (by rw [bys_len, beP_len]; exact Nat.le_refl _)]
  by_cases h3 : v.kind = 3
  · have e : valB v = textP v.s := by unfold valB; rw [if_neg h1, if_neg h2, if_pos h3]
    have hs := may_size hm h3
    rw [e]
    refine Does.of_awp (hint := (fun _ => false)) Tryz.func34 (by kernel_rfl) rfl [2, 3] (by kernel_rfl) (by decide) (by simp [Tryz.ntmps34]) ?_
    rw [Tryz.ntmps34]
    simp (implicitDefEqProofs := false) only [↓reduceIte, go_sem, oread, Nat.reduceAdd, Nat.reduceLT, Nat.reduceEqDiff, eq_self]
    refine KCall.ok (mayV_does v _) ?_
    simp (implicitDefEqProofs := false) only [↓reduceIte, go_sem, oread, Nat.reduceAdd, Nat.reduceLT, Nat.reduceLeDiff, Nat.reduceEqDiff, eq_self, hm, h1, h2, eq_true h3]
    refine KCall.ok (text_does v.s (by omega) _) ?_
    simp (implicitDefEqProofs := false) only [↓reduceIte, go_sem, Nat.reduceLT, eq_self]
    refine AEnd.ret ?_
    simp (implicitDefEqProofs := false) only [↓reduceIte, go_sem, Nat.reduceLT, Nat.reduceEqDiff, eq_self]
  · have e : valB v = [] := by unfold valB; rw [if_neg h1, if_neg h2, if_neg h3]
    rw [e]
    refine Does.subT (cs := [.d (.v (.slice none 0 0)), iA 0]) ?_ (.cons .nil (.cons (.refl _) .nil))
    refine Does.of_awp (hint := (fun _ => false)) Tryz.func34 (by kernel_rfl) rfl [2, 3] (by kernel_rfl) (by decide) (by simp [Tryz.ntmps34]) ?_
    rw [Tryz.ntmps34]
    simp (implicitDefEqProofs := false) only [↓reduceIte, go_sem, oread, Nat.reduceAdd, Nat.reduceLT, Nat.reduceEqDiff, eq_self]
    refine KCall.ok (mayV_does v _) ?_
    simp (implicitDefEqProofs := false) only [↓reduceIte, go_sem, oread, Nat.reduceAdd, Nat.reduceLT, Nat.reduceLeDiff, Nat.reduceEqDiff, eq_self, hm, h1, h2, h3]
    refine AEnd.ret ?_
    simp (implicitDefEqProofs := false) only [↓reduceIte, go_sem, Nat.reduceLT, Nat.reduceEqDiff, eq_self]
end Go.Proofs.YtmbagpfmfiegkaaGreat
namespace Go.Proofs.YtmbagpfmfiegkaaGreat
set_option linter.unusedVariables false
namespace St
variable {α : Type}
/-- Which of two is ahead: a strict order in which what is not ahead of one another is alike. -/
structure Ord (lt : α → α → Bool) : Prop where
  asym : ∀ x y, lt x y = true → lt y x = false
  ntrans : ∀ x y z, lt x z = true → lt x y = true ∨ lt y z = true
variable {lt : α → α → Bool} {l : List α}
theorem Ord.irr (h : Ord lt) (x : α) : lt x x = false := by
  cases e : lt x x with
  | false => rfl
  | true => rw [h.asym x x e] at e; cases e
theorem Ord.trans (h : Ord lt) {x y z : α} (h1 : lt x y = true) (h2 : lt y z = true) : lt x z = true := by
  rcases h.ntrans x z y h1 with h3 | h3
  · exact h3
  · rw [h.asym y z h2] at h3; cases h3
theorem Ord.le_trans (h : Ord lt) {x y z : α} (h1 : lt y x = false) (h2 : lt z y = false) : lt z x = false := by
  cases e : lt z x with
  | false => rfl
  | true =>
    rcases h.ntrans z y x e with h3 | h3
    · rw [h2] at h3; cases h3
    · rw [h1] at h3; cases h3
theorem Ord.lt_le (h : Ord lt) {x y z : α} (h1 : lt x y = true) (h2 : lt z y = false) : lt x z = true := by
  rcases h.ntrans x z y h1 with h3 | h3
  · exact h3
  · rw [h2] at h3; cases h3
theorem Ord.le_lt (h : Ord lt) {x y z : α} (h1 : lt y x = false) (h2 : lt y z = true) : lt x z = true := by
  rcases h.ntrans y x z h2 with h3 | h3
  · rw [h1] at h3; cases h3
  · exact h3
def Sorted (lt : α → α → Bool) (l : List α) : Prop := l.Pairwise fun x y => lt y x = false
def eqv (lt : α → α → Bool) (x y : α) : Bool := !lt x y && !lt y x
theorem eqv_iff {x y : α} : eqv lt x y = true ↔ lt x y = false ∧ lt y x = false := by simp [eqv]
def StEq (lt : α → α → Bool) (l m : List α) : Prop := ∀ x, l.filter (eqv lt x) = m.filter (eqv lt x)
theorem StEq.refl (l : List α) : StEq lt l l := fun _ => rfl
theorem StEq.symm {l m : List α} (h : StEq lt l m) : StEq lt m l := fun x => (h x).symm
theorem StEq.trans {l m n : List α} (h : StEq lt l m) (g : StEq lt m n) : StEq lt l n := fun x => (h x).trans (g x)
theorem StEq.app {l l' m m' : List α} (h : StEq lt l l') (g : StEq lt m m') : StEq lt (l ++ m) (l' ++ m') := fun x => by rw [List.filter_append, List.filter_append, h x, g x]
theorem eqv_self (ho : Ord lt) (x : α) : eqv lt x x = true := eqv_iff.2 ⟨ho.irr x, ho.irr x⟩
theorem StEq.mem (ho : Ord lt) {l m : List α} (h : StEq lt l m) {x : α} (hx : x ∈ l) : x ∈ m := by
  have : x ∈ l.filter (eqv lt x) := List.mem_filter.2 ⟨hx, eqv_self ho x⟩
  rw [h x] at this
  exact (List.mem_filter.1 this).1
theorem StEq.mem_iff (ho : Ord lt) {l m : List α} (h : StEq lt l m) {x : α} : x ∈ l ↔ x ∈ m := ⟨h.mem ho, h.symm.mem ho⟩
/-- Neighbours of which all of the one are ahead of all of the other change places. -/
theorem StEq.swap (ho : Ord lt) {u v : List α} (h : ∀ x ∈ u, ∀ y ∈ v, lt y x = true) : StEq lt (u ++ v) (v ++ u) := by
  intro c
  rw [List.filter_append, List.filter_append]
  by_cases hu : ∃ x ∈ u, eqv lt c x = true
  · obtain ⟨x, hx, hc⟩ := hu
    have : v.filter (eqv lt c) = [] := by
      rw [List.filter_eq_nil_iff]
      intro y hy hcy
      have h1 := eqv_iff.1 hc
      have h2 := eqv_iff.1 hcy
      have h3 := h x hx y hy
      rcases ho.ntrans y c x h3 with h4 | h4
      · rw [h2.2] at h4; cases h4
      · rw [h1.1] at h4; cases h4
    rw [this]; simp
  · have : u.filter (eqv lt c) = [] := by
      rw [List.filter_eq_nil_iff]
      intro x hx hc
      exact hu ⟨x, hx, hc⟩
    rw [this]; simp
theorem uniq (ho : Ord lt) : ∀ {l m : List α}, Sorted lt l → Sorted lt m → StEq lt l m → l = m
  | [], [], _, _, _ => rfl
  | [], b :: t, _, _, h => by have := h.symm.mem ho (List.mem_cons_self (a := b) (l := t)); simp at this
  | a :: t, [], _, _, h => by have := h.mem ho (List.mem_cons_self (a := a) (l := t)); simp at this
  | a :: t, b :: t', hl, hm, h => by
    have ha : a ∈ b :: t' := h.mem ho (List.mem_cons_self ..)
    have hb : b ∈ a :: t := h.symm.mem ho (List.mem_cons_self ..)
    have h1 : lt a b = false := by
      rcases List.mem_cons.1 ha with rfl | ha
      · exact ho.irr _
      · exact (List.pairwise_cons.1 hm).1 a ha
    have h2 : lt b a = false := by
      rcases List.mem_cons.1 hb with rfl | hb
      · exact ho.irr _
      · exact (List.pairwise_cons.1 hl).1 b hb
    have e1 : eqv lt a a = true := eqv_self ho a
    have e2 : eqv lt a b = true := eqv_iff.2 ⟨h1, h2⟩
    have h3 := h a
    rw [List.filter_cons_of_pos e1, List.filter_cons_of_pos e2] at h3
    obtain rfl : a = b := (List.cons.inj h3).1
    have : t = t' := uniq ho (List.pairwise_cons.1 hl).2 (List.pairwise_cons.1 hm).2 fun x => by
      have h4 := h x
      by_cases hx : eqv lt x a = true
      · rw [List.filter_cons_of_pos hx, List.filter_cons_of_pos hx] at h4
        exact (List.cons.inj h4).2
      · rw [List.filter_cons_of_neg hx, List.filter_cons_of_neg hx] at h4
        exact h4
    rw [this]
def ins (lt : α → α → Bool) (x : α) : List α → List α
  | [] => [x]
  | y :: t => if lt y x then y :: ins lt x t else x :: y :: t
def sortS (lt : α → α → Bool) (l : List α) : List α := l.foldr (ins lt) []
theorem ins_mem {x z : α} : ∀ {l : List α}, z ∈ ins lt x l ↔ z = x ∨ z ∈ l
  | [] => by simp [ins]
  | y :: t => by
    unfold ins
    split
    · rw [List.mem_cons, ins_mem, List.mem_cons]
      constructor
      · rintro (h | h | h)
        · exact .inr (.inl h)
        · exact .inl h
        · exact .inr (.inr h)
      · rintro (h | h | h)
        · exact .inr (.inl h)
        · exact .inl h
        · exact .inr (.inr h)
    · simp
theorem ins_sorted (ho : Ord lt) (x : α) : ∀ {l : List α}, Sorted lt l → Sorted lt (ins lt x l)
  | [], _ => by simp [ins, Sorted]
  | y :: t, h => by
    have h' := List.pairwise_cons.1 h
    unfold ins
    split
    · rename_i hy
      refine List.pairwise_cons.2 ⟨fun z hz => ?_, ins_sorted ho x h'.2⟩
      rcases ins_mem.1 hz with rfl | hz
      · exact ho.asym _ _ hy
      · exact h'.1 z hz
    · rename_i hy
      have hy : lt y x = false := by simpa using hy
      refine List.pairwise_cons.2 ⟨fun z hz => ?_, h⟩
      rcases List.mem_cons.1 hz with rfl | hz
      · exact hy
      · exact ho.le_trans hy (h'.1 z hz)
theorem ins_steq (ho : Ord lt) (x : α) : ∀ l : List α, StEq lt (ins lt x l) (x :: l)
  | [] => .refl _
  | y :: t => by
    unfold ins
    split
    · rename_i hy
      have h1 : StEq lt ([y] ++ ins lt x t) ([y] ++ (x :: t)) := StEq.app (.refl _) (ins_steq ho x t)
      refine h1.trans ?_
      have h2 : StEq lt ([y] ++ [x]) ([x] ++ [y]) := (StEq.swap ho (u := [x]) (v := [y]) (by simpa using hy)).symm
      have := StEq.app h2 (.refl t)
      simpa using this
    · exact .refl _
theorem sortS_sorted (ho : Ord lt) : ∀ l : List α, Sorted lt (sortS lt l)
  | [] => List.Pairwise.nil
  | x :: l => ins_sorted ho x (sortS_sorted ho l)
theorem sortS_steq (ho : Ord lt) : ∀ l : List α, StEq lt (sortS lt l) l
  | [] => .refl _
  | x :: l => (ins_steq ho x _).trans (StEq.app (l := [x]) (.refl _) (sortS_steq ho l))
theorem ins_len (x : α) : ∀ l : List α, (ins lt x l).length = l.length + 1
  | [] => rfl
  | y :: t => by unfold ins; split <;> simp [ins_len x t]
theorem sortS_len : ∀ l : List α, (sortS lt l).length = l.length
  | [] => rfl
  | x :: l => by
    show (ins lt x (sortS lt l)).length = _
    rw [ins_len, sortS_len l]; rfl
theorem sortS_mem (ho : Ord lt) {l : List α} {x : α} : x ∈ sortS lt l ↔ x ∈ l := (sortS_steq ho l).mem_iff ho
theorem sortS_eq (ho : Ord lt) {l m : List α} (h1 : Sorted lt m) (h2 : StEq lt m l) : sortS lt l = m := uniq ho (sortS_sorted ho l) h1 ((sortS_steq ho l).trans h2.symm)
theorem sortS_self (ho : Ord lt) {l : List α} (h : Sorted lt l) : sortS lt l = l := sortS_eq ho h (.refl _)
theorem Sorted.app {l m : List α} (hl : Sorted lt l) (hm : Sorted lt m) (h : ∀ x ∈ l, ∀ y ∈ m, lt y x = false) : Sorted lt (l ++ m) := List.pairwise_append.2 ⟨hl, hm, h⟩
theorem Sorted.left {l m : List α} (h : Sorted lt (l ++ m)) : Sorted lt l := (List.pairwise_append.1 h).1
theorem Sorted.right {l m : List α} (h : Sorted lt (l ++ m)) : Sorted lt m := (List.pairwise_append.1 h).2.1
theorem Sorted.cross {l m : List α} (h : Sorted lt (l ++ m)) : ∀ x ∈ l, ∀ y ∈ m, lt y x = false := (List.pairwise_append.1 h).2.2
/-- Insertion: what stands behind is all greater, what stands ahead is not. -/
theorem insert_eq (ho : Ord lt) {A B l : List α} {x : α} (hS : A ++ B = sortS lt l) (hB : ∀ y ∈ B, lt x y = true) (hA : ∀ y ∈ A, lt x y = false) : A ++ x :: B = sortS lt (l ++ [x]) := by
  refine (sortS_eq ho ?_ ?_).symm
  · have hs := sortS_sorted ho l
    rw [← hS] at hs
    refine Sorted.app hs.left (List.pairwise_cons.2 ⟨fun y hy => ho.asym _ _ (hB y hy), hs.right⟩) ?_
    intro y hy z hz
    rcases List.mem_cons.1 hz with rfl | hz
    · exact hA y hy
    · exact hs.cross y hy z hz
  · have h1 : StEq lt (x :: B) (B ++ [x]) := (StEq.swap ho (u := B) (v := [x]) (by simpa using hB)).symm
    have h2 : StEq lt (A ++ x :: B) ((A ++ B) ++ [x]) := by rw [List.append_assoc]; exact StEq.app (.refl A) h1
    refine h2.trans (StEq.app ?_ (.refl _))
    rw [hS]
    exact sortS_steq ho l
theorem sym_ok (ho : Ord lt) {A U V B : List α} (h1 : Sorted lt (A ++ U)) (h2 : Sorted lt (V ++ B)) (h3 : ∀ u ∈ U, ∀ v ∈ V, lt v u = true) (h4 : ∀ x ∈ A, ∀ y ∈ B, lt y x = false) :
    sortS lt (A ++ V) ++ sortS lt (U ++ B) = sortS lt ((A ++ U) ++ (V ++ B)) := by
  refine (sortS_eq ho ?_ ?_).symm
  · refine Sorted.app (sortS_sorted ho _) (sortS_sorted ho _) fun x hx y hy => ?_
    rw [sortS_mem ho, List.mem_append] at hx hy
    rcases hx with hx | hx <;> rcases hy with hy | hy
    · exact h1.cross x hx y hy
    · exact h4 x hx y hy
    · exact ho.asym _ _ (h3 y hy x hx)
    · exact h2.cross x hx y hy
  · refine (StEq.app (sortS_steq ho _) (sortS_steq ho _)).trans ?_
    have := StEq.app (StEq.app (.refl A) (StEq.swap ho h3).symm) (.refl B)
    simpa [List.append_assoc] using this
theorem Sorted.get (h : Sorted lt l) {i j : Nat} (hi : i < j) {x y : α} (hx : l[i]? = some x) (hy : l[j]? = some y) : lt y x = false := by
  obtain ⟨h1, rfl⟩ := List.getElem?_eq_some_iff.1 hx
  obtain ⟨h2, rfl⟩ := List.getElem?_eq_some_iff.1 hy
  exact List.pairwise_iff_getElem.1 h i j h1 h2 hi
theorem Sorted.get_le (ho : Ord lt) (h : Sorted lt l) {i j : Nat} (hi : i ≤ j) {x y : α} (hx : l[i]? = some x) (hy : l[j]? = some y) : lt y x = false := by
  rcases Nat.lt_or_ge i j with h1 | h1
  · exact h.get h1 hx hy
  · obtain rfl : i = j := by omega
    rw [hx] at hy; cases hy
    exact ho.irr _
/-- Two sorted lists, cut where the search ended. -/
theorem merge_cut (ho : Ord lt) {X Y : List α} (hX : Sorted lt X) (hY : Sorted lt Y) {s e : Nat} (hs : s ≤ X.length) (he : e ≤ Y.length)
    (hu : s = X.length ∨ e = 0 ∨ ∃ x y, X[s]? = some x ∧ Y[e - 1]? = some y ∧ lt y x = true) (hl : s = 0 ∨ e = Y.length ∨ ∃ x y, X[s - 1]? = some x ∧ Y[e]? = some y ∧ lt y x = false) :
    sortS lt (X.take s ++ Y.take e) ++ sortS lt (X.drop s ++ Y.drop e) = sortS lt (X ++ Y) := by
  have key := sym_ok ho (A := X.take s) (U := X.drop s) (V := Y.take e) (B := Y.drop e) (by rw [List.take_append_drop]; exact hX) (by rw [List.take_append_drop]; exact hY) ?_ ?_
  · rwa [List.take_append_drop, List.take_append_drop] at key
  · intro u hu' v hv'
    obtain ⟨i, hi⟩ := List.getElem?_of_mem hu'
    obtain ⟨j, hj⟩ := List.getElem?_of_mem hv'
    rw [List.getElem?_drop] at hi
    have hj' := (List.getElem?_eq_some_iff.1 hj).1
    simp only [List.length_take] at hj'
    rw [List.getElem?_take, if_pos (by omega)] at hj
    have hi' := (List.getElem?_eq_some_iff.1 hi).1
    rcases hu with h | h | ⟨x, y, hx, hy, h⟩
    · omega
    · omega
    · have h5 := hX.get_le ho (show s ≤ s + i by omega) hx hi
      have h6 := hY.get_le ho (show j ≤ e - 1 by omega) hj hy
      exact ho.lt_le (ho.le_lt h6 h) h5
  · intro x hx' y hy'
    obtain ⟨i, hi⟩ := List.getElem?_of_mem hx'
    obtain ⟨j, hj⟩ := List.getElem?_of_mem hy'
    rw [List.getElem?_drop] at hj
    have hi' := (List.getElem?_eq_some_iff.1 hi).1
    simp only [List.length_take] at hi'
    rw [List.getElem?_take, if_pos (by omega)] at hi
    have hj' := (List.getElem?_eq_some_iff.1 hj).1
    rcases hl with h | h | ⟨x0, y0, hx, hy, h⟩
    · omega
    · omega
    · have h5 := hX.get_le ho (show i ≤ s - 1 by omega) hi hx
      have h6 := hY.get_le ho (show e ≤ e + j by omega) hy hj
      exact ho.le_trans h5 (ho.le_trans h h6)
/-- One element into a sorted list, at the first place that is not ahead of it. -/
theorem merge_one (ho : Ord lt) {x : α} {Y : List α} (hY : Sorted lt Y) {e : Nat} (he : e ≤ Y.length) (hu : e = 0 ∨ ∃ y, Y[e - 1]? = some y ∧ lt y x = true) (hl : e = Y.length ∨ ∃ y, Y[e]? = some y ∧ lt y x = false) :
    Y.take e ++ x :: Y.drop e = sortS lt (x :: Y) := by
  have key := merge_cut ho (X := [x]) (s := 0) (by simp [Sorted]) hY (by simp) he (by rcases hu with h | ⟨y, h1, h2⟩; exact .inr (.inl h); exact .inr (.inr ⟨x, y, rfl, h1, h2⟩)) (.inl rfl)
  have h1 : Sorted lt (Y.take e) := by have := hY; rw [← List.take_append_drop e Y] at this; exact this.left
  have h2 : Sorted lt (x :: Y.drop e) := by
    have h3 : Sorted lt (Y.drop e) := by have := hY; rw [← List.take_append_drop e Y] at this; exact this.right
    refine List.pairwise_cons.2 ⟨fun y hy => ?_, h3⟩
    obtain ⟨j, hj⟩ := List.getElem?_of_mem hy
    rw [List.getElem?_drop] at hj
    rcases hl with h | ⟨y0, hy0, h⟩
    · have := (List.getElem?_eq_some_iff.1 hj).1; omega
    · exact ho.le_trans h (hY.get_le ho (Nat.le_add_right _ _) hy0 hj)
  simp only [List.take_zero, List.nil_append, List.drop_zero, List.singleton_append] at key
  rw [sortS_self ho h1, sortS_self ho h2] at key
  exact key
/-- The last element into a sorted list, at the first place that it is ahead of. -/
theorem merge_last (ho : Ord lt) {x : α} {X : List α} (hX : Sorted lt X) {s : Nat} (hs : s ≤ X.length) (hu : s = X.length ∨ ∃ y, X[s]? = some y ∧ lt x y = true) (hl : s = 0 ∨ ∃ y, X[s - 1]? = some y ∧ lt x y = false) :
    X.take s ++ x :: X.drop s = sortS lt (X ++ [x]) := by
  refine insert_eq ho (by rw [List.take_append_drop, sortS_self ho hX]) (fun y hy => ?_) fun y hy => ?_
  · obtain ⟨j, hj⟩ := List.getElem?_of_mem hy
    rw [List.getElem?_drop] at hj
    rcases hu with h | ⟨y0, h1, h2⟩
    · have := (List.getElem?_eq_some_iff.1 hj).1; omega
    · exact ho.lt_le h2 (hX.get_le ho (Nat.le_add_right _ _) h1 hj)
  · obtain ⟨j, hj⟩ := List.getElem?_of_mem hy
    have hj' := (List.getElem?_eq_some_iff.1 hj).1
    simp only [List.length_take] at hj'
    rw [List.getElem?_take, if_pos (by omega)] at hj
    rcases hl with h | ⟨y0, h1, h2⟩
    · omega
    · exact ho.le_trans (hX.get_le ho (show j ≤ s - 1 by omega) hj h1) h2
def Blocks (lt : α → α → Bool) (s : Nat) (l : List α) : Prop := ∀ k, Sorted lt ((l.drop (k * s)).take s)
theorem Blocks.all {s : Nat} {l : List α} (h : Blocks lt s l) (hs : l.length ≤ s) : Sorted lt l := by
  have := h 0
  rwa [Nat.zero_mul, List.drop_zero, List.take_of_length_le hs] at this
end St
end Go.Proofs.YtmbagpfmfiegkaaGreat
namespace Go.Proofs.YtmbagpfmfiegkaaGreat
open Go.Proofs.YtmbagpfmfiegkaaGreatAw Go.RowKit
set_option linter.unusedVariables false
set_option linter.unusedSimpArgs false
structure Tri {α : Type} (c : α → α → Int) : Prop where
  anti : ∀ x y, c x y < 0 ↔ 0 < c y x
  ntrans : ∀ x y z, c x z < 0 → c x y < 0 ∨ c y z < 0
def ltT {α : Type} (c : α → α → Int) (x y : α) : Bool := decide (c x y < 0)
theorem Tri.ord {α : Type} {c : α → α → Int} (h : Tri c) : St.Ord (ltT c) where
  asym x y hx := by
    simp only [ltT, decide_eq_true_eq, decide_eq_false_iff_not] at hx ⊢
    have := (h.anti x y).1 hx
    omega
  ntrans x y z hx := by
    simp only [ltT, decide_eq_true_eq] at hx ⊢
    exact h.ntrans x y z hx
theorem Tri.zero {α : Type} {c : α → α → Int} (h : Tri c) (x y : α) : c x y = 0 ↔ c y x = 0 := by
  have h1 := h.anti x y
  have h2 := h.anti y x
  omega
theorem Tri.self {α : Type} {c : α → α → Int} (h : Tri c) (x : α) : c x x = 0 := by
  have h1 := h.anti x x
  omega
theorem Tri.le_trans {α : Type} {c : α → α → Int} (h : Tri c) {x y z : α} (h1 : c x y ≤ 0) (h2 : c y z ≤ 0) : c x z ≤ 0 := by
  have a1 := h.anti y x
  have a2 := h.anti z y
  have a3 := h.anti z x
  have := h.ntrans z y x
  omega
theorem Tri.zero_trans {α : Type} {c : α → α → Int} (h : Tri c) {x y z : α} (h1 : c x y = 0) (h2 : c y z = 0) : c x z = 0 := by
  have a1 := h.le_trans (x := x) (y := y) (z := z) (by omega) (by omega)
  have a2 := h.le_trans (x := z) (y := y) (z := x) (by have := (h.zero y z).1 h2; omega) (by have := (h.zero x y).1 h1; omega)
  have a3 := h.anti x z
  have a4 := h.anti z x
  omega
/-- First by the one, then, where it tells nothing, by the other. -/
theorem Tri.lex {α : Type} {c d e : α → α → Int} (h : Tri c) (h1 : ∀ x y, c x y ≠ 0 → e x y = c x y) (h2 : ∀ x y, c x y = 0 → e x y = d x y) (da : ∀ x y, c x y = 0 → (d x y < 0 ↔ 0 < d y x)) (dn : ∀ x y z, c x y = 0 → c y z = 0 → d x z < 0 → d x y < 0 ∨ d y z < 0) : Tri e where
  anti x y := by
    by_cases hc : c x y = 0
    · rw [h2 x y hc, h2 y x ((h.zero x y).1 hc)]
      exact da x y hc
    · rw [h1 x y hc, h1 y x fun h0 => hc ((h.zero x y).2 h0)]
      exact h.anti x y
  ntrans x y z hx := by
    by_cases hxy : c x y = 0
    · by_cases hyz : c y z = 0
      · have hxz := h.zero_trans hxy hyz
        rw [h2 x z hxz] at hx
        rw [h2 x y hxy, h2 y z hyz]
        exact dn x y z hxy hyz hx
      · have hxz : c x z ≠ 0 := fun h0 => hyz (h.zero_trans ((h.zero x y).1 hxy) h0)
        rw [h1 x z hxz] at hx
        rw [h1 y z hyz]
        rcases h.ntrans x y z hx with h3 | h3
        · omega
        · exact .inr h3
    · by_cases hyz : c y z = 0
      · have hxz : c x z ≠ 0 := fun h0 => hxy (h.zero_trans h0 ((h.zero y z).1 hyz))
        rw [h1 x z hxz] at hx
        rw [h1 x y hxy]
        rcases h.ntrans x y z hx with h3 | h3
        · exact .inl h3
        · omega
      · rw [h1 x y hxy, h1 y z hyz]
        by_cases hxz : c x z = 0
        · have a1 := h.anti x y
          have a2 := h.anti y x
          have a3 := h.anti y z
          have a4 := h.anti z y
          have n1 := h.ntrans y x z
          have n2 := h.ntrans y z x
          have n3 := h.ntrans z x y
          have z1 := (h.zero x z).1 hxz
          omega
        · rw [h1 x z hxz] at hx
          exact h.ntrans x y z hx
theorem ordI_tri {α : Type} {lt : α → α → Bool} {c : α → α → Int} (ho : St.Ord lt) (h1 : ∀ x y, lt x y = true → c x y < 0) (h2 : ∀ x y, lt x y = false → lt y x = true → 0 < c x y) (h3 : ∀ x y, lt x y = false → lt y x = false → c x y = 0) : Tri c where
  anti x y := by
    cases hx : lt x y with
    | true => have := h1 x y hx; have := h2 y x (ho.asym x y hx) hx; omega
    | false =>
      cases hy : lt y x with
      | true => have := h1 y x hy; have := h2 x y hx hy; omega
      | false => have := h3 x y hx hy; have := h3 y x hy hx; omega
  ntrans x y z hx := by
    have hl : lt x z = true := by
      cases e : lt x z with
      | true => rfl
      | false =>
        cases e2 : lt z x with
        | true => have := h2 x z e e2; omega
        | false => have := h3 x z e e2; omega
    rcases ho.ntrans x y z hl with h | h
    · exact .inl (h1 x y h)
    · exact .inr (h1 y z h)
theorem cmpI_tri : Tri cmpI where
  anti x y := by
    unfold cmpI ordI
    by_cases h1 : x < y <;> by_cases h2 : y < x <;> simp [h1, h2] <;> omega
  ntrans x y z := by
    unfold cmpI ordI
    by_cases h1 : x < y <;> by_cases h2 : y < x <;> by_cases h3 : y < z <;> by_cases h4 : z < y <;> by_cases h5 : x < z <;> by_cases h6 : z < x <;> simp [h1, h2, h3, h4, h5, h6] <;> omega
theorem cmpI_zero {a b : Int} : cmpI a b = 0 ↔ a = b := by
  unfold cmpI ordI
  by_cases h1 : a < b <;> by_cases h2 : b < a <;> simp [h1, h2] <;> omega
theorem cmpF_eq (a b : Nat) : cmpF a b = cmpI (keyN a) (keyN b) := by
  unfold cmpF cmpI ordI
  simp [Int.ofNat_lt]
theorem bytesLess_irr : ∀ l : List UInt8, Op.bytesLess l l = false
  | [] => rfl
  | a :: l => by simp [Op.bytesLess, bytesLess_irr l]
theorem bytesLess_asym : ∀ l m : List UInt8, Op.bytesLess l m = true → Op.bytesLess m l = false
  | _, [], h => by simp [Op.bytesLess] at h
  | [], _ :: _, _ => rfl
  | a :: l, b :: m, h => by
    simp only [Op.bytesLess, Bool.or_eq_true, decide_eq_true_eq, Bool.and_eq_true, beq_iff_eq] at h
    simp only [Op.bytesLess, Bool.or_eq_false_iff, decide_eq_false_iff_not, Bool.and_eq_false_iff, beq_eq_false_iff_ne]
    rcases h with h | ⟨rfl, h⟩
    · exact ⟨fun h2 => UInt8.lt_asymm h h2, .inl fun e => by subst e; exact UInt8.lt_irrefl _ h⟩
    · exact ⟨UInt8.lt_irrefl _, .inr (bytesLess_asym l m h)⟩
theorem bytesLess_tri : ∀ l m : List UInt8, Op.bytesLess l m = false → Op.bytesLess m l = false → l = m
  | [], [], _, _ => rfl
  | [], _ :: _, h, _ => by simp [Op.bytesLess] at h
  | _ :: _, [], _, h => by simp [Op.bytesLess] at h
  | a :: l, b :: m, h1, h2 => by
    simp only [Op.bytesLess, Bool.or_eq_false_iff, decide_eq_false_iff_not, Bool.and_eq_false_iff, beq_eq_false_iff_ne] at h1 h2
    have e : a = b := UInt8.le_antisymm (UInt8.not_lt.1 h2.1) (UInt8.not_lt.1 h1.1)
    subst e
    rcases h1.2 with h | h
    · exact absurd rfl h
    · rcases h2.2 with g | g
      · exact absurd rfl g
      · rw [bytesLess_tri l m h g]
theorem bytesLess_trans : ∀ l m n : List UInt8, Op.bytesLess l m = true → Op.bytesLess m n = true → Op.bytesLess l n = true
  | _, _, [], _, h => by simp [Op.bytesLess] at h
  | [], _, _ :: _, _, _ => rfl
  | _ :: _, [], _ :: _, h, _ => by simp [Op.bytesLess] at h
  | a :: l, b :: m, c :: n, h1, h2 => by
    simp only [Op.bytesLess, Bool.or_eq_true, decide_eq_true_eq, Bool.and_eq_true, beq_iff_eq] at h1 h2 ⊢
    rcases h1 with h1 | ⟨rfl, h1⟩
    · rcases h2 with h2 | ⟨rfl, h2⟩
      · exact .inl (UInt8.lt_trans h1 h2)
      · exact .inl h1
    · rcases h2 with h2 | ⟨rfl, h2⟩
      · exact .inl h2
      · exact .inr ⟨rfl, bytesLess_trans l m n h1 h2⟩
theorem lessS_ord : St.Ord lessS where
  asym x y h := bytesLess_asym _ _ h
  ntrans x y z h := by
    unfold lessS at *
    cases h1 : Op.bytesLess x.toList y.toList with
    | true => exact .inl rfl
    | false =>
      right
      cases h2 : Op.bytesLess y.toList x.toList with
      | true => exact bytesLess_trans _ _ _ h2 h
      | false => rw [← bytesLess_tri _ _ h1 h2]; exact h
theorem cmpS_tri : Tri cmpS := by
  refine ordI_tri lessS_ord (fun x y h => ?_) (fun x y h g => ?_) fun x y h g => ?_
  · unfold cmpS ordI; simp [h]
  · unfold cmpS ordI
    have : (x.toList == y.toList) = false := by
      rw [beq_eq_false_iff_ne]
      intro e
      unfold lessS at g
      rw [e, bytesLess_irr] at g; cases g
    simp [h, this]
  · unfold cmpS ordI
    have e := bytesLess_tri _ _ h g
    simp [h, e]
theorem cmpS_zero {a b : ByteArray} : cmpS a b = 0 ↔ a = b := by
  unfold cmpS ordI
  constructor
  · intro h
    cases h1 : lessS a b with
    | true => simp [h1] at h
    | false =>
      simp only [h1, Bool.false_eq_true, if_false, Bool.false_or] at h
      cases h2 : a.toList == b.toList with
      | false => simp [h2] at h
      | true => exact toList_inj (by simpa using h2)
  · rintro rfl
    have : lessS a a = false := bytesLess_irr _
    simp [this]
def keyV (v : Val) : Int := keyN (toU v.i)
theorem Tri.comap {α β : Type} {c : α → α → Int} (h : Tri c) (f : β → α) : Tri (fun x y => c (f x) (f y)) := ⟨fun x y => h.anti _ _, fun x y z => h.ntrans _ _ _⟩
/-- What is asked of two values of one kind. -/
def cmpK (k : Int) (a b : Val) : Int := if k = 1 then cmpI a.i b.i else if k = 2 then cmpI (keyV a) (keyV b) else if k = 3 then cmpS a.s b.s else 0
theorem cmpV_eq (a b : Val) : cmpV a b = if cmpI a.kind b.kind ≠ 0 then cmpI a.kind b.kind else cmpK a.kind a b := by
  unfold cmpV cmpK
  simp only [cmpF_eq, ← show ∀ v : Val, keyV v = keyN (toU v.i) from fun _ => rfl]
  by_cases h : a.kind = b.kind
  · simp [h, cmpI_zero]
  · simp [h, cmpI_zero]
theorem zero_tri {α : Type} : Tri (fun _ _ : α => (0 : Int)) := ⟨fun _ _ => by simp, fun _ _ _ h => by simp at h⟩
theorem cmpK_tri (k : Int) : Tri (cmpK k) := by
  by_cases k1 : k = 1
  · have : cmpK k = fun a b => cmpI a.i b.i := by funext a b; unfold cmpK; rw [if_pos k1]
    rw [this]; exact cmpI_tri.comap Val.i
  · by_cases k2 : k = 2
    · have : cmpK k = fun a b => cmpI (keyV a) (keyV b) := by funext a b; unfold cmpK; rw [if_neg k1, if_pos k2]
      rw [this]; exact cmpI_tri.comap keyV
    · by_cases k3 : k = 3
      · have : cmpK k = fun a b => cmpS a.s b.s := by funext a b; unfold cmpK; rw [if_neg k1, if_neg k2, if_pos k3]
        rw [this]; exact cmpS_tri.comap Val.s
      · have : cmpK k = fun a b => 0 := by funext a b; unfold cmpK; rw [if_neg k1, if_neg k2, if_neg k3]
        rw [this]; exact zero_tri
theorem cmpV_tri : Tri cmpV := by
  refine Tri.lex (c := fun a b => cmpI a.kind b.kind) (d := fun a b => cmpK a.kind a b) (cmpI_tri.comap Val.kind) (fun x y h => by rw [cmpV_eq, if_pos h]) (fun x y h => by rw [cmpV_eq, if_neg (by simpa using h)]) (fun x y h => ?_) fun x y z h1 h2 => ?_
  · have h := cmpI_zero.1 h
    rw [h]
    exact (cmpK_tri _).anti x y
  · have h1 := cmpI_zero.1 h1
    rw [h1]
    exact (cmpK_tri _).ntrans x y z
end Go.Proofs.YtmbagpfmfiegkaaGreat
namespace Go.Proofs.YtmbagpfmfiegkaaGreat
set_option linter.unusedVariables false
namespace St
variable {α : Type} {eq : α → α → Bool}
def cgo (eq : α → α → Bool) : α → List α → List α
  | _, [] => []
  | p, y :: t => if eq y p = true then cgo eq y t else y :: cgo eq y t
def compactP (eq : α → α → Bool) : List α → List α
  | [] => []
  | x :: t => x :: cgo eq x t
theorem cgo_snoc : ∀ (p : α) (t : List α) (x : α), cgo eq p (t ++ [x]) = cgo eq p t ++ (if eq x ((p :: t).getLast (by simp)) = true then [] else [x])
  | p, [], x => by cases h : eq x p <;> simp [cgo, h]
  | p, y :: t, x => by
    simp only [List.cons_append, cgo, cgo_snoc y t x]
    have e : (p :: y :: t).getLast (by simp) = (y :: t).getLast (by simp) := List.getLast_cons (by simp)
    rw [e]
    by_cases h : eq y p = true
    · simp [h]
    · simp [h]
theorem compactP_snoc {M : List α} {x y : α} {k : Nat} (hk : M.length = k + 1) (hy : M[k]? = some y) : compactP eq (M ++ [x]) = compactP eq M ++ (if eq x y = true then [] else [x]) := by
  cases M with
  | nil => simp at hk
  | cons p t =>
    simp only [List.cons_append, compactP, cgo_snoc]
    have : (p :: t).getLast (by simp) = y := by
      rw [List.getLast_eq_getElem]
      have h := List.getElem?_eq_some_iff.1 hy
      obtain ⟨h1, h2⟩ := h
      simp only [List.length_cons] at hk
      simp only [List.length_cons, show t.length + 1 - 1 = k by omega]
      exact h2
    rw [this]
theorem cgo_len (p : α) (t : List α) : (cgo eq p t).length ≤ t.length := by
  induction t generalizing p with
  | nil => simp [cgo]
  | cons y t ih => unfold cgo; split <;> simp; exact Nat.le_succ_of_le (ih y); exact ih y
theorem compactP_len (l : List α) : (compactP eq l).length ≤ l.length := by
  cases l with
  | nil => simp [compactP]
  | cons x t => simpa [compactP] using cgo_len x t
end St
end Go.Proofs.YtmbagpfmfiegkaaGreat
namespace Go.Proofs.YtmbagpfmfiegkaaGreat
open Go.Proofs.YtmbagpfmfiegkaaGreatAw Go.RowKit
set_option linter.unusedVariables false
set_option linter.unusedSimpArgs false
theorem cgo_mem {α : Type} {eq : α → α → Bool} : ∀ {t : List α} {p x : α}, x ∈ St.cgo eq p t → x ∈ t
  | [], _, _, h => by simp [St.cgo] at h
  | y :: t, p, x, h => by
    unfold St.cgo at h
    split at h
    · exact List.mem_cons_of_mem _ (cgo_mem h)
    · rcases List.mem_cons.1 h with rfl | h
      · exact List.mem_cons_self ..
      · exact List.mem_cons_of_mem _ (cgo_mem h)
theorem compactP_mem {α : Type} {eq : α → α → Bool} {l : List α} {x : α} (h : x ∈ St.compactP eq l) : x ∈ l := by
  cases l with
  | nil => simp [St.compactP] at h
  | cons y t =>
    rcases List.mem_cons.1 h with rfl | h
    · exact List.mem_cons_self ..
    · exact List.mem_cons_of_mem _ (cgo_mem h)
theorem cgo_sorted {α : Type} {c : α → α → Int} (ht : Tri c) : ∀ {t : List α} {p : α}, St.Sorted (ltT c) (p :: t) → (p :: St.cgo (fun a b => decide (c a b = 0)) p t).Pairwise (fun x y => ltT c x y = true) ∧ ∀ x ∈ t, ∃ y ∈ p :: St.cgo (fun a b => decide (c a b = 0)) p t, c x y = 0
  | [], p, _ => by simp [St.cgo]
  | y :: t, p, h => by
    have h1 := List.pairwise_cons.1 h
    have h2 := List.pairwise_cons.1 h1.2
    have hp : ltT c y p = false := h1.1 y (by simp)
    unfold St.cgo
    by_cases he : c y p = 0
    · rw [if_pos (by simpa using he)]
      have hs : St.Sorted (ltT c) (p :: t) := List.pairwise_cons.2 ⟨fun z hz => h1.1 z (by simp [hz]), h2.2⟩
      -- the neighbour's own walk goes on from y: alike to p
      have key : ∀ (t : List α) (y p : α), c y p = 0 → St.cgo (fun a b => decide (c a b = 0)) y t = St.cgo (fun a b => decide (c a b = 0)) p t := by
        intro t
        cases t with
        | nil => intros; rfl
        | cons z t =>
          intro y p h
          unfold St.cgo
          have : decide (c z y = 0) = decide (c z p = 0) := by
            rw [Bool.eq_iff_iff, decide_eq_true_eq, decide_eq_true_eq]
            exact ⟨fun g => ht.zero_trans g h, fun g => ht.zero_trans g ((ht.zero y p).1 h)⟩
          rw [this]
      rw [key t y p he]
      obtain ⟨i1, i2⟩ := cgo_sorted ht hs
      refine ⟨i1, fun x hx => ?_⟩
      rcases List.mem_cons.1 hx with rfl | hx
      · exact ⟨p, by simp, he⟩
      · exact i2 x hx
    · rw [if_neg (by simpa using he)]
      obtain ⟨i1, i2⟩ := cgo_sorted ht h1.2
      have hlt : ltT c p y = true := by
        simp only [ltT, decide_eq_true_eq, decide_eq_false_iff_not] at hp ⊢
        have := ht.anti p y
        omega
      refine ⟨List.pairwise_cons.2 ⟨fun z hz => ?_, i1⟩, fun x hx => ?_⟩
      · rcases List.mem_cons.1 hz with rfl | hz
        · exact hlt
        · exact ht.ord.trans hlt ((List.pairwise_cons.1 i1).1 z hz)
      · rcases List.mem_cons.1 hx with rfl | hx
        · exact ⟨x, by simp, ht.self x⟩
        · obtain ⟨z, hz, hc⟩ := i2 x hx
          exact ⟨z, List.mem_cons_of_mem _ hz, hc⟩
theorem compact_sorted {α : Type} {c : α → α → Int} (ht : Tri c) {l : List α} (h : St.Sorted (ltT c) l) : (St.compactP (fun a b => decide (c a b = 0)) l).Pairwise (fun x y => ltT c x y = true) ∧ ∀ x ∈ l, ∃ y ∈ St.compactP (fun a b => decide (c a b = 0)) l, c x y = 0 := by
  cases l with
  | nil => simp [St.compactP]
  | cons p t =>
    obtain ⟨h1, h2⟩ := cgo_sorted ht h
    refine ⟨h1, fun x hx => ?_⟩
    rcases List.mem_cons.1 hx with rfl | hx
    · exact ⟨x, by simp [St.compactP], ht.self x⟩
    · exact h2 x hx
/-- Words: what is sorted, each once. -/
def wordsP {α : Type} (c : α → α → Int) (l : List α) : List α := St.compactP (fun a b => decide (c a b = 0)) (St.sortS (ltT c) l)
theorem words_rise {α : Type} {c : α → α → Int} (ht : Tri c) (l : List α) : (wordsP c l).Pairwise (fun x y => ltT c x y = true) := (compact_sorted ht (St.sortS_sorted ht.ord l)).1
theorem words_mem {α : Type} {c : α → α → Int} (ht : Tri c) {l : List α} {x : α} (h : x ∈ wordsP c l) : x ∈ l := (St.sortS_mem ht.ord).1 (compactP_mem h)
theorem words_has {α : Type} {c : α → α → Int} (ht : Tri c) {l : List α} {x : α} (h : x ∈ l) : ∃ y ∈ wordsP c l, c x y = 0 := (compact_sorted ht (St.sortS_sorted ht.ord l)).2 x ((St.sortS_mem ht.ord).2 h)
end Go.Proofs.YtmbagpfmfiegkaaGreat
namespace Go.Proofs.YtmbagpfmfiegkaaGreat
open Go.Proofs.YtmbagpfmfiegkaaGreatAw Go.RowKit
set_option linter.unusedVariables false
set_option linter.unusedSimpArgs false
theorem u64_of (n : Nat) (h : n < 18446744073709551616) : IntKind.u64.wrap (n : Int) = n := by
  simp [IntKind.wrap, IntKind.signed, IntKind.bits]; omega
set_option maxRecDepth 10000 in
theorem parts04_does (b : Nat) (hb : b < 18446744073709551616) (H : AHeap) : Does Tryz.prog 110 [du b] H (.ok (.tup [bA (decide (9223372036854775808 ≤ b)), du (b / 4503599627370496 % 2048), du (b % 4503599627370496)])) H := by
  have e1 : (b : Int).tdiv 4503599627370496 = ((b / 4503599627370496 : Nat) : Int) := rfl
  have e2 : ((b / 4503599627370496 : Nat) : Int).tmod 2048 = ((b / 4503599627370496 % 2048 : Nat) : Int) := rfl
  have e3 : (b : Int).tmod 4503599627370496 = ((b % 4503599627370496 : Nat) : Int) := rfl
  have e4 : ((9223372036854775808 : Int) ≤ (b : Int)) = (9223372036854775808 ≤ b) := by simp; omega
  refine Does.of_awp (hint := (fun _ => false)) Tryz.func110 (by kernel_rfl) rfl [2, 3, 4] (by kernel_rfl) (by decide) (by simp [Tryz.ntmps110]) ?_
  rw [Tryz.ntmps110]
  simp (implicitDefEqProofs := false) only [↓reduceIte, go_sem, Nat.reduceLT, Nat.reduceEqDiff, Int.reduceEq, reduceCtorEq, eq_self, e1, e2, e3, u64_of _ (show b / 4503599627370496 < 18446744073709551616 by omega)]
  refine AEnd.ret0 ?_
  simp (implicitDefEqProofs := false) only [↓reduceIte, go_sem, Nat.reduceLT, Nat.reduceEqDiff, eq_self, e4]
theorem nan04 (b : Nat) : (decide (b / 4503599627370496 % 2048 = 2047) && !decide (b % 4503599627370496 = 0)) = nanN b := by
  unfold nanN
  rw [Bool.eq_iff_iff]
  simp only [Bool.and_eq_true, decide_eq_true_eq, Bool.not_eq_true', decide_eq_false_iff_not]
  omega
set_option maxRecDepth 10000 in
theorem nan04_does (b : Nat) (hb : b < 18446744073709551616) (H : AHeap) : Does Tryz.prog 147 [du b] H (.ok (bA (nanN b))) H := by
  rw [← nan04]
  have hp := parts04_does b hb H
  generalize b / 4503599627370496 % 2048 = e at hp ⊢
  generalize b % 4503599627370496 = f at hp ⊢
  have e1 : (((e : Nat) : Int) = 2047) = (e = 2047) := by simp; omega
  have e2 : (((f : Nat) : Int) = 0) = (f = 0) := by simp
  refine Does.of_awp (hint := (fun _ => false)) Tryz.func147 (by kernel_rfl) rfl [2] (by kernel_rfl) (by decide) (by simp [Tryz.ntmps147]) ?_
  rw [Tryz.ntmps147]
  simp (implicitDefEqProofs := false) only [↓reduceIte, go_sem, Nat.reduceLT, reduceCtorEq, eq_self]
  refine KCall.ok hp ?_
  simp (implicitDefEqProofs := false) only [↓reduceIte, go_sem, Nat.reduceLT, Nat.reduceEqDiff, eq_self]
  by_cases h : e = 2047
  · simp (implicitDefEqProofs := false) only [↓reduceIte, go_sem, Nat.reduceLT, Nat.reduceEqDiff, eq_self, e2, h]
    refine AEnd.ret0 ?_
    simp (implicitDefEqProofs := false) only [↓reduceIte, go_sem, Nat.reduceLT, eq_self, h]
  · simp (implicitDefEqProofs := false) only [↓reduceIte, go_sem, Nat.reduceLT, Nat.reduceEqDiff, reduceCtorEq, eq_self, e1, h]
    refine AEnd.ret0 ?_
    simp (implicitDefEqProofs := false) only [↓reduceIte, go_sem, Nat.reduceLT, eq_self, h]
set_option maxRecDepth 10000 in
theorem clean04_does (b : Nat) (hb : b < 18446744073709551616) (H : AHeap) : Does Tryz.prog 109 [du b] H (.ok (du (cleanN b))) H := by
  unfold cleanN
  refine Does.of_awp (hint := (fun _ => false)) Tryz.func109 (by kernel_rfl) rfl [2] (by kernel_rfl) (by decide) (by simp [Tryz.ntmps109]) ?_
  rw [Tryz.ntmps109]
  simp (implicitDefEqProofs := false) only [↓reduceIte, go_sem, Nat.reduceLT, reduceCtorEq, eq_self]
  refine KCall.ok (nan04_does b hb _) ?_
  cases h : nanN b with
  | true =>
    simp (implicitDefEqProofs := false) only [↓reduceIte, go_sem, Nat.reduceLT, eq_self]
    refine AEnd.ret0 ?_
    simp (implicitDefEqProofs := false) only [↓reduceIte, go_sem, Nat.reduceLT, eq_self]
    rfl
  | false =>
    simp (implicitDefEqProofs := false) only [↓reduceIte, go_sem, Nat.reduceLT, reduceCtorEq, eq_self]
    refine AEnd.ret0 ?_
    simp (implicitDefEqProofs := false) only [↓reduceIte, go_sem, Nat.reduceLT, eq_self, Bool.false_eq_true]
set_option maxRecDepth 10000 in
theorem key04_does (b : Nat) (hb : b < 18446744073709551616) (H : AHeap) : Does Tryz.prog 70 [du b] H (.ok (du (keyN b))) H := by
  have hc := clean04_does b hb H
  have hlt := cleanN_lt b hb
  unfold keyN
  generalize cleanN b = c at hc hlt ⊢
  refine Does.of_awp (hint := (fun _ => false)) Tryz.func70 (by kernel_rfl) rfl [2] (by kernel_rfl) (by decide) (by simp [Tryz.ntmps70]) ?_
  rw [Tryz.ntmps70]
  simp (implicitDefEqProofs := false) only [↓reduceIte, go_sem, Nat.reduceLT, reduceCtorEq, eq_self]
  refine KCall.ok hc ?_
  simp (implicitDefEqProofs := false) only [↓reduceIte, go_sem, Nat.reduceLT, eq_self]
  refine KCall.ok (parts04_does c hlt _) ?_
  simp (implicitDefEqProofs := false) only [↓reduceIte, go_sem, Nat.reduceLT, Nat.reduceEqDiff, eq_self]
  by_cases h : 9223372036854775808 ≤ c
  · have e1 : IntKind.u64.wrap ((18446744073709551615 : Int) - (c : Int)) = ((18446744073709551615 - c : Nat) : Int) := by rw [show (18446744073709551615 : Int) - (c : Int) = ((18446744073709551615 - c : Nat) : Int) from by omega]; exact u64_of _ (by omega)
    simp (implicitDefEqProofs := false) only [↓reduceIte, go_sem, Nat.reduceLT, Nat.reduceEqDiff, eq_self, h, e1]
    refine AEnd.ret0 ?_
    simp (implicitDefEqProofs := false) only [↓reduceIte, go_sem, Nat.reduceLT, eq_self, h]
  · have e2 : (c : Int) + 9223372036854775808 = ((c + 9223372036854775808 : Nat) : Int) := by omega
    have e1 : IntKind.u64.wrap ((c : Int) + 9223372036854775808) = ((c + 9223372036854775808 : Nat) : Int) := by rw [show (c : Int) + 9223372036854775808 = ((c + 9223372036854775808 : Nat) : Int) from by omega]; exact u64_of _ (by omega)
    simp (implicitDefEqProofs := false) only [↓reduceIte, go_sem, Nat.reduceLT, Nat.reduceEqDiff, eq_self, h, e1]
    refine AEnd.ret0 ?_
    simp (implicitDefEqProofs := false) only [↓reduceIte, go_sem, Nat.reduceLT, eq_self, h, du, Int.natCast_add]
    try rfl
set_option maxRecDepth 10000 in
theorem fcmp04_does (a b : Nat) (ha : a < 18446744073709551616) (hb : b < 18446744073709551616) (H : AHeap) : Does Tryz.prog 39 [du a, du b] H (.ok (iA (cmpF a b))) H := by
  have k1 := key04_does a ha H
  have k2 := key04_does b hb H
  unfold cmpF
  generalize keyN a = x at k1 ⊢
  generalize keyN b = y at k2 ⊢
  refine Does.of_awp (hint := (fun _ => false)) Tryz.func39 (by kernel_rfl) rfl [4] (by kernel_rfl) (by decide) (by simp [Tryz.ntmps39]) ?_
  rw [Tryz.ntmps39]
  simp (implicitDefEqProofs := false) only [↓reduceIte, go_sem, Nat.reduceLT, Int.reduceNeg, reduceCtorEq, eq_self]
  refine KCall.ok k1 ?_
  simp (implicitDefEqProofs := false) only [↓reduceIte, go_sem, Nat.reduceLT, Nat.reduceEqDiff, eq_self]
  refine KCall.ok k2 ?_
  simp (implicitDefEqProofs := false) only [↓reduceIte, go_sem, Nat.reduceLT, Nat.reduceEqDiff, Int.reduceNeg, eq_self]
  by_cases h : x < y
  · refine awp_T (by simp (implicitDefEqProofs := false) only [go_sem, eq_self, h]) ?_
    simp (implicitDefEqProofs := false) only [go_sem, Int.reduceNeg]
    refine AEnd.ret0 ?_
    simp (implicitDefEqProofs := false) only [↓reduceIte, go_sem, Nat.reduceLT, Int.reduceNeg, eq_self, ordI, h]
  · refine awp_F (by simp (implicitDefEqProofs := false) only [go_sem, eq_self, h]) ?_
    simp (implicitDefEqProofs := false) only [↓reduceIte, go_sem, Nat.reduceLT, reduceCtorEq, eq_self]
    refine KCall.ok k1 ?_
    simp (implicitDefEqProofs := false) only [↓reduceIte, go_sem, Nat.reduceLT, Nat.reduceEqDiff, eq_self]
    refine KCall.ok k2 ?_
    simp (implicitDefEqProofs := false) only [↓reduceIte, go_sem, Nat.reduceLT, Nat.reduceEqDiff, eq_self]
    by_cases h2 : y < x
    · refine awp_T (by simp (implicitDefEqProofs := false) only [go_sem, eq_self, h2]) ?_
      simp (implicitDefEqProofs := false) only [go_sem]
      refine AEnd.ret0 ?_
      simp (implicitDefEqProofs := false) only [↓reduceIte, go_sem, Nat.reduceLT, reduceCtorEq, eq_self, ordI, h, h2]
    · refine awp_F (by simp (implicitDefEqProofs := false) only [go_sem, eq_self, h2]) ?_
      simp (implicitDefEqProofs := false) only [go_sem]
      refine AEnd.ret0 ?_
      simp (implicitDefEqProofs := false) only [↓reduceIte, go_sem, Nat.reduceLT, reduceCtorEq, eq_self, ordI, h, h2]
set_option maxRecDepth 10000 in
theorem order05_does (less more : Bool) (H : AHeap) : Does Tryz.prog 38 [bA less, bA more] H (.ok (iA (ordI less more))) H := by
  unfold ordI
  refine Does.of_awp (hint := (fun _ => false)) Tryz.func38 (by kernel_rfl) rfl [4] (by kernel_rfl) (by decide) (by simp [Tryz.ntmps38]) ?_
  rw [Tryz.ntmps38]
  cases less with
  | true =>
    simp (implicitDefEqProofs := false) only [↓reduceIte, go_sem, Nat.reduceLT, Int.reduceNeg, reduceCtorEq, eq_self]
    refine AEnd.ret0 ?_
    simp (implicitDefEqProofs := false) only [↓reduceIte, go_sem, Nat.reduceLT, Int.reduceNeg, eq_self]
  | false =>
    cases more with
    | true =>
      simp (implicitDefEqProofs := false) only [↓reduceIte, go_sem, Nat.reduceLT, Nat.reduceEqDiff, Int.reduceNeg, reduceCtorEq, eq_self]
      refine AEnd.ret0 ?_
      simp (implicitDefEqProofs := false) only [↓reduceIte, go_sem, Nat.reduceLT, eq_self, Bool.false_eq_true]
    | false =>
      simp (implicitDefEqProofs := false) only [↓reduceIte, go_sem, Nat.reduceLT, Nat.reduceEqDiff, Int.reduceNeg, reduceCtorEq, eq_self]
      refine AEnd.ret0 ?_
      simp (implicitDefEqProofs := false) only [↓reduceIte, go_sem, Nat.reduceLT, eq_self, Bool.false_eq_true]
def cmpL (a b : List UInt8) : Int := ordI (Op.bytesLess a b) (!(Op.bytesLess a b || a == b))
theorem cmpL_cons (x y : UInt8) (a b : List UInt8) : cmpL (x :: a) (y :: b) = if x.toNat < y.toNat then -1 else if y.toNat < x.toNat then 1 else cmpL a b := by
  unfold cmpL
  by_cases h : x < y
  · have h' : x.toNat < y.toNat := h
    simp [Op.bytesLess, h, h', ordI]
  · have h' : ¬ x.toNat < y.toNat := h
    by_cases h2 : y.toNat < x.toNat
    · have hne : (x == y) = false := by
        rw [beq_eq_false_iff_ne]; intro e; subst e; omega
      have hne' : ¬ x = y := by simpa using hne
      simp [Op.bytesLess, h, h', h2, ordI, hne']
    · have e : x = y := UInt8.toNat_inj.1 (by omega)
      subst e
      simp [Op.bytesLess, ordI]
theorem cmpL_nil_left (b : List UInt8) : cmpL [] b = ordI (decide (0 < b.length)) false := by
  cases b <;> simp [cmpL, Op.bytesLess, ordI]
theorem cmpL_nil_right (a : List UInt8) : cmpL a [] = ordI false (decide (0 < a.length)) := by
  cases a <;> simp [cmpL, Op.bytesLess, ordI]
theorem size_toList (a : ByteArray) : a.toList.length = a.size := by rw [ByteArray.toList_eq]; simp
theorem get_toList (a : ByteArray) (k : Nat) : a[k]? = a.toList[k]? := by
  rw [ByteArray.toList_eq]
  by_cases h : k < a.size
  · simp [h]
    rfl
  · simp [h]
theorem cmpL_drop (a b : List UInt8) : ∀ (k : Nat), k ≤ a.length → k ≤ b.length → (∀ i, i < k → a[i]? = b[i]?) → cmpL a b = cmpL (a.drop k) (b.drop k) := by
  intro k
  induction k with
  | zero => intros; rfl
  | succ k ih =>
    intro h1 h2 h
    rw [ih (by omega) (by omega) fun i hi => h i (by omega)]
    have e := h k (by omega)
    rw [List.getElem?_eq_getElem (by omega), List.getElem?_eq_getElem (by omega)] at e
    rw [List.drop_eq_getElem_cons (show k < a.length by omega), List.drop_eq_getElem_cons (show k < b.length by omega), cmpL_cons]
    have e : a[k] = b[k] := by simpa using e
    rw [e]
    simp
set_option maxRecDepth 10000 in
set_option maxHeartbeats 1000000 in
theorem texts05_does (a b : ByteArray) (ha : a.size ≤ 9223372036854775807) (H : AHeap) : Does Tryz.prog 40 [sA a, sA b] H (.ok (iA (cmpS a b))) H := by
  have hcmp : cmpS a b = cmpL a.toList b.toList := rfl
  have g1 : ∀ k, a[k]? = a.toList[k]? := get_toList a
  have g2 : ∀ k, b[k]? = b.toList[k]? := get_toList b
  have s1 := size_toList a
  have s2 := size_toList b
  have c1 : ∀ (x y : UInt8), (((x.toNat : Nat) : Int) < ((y.toNat : Nat) : Int)) = (x.toNat < y.toNat) := fun x y => by simp
  rw [hcmp]
  refine Does.of_awp (hint := (fun _ => false)) Tryz.func40 (by kernel_rfl) rfl [4] (by kernel_rfl) (by decide) (by simp [Tryz.ntmps40]) ?_
  rw [Tryz.ntmps40]
  simp (implicitDefEqProofs := false) only [go_sem, Int.reduceNeg]
  refine awp_for3 (fun k s H' => H' = H ∧ (∀ i, i < k → a.toList[i]? = b.toList[i]?) ∧ s 0 = sA a ∧ s 1 = sA b ∧ s 5 = iA k) (min a.size b.size) (by omega) (Weak.refl _ _) ?_ ?_ ?_
  · refine ⟨rfl, fun i hi => by omega, ?_⟩
    simp (implicitDefEqProofs := false) only [↓reduceIte, go_sem, Nat.reduceLT, Nat.reduceEqDiff, reduceCtorEq, eq_self]
  · rintro k s H' hk hw ⟨rfl, hp, h0, h1, h5⟩
    have k1 : k < a.size := by omega
    have k2 : k < b.size := by omega
    have e1 : (k < a.size) = True := eq_true (by omega)
    have e2 : (k < b.size) = True := eq_true (by omega)
    simp (implicitDefEqProofs := false) only [↓reduceIte, go_sem, Nat.reduceLT, Nat.reduceEqDiff, reduceCtorEq, eq_self, h0, h1, h5, e1, e2]
    have x1 : a[k]? = some a.toList[k] := by rw [g1]; exact List.getElem?_eq_getElem (by omega)
    have x2 : b[k]? = some b.toList[k] := by rw [g2]; exact List.getElem?_eq_getElem (by omega)
    have hd := cmpL_drop a.toList b.toList k (by omega) (by omega) hp
    rw [List.drop_eq_getElem_cons (show k < a.toList.length by omega), List.drop_eq_getElem_cons (show k < b.toList.length by omega), cmpL_cons] at hd
    have hp' : a.toList[k] = b.toList[k] → ∀ i, i < k + 1 → a.toList[i]? = b.toList[i]? := fun e i hi => by
      rcases Nat.lt_or_ge i k with h | h
      · exact hp i h
      · obtain rfl : i = k := by omega
        rw [List.getElem?_eq_getElem (by omega), List.getElem?_eq_getElem (by omega), e]
    generalize a.toList[k] = x at x1 hd hp'
    generalize b.toList[k] = y at x2 hd hp'
    refine awp_draw K.mixed (by kernel_rfl) ?_
    simp (implicitDefEqProofs := false) only [↓reduceIte, go_sem, Nat.reduceLT, Nat.reduceEqDiff, Int.reduceNeg, reduceCtorEq, eq_self, h0, h1, h5, x1, x2, c1]
    by_cases hxy : x.toNat < y.toNat
    · refine awp_T (by simp (implicitDefEqProofs := false) only [go_sem, eq_self, hxy]) ?_
      simp (implicitDefEqProofs := false) only [go_sem, Int.reduceNeg]
      refine AEnd.ret0 ?_
      rw [hd, if_pos hxy]
      simp (implicitDefEqProofs := false) only [↓reduceIte, go_sem, Nat.reduceLT, Int.reduceNeg, eq_self]
    · refine awp_F (by simp (implicitDefEqProofs := false) only [go_sem, eq_self, hxy]) ?_
      simp (implicitDefEqProofs := false) only [go_sem]
      refine awp_draw K.mixed (by kernel_rfl) ?_
      simp (implicitDefEqProofs := false) only [↓reduceIte, go_sem, Nat.reduceLT, Nat.reduceEqDiff, reduceCtorEq, eq_self, h0, h1, h5, x1, x2, c1]
      by_cases hyx : y.toNat < x.toNat
      · refine awp_T (by simp (implicitDefEqProofs := false) only [go_sem, eq_self, hyx]) ?_
        simp (implicitDefEqProofs := false) only [go_sem]
        refine AEnd.ret0 ?_
        rw [hd, if_neg hxy, if_pos hyx]
        simp (implicitDefEqProofs := false) only [↓reduceIte, go_sem, Nat.reduceLT, eq_self]
      · refine awp_F (by simp (implicitDefEqProofs := false) only [go_sem, eq_self, hyx]) ?_
        simp (implicitDefEqProofs := false) only [↓reduceIte, go_sem, Nat.reduceLT, Nat.reduceEqDiff, eq_self, h5]
        have e : x = y := UInt8.toNat_inj.1 (by omega)
        refine Rnd.same ⟨rfl, hp' e, ?_⟩
        simp (implicitDefEqProofs := false) only [↓reduceIte, go_sem, Nat.reduceLT, Nat.reduceEqDiff, reduceCtorEq, eq_self, h0, h1, hw]
  · rintro s H' ⟨rfl, hp, h0, h1, h5⟩
    have hd := cmpL_drop a.toList b.toList (min a.size b.size) (by omega) (by omega) hp
    rcases Nat.lt_or_ge a.size b.size with hlt | hge
    · have e0 : min a.size b.size = a.size := by omega
      rw [e0] at h5 hd
      have e1 : (a.size < a.size) = False := eq_false (by omega)
      have e2 : (a.size < b.size) = True := eq_true (by omega)
      have e3 : (b.size < a.size) = False := eq_false (by omega)
      simp (implicitDefEqProofs := false) only [↓reduceIte, go_sem, Nat.reduceLT, Nat.reduceEqDiff, reduceCtorEq, eq_self, h0, h1, h5, e1]
      refine KCall.ok (order05_does _ _ _) ?_
      simp (implicitDefEqProofs := false) only [↓reduceIte, go_sem, Nat.reduceLT, eq_self]
      refine AEnd.ret0 ?_
      rw [hd, List.drop_of_length_le (Nat.le_of_eq s1), cmpL_nil_left, List.length_drop]
      simp (implicitDefEqProofs := false) only [↓reduceIte, go_sem, Nat.reduceLT, eq_self, e2, e3, show (0 < b.toList.length - a.size) = True from eq_true (by omega)]
    · have e0 : min a.size b.size = b.size := by omega
      rw [e0] at h5 hd
      have e1 : (b.size < b.size) = False := eq_false (by omega)
      have e2 : (a.size < b.size) = False := eq_false (by omega)
      by_cases hlt : b.size < a.size
      · have e3 : (b.size < a.size) = True := eq_true (by omega)
        simp (implicitDefEqProofs := false) only [↓reduceIte, go_sem, Nat.reduceLT, Nat.reduceEqDiff, reduceCtorEq, eq_self, h0, h1, h5, e1, e3]
        refine KCall.ok (order05_does _ _ _) ?_
        simp (implicitDefEqProofs := false) only [↓reduceIte, go_sem, Nat.reduceLT, eq_self]
        refine AEnd.ret0 ?_
        rw [hd, List.drop_of_length_le (Nat.le_of_eq s2), cmpL_nil_right, List.length_drop]
        simp (implicitDefEqProofs := false) only [↓reduceIte, go_sem, Nat.reduceLT, eq_self, e2, show (0 < a.toList.length - b.size) = True from eq_true (by omega)]
      · have e3 : (b.size < a.size) = False := eq_false (by omega)
        simp (implicitDefEqProofs := false) only [↓reduceIte, go_sem, Nat.reduceLT, Nat.reduceEqDiff, reduceCtorEq, eq_self, h0, h1, h5, e3]
        refine KCall.ok (order05_does _ _ _) ?_
        simp (implicitDefEqProofs := false) only [↓reduceIte, go_sem, Nat.reduceLT, eq_self]
        refine AEnd.ret0 ?_
        rw [hd, List.drop_of_length_le (Nat.le_of_eq s2), cmpL_nil_right, List.length_drop]
        simp (implicitDefEqProofs := false) only [↓reduceIte, go_sem, Nat.reduceLT, eq_self, e2, show (0 < a.toList.length - b.size) = False from eq_false (by omega)]
set_option maxRecDepth 10000 in
set_option maxHeartbeats 1000000 in
theorem vcmp05_does (a b : Val) (ha : a.s.size ≤ 9223372036854775807) (H : AHeap) : Does Tryz.prog 17 [a.av, b.av] H (.ok (iA (cmpV a b))) H := by
  unfold cmpV
  refine Does.of_awp (hint := (fun _ => false)) Tryz.func17 (by kernel_rfl) rfl [4] (by kernel_rfl) (by decide) (by simp [Tryz.ntmps17]) ?_
  rw [Tryz.ntmps17]
  simp (implicitDefEqProofs := false) only [↓reduceIte, go_sem, oread, Nat.reduceAdd, Nat.reduceLT, Nat.reduceLeDiff, Nat.reduceEqDiff, eq_self]
  by_cases h : a.kind = b.kind
  · refine awp_F (by simp (implicitDefEqProofs := false) only [go_sem, eq_self, h]) ?_
    simp (implicitDefEqProofs := false) only [↓reduceIte, go_sem, oread, Nat.reduceAdd, Nat.reduceLT, Nat.reduceLeDiff, Nat.reduceEqDiff, eq_self]
    by_cases h1 : a.kind = 1
    · refine awp_T (by simp (implicitDefEqProofs := false) only [go_sem, eq_self, h1]) ?_
      simp (implicitDefEqProofs := false) only [↓reduceIte, go_sem, oread, Nat.reduceAdd, Nat.reduceLT, Nat.reduceLeDiff, Nat.reduceEqDiff, eq_self]
      refine KCall.ok (order05_does _ _ _) ?_
      simp (implicitDefEqProofs := false) only [↓reduceIte, go_sem, Nat.reduceLT, eq_self]
      refine AEnd.ret ?_
      simp (implicitDefEqProofs := false) only [↓reduceIte, go_sem, Nat.reduceLT, eq_self, h1, ← h, cmpI]
    · refine awp_F (by simp (implicitDefEqProofs := false) only [go_sem, eq_self, h1]) ?_
      simp (implicitDefEqProofs := false) only [↓reduceIte, go_sem, Nat.reduceLT, Nat.reduceEqDiff, eq_self]
      by_cases h2 : a.kind = 2
      · refine awp_T (by simp (implicitDefEqProofs := false) only [go_sem, eq_self, h2]) ?_
        simp (implicitDefEqProofs := false) only [↓reduceIte, go_sem, oread, Nat.reduceAdd, Nat.reduceLT, Nat.reduceLeDiff, Nat.reduceEqDiff, eq_self, wrap_toU]
        refine KCall.ok (fcmp04_does _ _ (toU_lt _) (toU_lt _) _) ?_
        simp (implicitDefEqProofs := false) only [↓reduceIte, go_sem, Nat.reduceLT, eq_self]
        refine AEnd.ret ?_
        simp (implicitDefEqProofs := false) only [↓reduceIte, go_sem, Nat.reduceLT, Int.reduceEq, eq_self, h2, ← h]
      · refine awp_F (by simp (implicitDefEqProofs := false) only [go_sem, eq_self, h2]) ?_
        simp (implicitDefEqProofs := false) only [↓reduceIte, go_sem, Nat.reduceLT, Nat.reduceEqDiff, eq_self]
        by_cases h3 : a.kind = 3
        · refine awp_T (by simp (implicitDefEqProofs := false) only [go_sem, eq_self, h3]) ?_
          simp (implicitDefEqProofs := false) only [↓reduceIte, go_sem, oread, Nat.reduceAdd, Nat.reduceLT, Nat.reduceEqDiff, eq_self]
          refine KCall.ok (texts05_does _ _ ha _) ?_
          simp (implicitDefEqProofs := false) only [↓reduceIte, go_sem, Nat.reduceLT, eq_self]
          refine AEnd.ret ?_
          simp (implicitDefEqProofs := false) only [↓reduceIte, go_sem, Nat.reduceLT, Int.reduceEq, eq_self, h3, ← h]
        · refine awp_F (by simp (implicitDefEqProofs := false) only [go_sem, eq_self, h3]) ?_
          simp (implicitDefEqProofs := false) only [go_sem]
          refine AEnd.ret ?_
          simp (implicitDefEqProofs := false) only [↓reduceIte, go_sem, Nat.reduceLT, eq_self, h1, h2, h3, ← h]
  · refine awp_T (by simp (implicitDefEqProofs := false) only [go_sem, eq_self, h]) ?_
    simp (implicitDefEqProofs := false) only [↓reduceIte, go_sem, oread, Nat.reduceAdd, Nat.reduceLT, Nat.reduceLeDiff, Nat.reduceEqDiff, eq_self]
    refine KCall.ok (order05_does _ _ _) ?_
    simp (implicitDefEqProofs := false) only [↓reduceIte, go_sem, Nat.reduceLT, eq_self]
    refine AEnd.ret ?_
    simp (implicitDefEqProofs := false) only [↓reduceIte, go_sem, Nat.reduceLT, eq_self, h, cmpI]
end Go.Proofs.YtmbagpfmfiegkaaGreat
namespace Go.Proofs.YtmbagpfmfiegkaaGreat
open Go.Proofs.YtmbagpfmfiegkaaGreatAw Go.RowKit
set_option linter.unusedVariables false
set_option linter.unusedSimpArgs false
def belowP (words : List Val) (v : Val) : Nat := words.countP fun w => decide (cmpV w v < 0)
end Go.Proofs.YtmbagpfmfiegkaaGreat
namespace Go.Proofs.YtmbagpfmfiegkaaGreat
open Go.Proofs.YtmbagpfmfiegkaaGreatAw Go.RowKit
set_option linter.unusedVariables false
set_option linter.unusedSimpArgs false
end Go.Proofs.YtmbagpfmfiegkaaGreat
namespace Go.Proofs.YtmbagpfmfiegkaaGreat
open Go.Proofs.YtmbagpfmfiegkaaGreatAw Go.RowKit
set_option linter.unusedVariables false
set_option linter.unusedSimpArgs false
def placeP (words : List Val) (v : Val) : Int := idxP (fun w => decide (cmpV w v = 0)) words
theorem placeP_rng (words : List Val) (v : Val) : -1 ≤ placeP words v ∧ placeP words v < words.length ∨ words = [] ∧ placeP words v = -1 := by
  unfold placeP idxP
  split
  · rename_i h
    obtain ⟨x, hx, hp⟩ := List.any_eq_true.1 h
    have : words.findIdx (fun w => decide (cmpV w v = 0)) < words.length := List.findIdx_lt_length_of_exists ⟨x, hx, hp⟩
    left; omega
  · cases words with
    | nil => exact .inr ⟨rfl, rfl⟩
    | cons a l => left; simp; omega
/-- The codes, or none. -/
def codesOk (words l : List Val) : Bool := l.all fun v => decide (0 ≤ placeP words v)
def codesP (words l : List Val) : List Nat := if codesOk words l then l.map fun v => (placeP words v).toNat else []
def codesE (words l : List Val) : Int := if codesOk words l then 0 else 6
def codesR (words l : List Val) : AV := .tup [.d (.list false (us (codesP words l))), iA (codesE words l)]
theorem codes_bad {words l : List Val} {k : Nat} (hk : k < l.length) (h : placeP words l[k] < 0) : codesOk words l = false := by
  rw [Bool.eq_false_iff]
  intro g
  unfold codesOk at g
  rw [List.all_eq_true] at g
  have := g _ (List.getElem_mem hk)
  simp at this
  omega
theorem codes_good {words l : List Val} (h : ∀ i (hi : i < l.length), 0 ≤ placeP words l[i]) : codesOk words l = true := by
  unfold codesOk
  rw [List.all_eq_true]
  intro v hv
  obtain ⟨i, hi, rfl⟩ := List.mem_iff_getElem.1 hv
  simpa using h i hi
def vbox (v : Val) : AObj := .box 25 3 0 1 [iA v.kind, iA v.i, sA v.s]
set_option maxRecDepth 10000 in
theorem codes1_does (w v : Val) (id : Nat) (H : AHeap) (hb : H[id]? = some (vbox v)) : Does Tryz.prog 155 [w.av, .ptr id 0 0 0] H (.ok (bA (decide (cmpV w v = 0)))) H := by
  have hlt : id < H.length := (List.getElem?_eq_some_iff.1 hb).1
  unfold vbox at hb
  refine Does.of_awp (hint := (fun _ => false)) Tryz.func155 (by kernel_rfl) rfl [3] (by kernel_rfl) (by decide) (by simp [Tryz.ntmps155]) ?_
  rw [Tryz.ntmps155]
  simp (implicitDefEqProofs := false) only [↓reduceIte, go_sem, oread, Nat.reduceAdd, Nat.reduceLT, Nat.reduceEqDiff, eq_self, hb, List.getElem?_append_left hlt]
  refine KCall.ok (vcmp_does w v _) ?_
  simp (implicitDefEqProofs := false) only [↓reduceIte, go_sem, Nat.reduceLT, eq_self]
  refine AEnd.ret ?_
  simp (implicitDefEqProofs := false) only [↓reduceIte, go_sem, Nat.reduceLT, eq_self]
set_option maxRecDepth 10000 in
set_option maxHeartbeats 1000000 in
theorem codes_does' (words l : List Val) (n1 n2 : Bool) (H : AHeap) (hw : words.length ≤ 1000000000000) (hl : l.length ≤ 1000000000000) : Does Tryz.prog 120 [.d (.list n1 (words.map Val.enc)), .d (.list n2 (l.map Val.enc))] H
    (.ok (if codesOk words l then .tup [.d (.list false (us (l.map fun v => (placeP words v).toNat))), iA 0] else .tup [.d (.v (.slice none 0 0)), iA 6])) H := by
  refine Does.of_awp (hint := (fun _ => false)) Tryz.func120 (by kernel_rfl) rfl [4, 5] (by kernel_rfl) (by decide) (by simp [Tryz.ntmps120]) ?_
  rw [Tryz.ntmps120]
  simp (implicitDefEqProofs := false) only [↓reduceIte, go_sem, Nat.reduceLT, Nat.reduceEqDiff, eq_self]
  refine awp_for (fun k s H' => H' = H ++ [.arr 49 1 k (us ((l.take k).map fun v => (placeP words v).toNat))] ∧ (∀ i (hi : i < k) (hl : i < l.length), 0 ≤ placeP words l[i]) ∧ s 0 = .d (.list n1 (words.map Val.enc)) ∧ s 6 = .sl H.length k 0 k ∧ s 10 = .d (.list n2 (l.map Val.enc)) ∧ s 11 = iA l.length ∧ s 12 = iA k) l.length (by omega) (Weak.virt1 _ _ 6 49 1 (by decide) (by simp (implicitDefEqProofs := false) only [↓reduceIte, go_sem, Nat.reduceLT, Nat.reduceEqDiff, eq_self]) _) ?_ ?_ ?_
  · refine ⟨rfl, fun i hi => by omega, ?_⟩
    simp (implicitDefEqProofs := false) only [↓reduceIte, go_sem, Nat.reduceLT, Nat.reduceEqDiff, reduceCtorEq, eq_self]
  · rintro k s H' hk hw' ⟨rfl, hp, t0, t6, t10, t11, t12⟩
    have hx := List.getElem?_eq_getElem hk
    have e1 : (l.take (k + 1)).map (fun v => (placeP words v).toNat) = (l.take k).map (fun v => (placeP words v).toNat) ++ [(placeP words l[k]).toNat] := by rw [List.take_succ_eq_append_getElem hk, List.map_append]; rfl
    have hbad := codes_bad (words := words) hk
    have hrng := placeP_rng words l[k]
    have hpp : 0 ≤ placeP words l[k] → ∀ i (hi : i < k + 1) (hl : i < l.length), 0 ≤ placeP words l[i] := fun h0 i hi hl' => by
      rcases Nat.lt_or_ge i k with h | h
      · exact hp i h hl'
      · obtain rfl : i = k := by omega
        exact h0
    have hlen : ((l.take k).map fun v => (placeP words v).toNat).length = k := by simp; omega
    generalize l[k] = x at hx e1 hbad hrng hpp
    generalize (l.take k).map (fun v => (placeP words v).toNat) = L at e1 hlen ⊢
    simp (implicitDefEqProofs := false) only [↓reduceIte, go_sem, owrite, Nat.reduceAdd, Nat.reduceLT, Nat.reduceEqDiff, reduceCtorEq, eq_self, t10, t11, t12, hk, hx, Val.enc]
    simp (implicitDefEqProofs := false) only [go_sem, t0]
    refine KCall.ok (indexV_does words (fun w => decide (cmpV w x = 0)) 155 [.ptr (H.length + 1) 0 0 0] n1 _ (by omega) fun w _ => codes1_does w x _ _ (by simp [vbox])) ?_
    have hpl : idxP (fun w => decide (cmpV w x = 0)) words = placeP words x := rfl
    rw [hpl]
    generalize hq : placeP words x = q at *
    by_cases hq0 : q < 0
    · simp (implicitDefEqProofs := false) only [↓reduceIte, go_sem, Nat.reduceLT, eq_self, hq0]
      refine AEnd.ret ?_
      rw [hbad hq0]
      simp (implicitDefEqProofs := false) only [↓reduceIte, go_sem, Nat.reduceLT, Nat.reduceEqDiff, eq_self, Bool.false_eq_true]
    · obtain ⟨n, rfl⟩ : ∃ n : Nat, q = (n : Int) := ⟨q.toNat, by omega⟩
      have hnw : n < 1000000000000 := by omega
      have hu : IntKind.u64.wrap (n : Int) = (n : Int) := wrapu64_in _ (by omega) (by omega)
      simp (implicitDefEqProofs := false) only [↓reduceIte, go_sem, Nat.reduceAdd, Nat.reduceLT, Nat.reduceLeDiff, Nat.reduceEqDiff, eq_self, t6, t12, hq0, hu, us_len, hlen, us_snoc]
      refine ⟨by omega, by omega, ?_⟩
      refine Rnd.cut [.arr 49 1 (k + 1) (us (L ++ [n]))] [vbox x] 1 rfl rfl (by simp (implicitDefEqProofs := false) only [go_sem, eq_self]) ?_
      refine ⟨by rw [e1]; simp, hpp (by omega), ?_⟩
      simp (implicitDefEqProofs := false) only [↓reduceIte, go_sem, Nat.reduceLT, Nat.reduceEqDiff, reduceCtorEq, eq_self, t0, t10, t11, hw', Nat.lt_succ_self]
  · rintro s H' ⟨rfl, hp, t0, t6, t10, t11, t12⟩
    have hg := codes_good (words := words) fun i hi => hp i hi hi
    rw [List.take_length, hg]
    simp (implicitDefEqProofs := false) only [↓reduceIte, go_sem, Nat.reduceLT, Nat.reduceEqDiff, eq_self, t6, t11, t12]
    refine AEnd.ret ?_
    simp (implicitDefEqProofs := false) only [↓reduceIte, go_sem, Nat.reduceLT, Nat.reduceEqDiff, eq_self, take_len, us_len]
theorem codes_does (words l : List Val) (n1 n2 : Bool) (H : AHeap) (hw : words.length ≤ 1000000000000) (hl : l.length ≤ 1000000000000) : Does Tryz.prog 120 [.d (.list n1 (words.map Val.enc)), .d (.list n2 (l.map Val.enc))] H (.ok (codesR words l)) H := by
  have h := codes_does' words l n1 n2 H hw hl
  unfold codesR codesP codesE
  cases hc : codesOk words l with
  | true => rw [hc] at h; simpa using h
  | false =>
    rw [hc] at h
    simp only [Bool.false_eq_true, if_false] at h ⊢
    exact h.subT (.cons .nil (.cons (.refl _) .nil))
end Go.Proofs.YtmbagpfmfiegkaaGreat
namespace Go.Proofs.YtmbagpfmfiegkaaGreat
open Go.Proofs.YtmbagpfmfiegkaaGreatAw Go.RowKit
set_option linter.unusedVariables false
set_option linter.unusedSimpArgs false
namespace SV
theorem encK (l : List Val) : (∀ c ∈ l.map Val.enc, c.length = 3) = True := eq_true fun c hc => by obtain ⟨a, _, rfl⟩ := List.mem_map.1 hc; rfl
theorem nilnil (K : Value → Prop) : binK Tryz.prog .eql 42 (.slice none 0 0) (.slice none 0 0) K = K (.bool true) := nilEq_bin (e := 25) (by kernel_rfl) K
set_option maxRecDepth 10000 in
theorem cloneNil_does (H : AHeap) : Does Tryz.prog 151 [.d (.v (.slice none 0 0))] H (.ok (.d (.v (.slice none 0 0)))) H := by
  refine Does.of_awp (hint := (fun _ => false)) Tryz.func151 (by kernel_rfl) rfl [2] (by kernel_rfl) (by decide) (by simp [Tryz.ntmps151]) ?_
  rw [Tryz.ntmps151]
  simp (implicitDefEqProofs := false) only [↓reduceIte, go_sem, Nat.reduceLT, reduceCtorEq, eq_self, nilnil]
  refine AEnd.ret0 ?_
  simp (implicitDefEqProofs := false) only [↓reduceIte, go_sem, Nat.reduceLT, eq_self]
set_option maxRecDepth 10000 in
theorem cloneK_does (l : List Val) (nn : Bool) (H : AHeap) (h0 : nn = true ∨ l ≠ []) (hl : l.length ≤ 1000000000000) : Does Tryz.prog 151 [.d (.list nn (l.map Val.enc))] H (.ok (.sl H.length 1 0 l.length)) (H ++ [.arr 25 3 1 (l.map Val.enc)]) := by
  have e1 : (nn || !(l.map Val.enc).isEmpty) = true := by
    rcases h0 with h | h
    · simp [h]
    · cases l with
      | nil => exact absurd rfl h
      | cons a l => simp
  refine Does.of_awp (hint := (fun _ => false)) Tryz.func151 (by kernel_rfl) rfl [2] (by kernel_rfl) (by decide) (by simp [Tryz.ntmps151]) ?_
  rw [Tryz.ntmps151]
  simp (implicitDefEqProofs := false) only [↓reduceIte, go_sem, Nat.reduceAdd, Nat.reduceLT, Nat.reduceEqDiff, reduceCtorEq, eq_self, e1, encK]
  refine ⟨by omega, by omega, _, Weak.refl _ _, ?_⟩
  simp (implicitDefEqProofs := false) only [↓reduceIte, go_sem, Nat.reduceLT, eq_self]
/-- A copy of one's own. -/
theorem clone_does (l : List Val) (nn : Bool) (H : AHeap) (hl : l.length ≤ 1000000000000) : Does Tryz.prog 151 [.d (.list nn (l.map Val.enc))] H (.ok (.sl H.length 1 0 l.length)) (H ++ [.arr 25 3 1 (l.map Val.enc)]) := by
  cases nn with
  | true => exact cloneK_does l true H (.inl rfl) hl
  | false =>
    cases l with
    | cons a l => exact cloneK_does _ false H (.inr (by simp)) hl
    | nil =>
      refine Does.splitNil [] [] ?_ (cloneK_does [] true H (.inl rfl) (by simp))
      have := (cloneNil_does H).weak (Weak.virtV (sOne _) H 0 25 3 1 (by decide) rfl)
      simpa [sOne] using this
end SV
end Go.Proofs.YtmbagpfmfiegkaaGreat
namespace Go.Proofs.YtmbagpfmfiegkaaGreat
open Go.Proofs.YtmbagpfmfiegkaaGreatAw Go.RowKit
set_option linter.unusedVariables false
set_option linter.unusedSimpArgs false
namespace SV
/-- The heap in which an array has these elements. -/
def aH (H : AHeap) (id ver : Nat) (L : List Val) : AHeap := H.set id (.arr 25 3 ver (L.map Val.enc))
theorem aH_get {H : AHeap} {id : Nat} (h : id < H.length) (ver : Nat) (L : List Val) : (aH H id ver L)[id]? = some (.arr 25 3 ver (L.map Val.enc)) := by simp [aH, h]
theorem aH_set (H : AHeap) (id ver : Nat) (L : List Val) (v : Nat) (es : List (List D)) : (aH H id ver L).set id (.arr 25 3 v es) = H.set id (.arr 25 3 v es) := by simp [aH]
theorem aH_fold (H : AHeap) (id ver : Nat) (L : List Val) : H.set id (.arr 25 3 ver (L.map Val.enc)) = aH H id ver L := rfl
theorem get_enc {L : List Val} {i : Nat} {x : Val} (h : L[i]? = some x) : (L.map Val.enc)[i]? = some x.enc := by simp [h]
theorem set_enc (L : List Val) (i : Nat) (x : Val) : (L.map Val.enc).set i x.enc = (L.set i x).map Val.enc := by simp [List.map_set]
theorem get_at {A B : List Val} {x : Val} {n : Nat} (h : A.length = n) : (A ++ x :: B)[n]? = some x := by subst h; simp
theorem set_at {A B : List Val} {x y : Val} {n : Nat} (h : A.length = n) : (A ++ x :: B).set n y = A ++ y :: B := by subst h; simp
def swL (P X M Y Q : List Val) (k : Nat) : List Val := P ++ Y.take k ++ (X.drop k ++ M ++ X.take k ++ (Y.drop k ++ Q))
theorem swL_zero (P X M Y Q : List Val) : swL P X M Y Q 0 = P ++ X ++ M ++ Y ++ Q := by simp [swL]
theorem swL_end (P X M Y Q : List Val) (n : Nat) (h1 : X.length = n) (h2 : Y.length = n) : swL P X M Y Q n = P ++ Y ++ M ++ X ++ Q := by
  unfold swL
  rw [List.take_of_length_le (by omega), List.drop_of_length_le (by omega), List.take_of_length_le (by omega), List.drop_of_length_le (by omega)]
  simp
theorem swL_step (P X M Y Q : List Val) (k : Nat) (hk : k < X.length) (h : X.length = Y.length) : ∃ x y, (swL P X M Y Q k)[P.length + k]? = some x ∧ (swL P X M Y Q k)[P.length + X.length + M.length + k]? = some y ∧
    ((swL P X M Y Q k).set (P.length + k) y).set (P.length + X.length + M.length + k) x = swL P X M Y Q (k + 1) := by
  have hk2 : k < Y.length := by omega
  have e1 : X.drop k = X[k] :: X.drop (k + 1) := List.drop_eq_getElem_cons hk
  have e2 : Y.drop k = Y[k] :: Y.drop (k + 1) := List.drop_eq_getElem_cons hk2
  have e3 : X.take (k + 1) = X.take k ++ [X[k]] := List.take_succ_eq_append_getElem hk
  have e4 : Y.take (k + 1) = Y.take k ++ [Y[k]] := List.take_succ_eq_append_getElem hk2
  have l1 : (P ++ Y.take k).length = P.length + k := by simp; omega
  have l2 : (X.drop (k + 1)).length = X.length - (k + 1) := by simp
  have l3 : (X.take k).length = k := by simp; omega
  unfold swL
  rw [e1, e2, e3, e4]
  generalize X[k] = x
  generalize Y[k] = y
  generalize X.drop (k + 1) = X1 at *
  generalize Y.drop (k + 1) = Y1 at *
  generalize X.take k = X0 at *
  generalize Y.take k = Y0 at *
  have a1 : P ++ Y0 ++ (x :: X1 ++ M ++ X0 ++ (y :: Y1 ++ Q)) = (P ++ Y0) ++ x :: (X1 ++ M ++ X0 ++ (y :: Y1 ++ Q)) := by simp
  have a2 : P ++ Y0 ++ (x :: X1 ++ M ++ X0 ++ (y :: Y1 ++ Q)) = (P ++ Y0 ++ x :: X1 ++ M ++ X0) ++ y :: (Y1 ++ Q) := by simp
  have a3 : (P ++ Y0) ++ y :: (X1 ++ M ++ X0 ++ (y :: Y1 ++ Q)) = (P ++ Y0 ++ y :: X1 ++ M ++ X0) ++ y :: (Y1 ++ Q) := by simp
  refine ⟨x, y, ?_, ?_, ?_⟩
  · rw [a1]; exact get_at l1
  · rw [a2]
    refine get_at ?_
    simp only [List.length_append, List.length_cons, l2, l3] at *
    omega
  · rw [a1, set_at l1, a3, set_at (by simp only [List.length_append, List.length_cons, l2, l3] at *; omega)]
    simp
set_option maxRecDepth 10000 in
set_option maxHeartbeats 1000000 in
theorem swapRange_does (H : AHeap) (id ver : Nat) (hid : id < H.length) (g : FuncId) (caps : List AV) (P X M Y Q : List Val) (a b n m : Nat) (ha : P.length = a) (hn : X.length = n) (hy : Y.length = n) (hb : P.length + X.length + M.length = b)
    (hm : (P ++ X ++ M ++ Y ++ Q).length = m) (hbig : m ≤ 1000000000000) :
    Does Tryz.prog 182 [.sl id ver 0 m, iA a, iA b, iA n, .fn g caps] (aH H id ver (P ++ X ++ M ++ Y ++ Q)) (.ok (.tup [])) (aH H id ver (P ++ Y ++ M ++ X ++ Q)) := by
  have hml : P.length + X.length + M.length + Y.length + Q.length = m := by rw [← hm]; simp; omega
  generalize hE : aH H id ver (P ++ Y ++ M ++ X ++ Q) = E
  generalize hE0 : aH H id ver (P ++ X ++ M ++ Y ++ Q) = E0
  refine Does.of_awp (hint := (fun _ => false)) Tryz.func182 (by kernel_rfl) rfl [] (by kernel_rfl) (by decide) (by simp [Tryz.ntmps182]) ?_
  rw [Tryz.ntmps182]
  simp (implicitDefEqProofs := false) only [go_sem]
  refine awp_for3 (fun k s H' => H' = aH H id ver (swL P X M Y Q k) ∧ s 0 = .sl id ver 0 m ∧ s 1 = iA a ∧ s 2 = iA b ∧ s 3 = iA n ∧ s 10 = iA k) n (by omega) (Weak.refl _ _) ?_ ?_ ?_
  · refine ⟨by rw [swL_zero, hE0], ?_⟩
    simp (implicitDefEqProofs := false) only [↓reduceIte, go_sem, Nat.reduceLT, Nat.reduceEqDiff, reduceCtorEq, eq_self]
  · rintro k s H' hk hw ⟨rfl, t0, t1, t2, t3, t10⟩
    obtain ⟨x, y, hx, hy2, hst⟩ := swL_step P X M Y Q k (by omega) (by omega)
    rw [hb] at hy2 hst
    rw [ha] at hx hst
    obtain ⟨i, hi⟩ : ∃ i, i = a + k := ⟨_, rfl⟩
    obtain ⟨j, hj⟩ : ∃ j, j = b + k := ⟨_, rfl⟩
    have w1 : IntKind.i64.wrap ((a : Int) + (k : Int)) = (i : Int) := by rw [wrap64_in _ (by omega) (by omega)]; omega
    have w2 : IntKind.i64.wrap ((b : Int) + (k : Int)) = (j : Int) := by rw [wrap64_in _ (by omega) (by omega)]; omega
    rw [← hi] at hx hst
    rw [← hj] at hy2 hst
    have hil : i < m := by omega
    have hjl : j < m := by omega
    generalize swL P X M Y Q k = L at *
    generalize swL P X M Y Q (k + 1) = L' at *
    have gx := get_enc hx
    have gy := get_enc hy2
    have gh := aH_get hid ver L
    have s1 := set_enc L i y
    have s2 := set_enc (L.set i y) j x
    rw [hst] at s2
    have gy2 : ((L.set i y).map Val.enc)[j]? = some y.enc := by
      refine get_enc ?_
      rw [List.getElem?_set]
      by_cases hij : i = j
      · omega
      · rw [if_neg hij]; exact hy2
    simp only [Val.enc] at gx gy gy2 s1 s2
    simp (implicitDefEqProofs := false) only [↓reduceIte, go_sem, Nat.reduceLT, Nat.reduceEqDiff, eq_self, t3, t10, hk]
    refine awp_drawN [false, false, false, false, false, false, false, false, false, false, false, false, false, false, false, false, false, false, false, false, true, true, true, true] 20 K.mixed (by kernel_rfl) (by kernel_rfl) (by kernel_rfl) ?_
    simp (implicitDefEqProofs := false) only [↓reduceIte, go_sem, oread, owrite, Nat.reduceAdd, Nat.reduceLT, Nat.reduceEqDiff, reduceCtorEq, eq_self, t0, t1, t2, t10, w1, w2, hil, hjl, gh, gx, gy, aH_set, s1, s2, gy2, hid, List.getElem?_set_self, List.set_set]
    refine Rnd.same ⟨by rw [← aH_fold], ?_⟩
    simp (implicitDefEqProofs := false) only [↓reduceIte, go_sem, Nat.reduceLT, Nat.reduceEqDiff, reduceCtorEq, eq_self, t0, t1, t2, t3, hw]
  · rintro s H' ⟨rfl, t0, t1, t2, t3, t10⟩
    simp (implicitDefEqProofs := false) only [↓reduceIte, go_sem, Nat.reduceLT, Nat.reduceEqDiff, eq_self, t3, t10]
    rw [swL_end _ _ _ _ _ n hn hy, hE]
    exact ⟨_, Weak.refl _ _, rfl⟩
theorem swapRange_at (H : AHeap) (id ver : Nat) (hid : id < H.length) (g : FuncId) (caps : List AV) (P X M Y Q L L' : List Val) (a b n m : Nat) (hL : L = P ++ X ++ M ++ Y ++ Q) (hL' : L' = P ++ Y ++ M ++ X ++ Q) (ha : P.length = a) (hn : X.length = n) (hy : Y.length = n) (hb : P.length + X.length + M.length = b)
    (hm : L.length = m) (hbig : m ≤ 1000000000000) :
    Does Tryz.prog 182 [.sl id ver 0 m, iA a, iA b, iA n, .fn g caps] (aH H id ver L) (.ok (.tup [])) (aH H id ver L') := by
  subst hL hL'
  exact swapRange_does H id ver hid g caps P X M Y Q a b n m ha hn hy hb hm hbig
end SV
end Go.Proofs.YtmbagpfmfiegkaaGreat
namespace Go.Proofs.YtmbagpfmfiegkaaGreat
open Go.Proofs.YtmbagpfmfiegkaaGreatAw Go.RowKit
set_option linter.unusedVariables false
set_option linter.unusedSimpArgs false
namespace SV
structure RotI where
  L : List Val
  P : List Val
  U : List Val
  V : List Val
  Q : List Val
set_option maxRecDepth 10000 in
set_option maxHeartbeats 1000000 in
theorem rotate_does (H : AHeap) (id ver : Nat) (hid : id < H.length) (g : FuncId) (caps : List AV) (P U V Q L T : List Val) (hL : L = P ++ U ++ V ++ Q) (hT : T = P ++ V ++ U ++ Q) (a m b n : Nat) (ha : P.length = a) (hm : P.length + U.length = m) (hb : P.length + U.length + V.length = b) (hU : 0 < U.length) (hV : 0 < V.length)
    (hn : L.length = n) (hbig : n ≤ 1000000000000) :
    Does Tryz.prog 181 [.sl id ver 0 n, iA a, iA m, iA b, .fn g caps] (aH H id ver L) (.ok (.tup [])) (aH H id ver T) := by
  have hnl : P.length + U.length + V.length + Q.length = n := by rw [← hn, hL]; simp; omega
  generalize hE0 : aH H id ver L = E0
  have w1 : IntKind.i64.wrap ((m : Int) - (a : Int)) = ((U.length : Nat) : Int) := by rw [wrap64_in _ (by omega) (by omega)]; omega
  have w2 : IntKind.i64.wrap ((b : Int) - (m : Int)) = ((V.length : Nat) : Int) := by rw [wrap64_in _ (by omega) (by omega)]; omega
  refine Does.of_awp (hint := (fun _ => false)) Tryz.func181 (by kernel_rfl) rfl [] (by kernel_rfl) (by decide) (by simp [Tryz.ntmps181]) ?_
  rw [Tryz.ntmps181]
  simp (implicitDefEqProofs := false) only [↓reduceIte, go_sem, Nat.reduceLT, Nat.reduceEqDiff, eq_self, w1, w2]
  refine awp_loop _ _ _ _ (fun (x : RotI) s H' => H' = aH H id ver x.L ∧ x.L = x.P ++ x.U ++ x.V ++ x.Q ∧ T = x.P ++ x.V ++ x.U ++ x.Q ∧ x.P.length + x.U.length = m ∧ 0 < x.U.length ∧ 0 < x.V.length ∧ x.L.length = n ∧
      s 0 = .sl id ver 0 n ∧ s 2 = iA m ∧ s 4 = .fn g caps ∧ s 10 = iA x.U.length ∧ s 11 = iA x.V.length) (fun x => x.U.length + x.V.length) ⟨L, P, U, V, Q⟩ (Weak.refl _ _) ?_ ?_
  · refine ⟨hE0.symm, hL, hT, hm, hU, hV, hn, ?_⟩
    simp (implicitDefEqProofs := false) only [↓reduceIte, go_sem, Nat.reduceLT, Nat.reduceEqDiff, reduceCtorEq, eq_self]
  · rintro ⟨L', P', U', V', Q'⟩ s H' ⟨rfl, hL', hT', hm', hU', hV', hn', t0, t2, t4, t10, t11⟩
    simp only at hL' hT' hm' hU' hV' hn' t0 t2 t4 t10 t11
    have hnl' : P'.length + U'.length + V'.length + Q'.length = n := by rw [← hn', hL']; simp; omega
    have w3 : IntKind.i64.wrap ((m : Int) - (U'.length : Int)) = ((P'.length : Nat) : Int) := by rw [wrap64_in _ (by omega) (by omega)]; omega
    by_cases hij : U'.length = V'.length
    · have hij' : (((U'.length : Nat) : Int) != ((V'.length : Nat) : Int)) = false := by simp [hij]
      simp (implicitDefEqProofs := false) only [↓reduceIte, go_sem, Nat.reduceLT, Nat.reduceEqDiff, reduceCtorEq, eq_self, t10, t11, hij']
      simp (implicitDefEqProofs := false) only [↓reduceIte, go_sem, Nat.reduceLT, Nat.reduceEqDiff, eq_self, t0, t2, t4, t10, w3]
      refine KCall.ok (swapRange_at H id ver hid g caps P' U' [] V' Q' L' T P'.length m U'.length n (by rw [hL']; simp) (by rw [hT']; simp) rfl rfl (by omega) (by simp; omega) hn' hbig) ?_
      simp (implicitDefEqProofs := false) only [go_sem]
      exact ⟨_, Weak.refl _ _, rfl⟩
    · have hij' : (((U'.length : Nat) : Int) != ((V'.length : Nat) : Int)) = true := by simp; omega
      by_cases hgt : V'.length < U'.length
      · have hgt' : (((V'.length : Nat) : Int) < ((U'.length : Nat) : Int)) = True := eq_true (by omega)
        have e1 : U'.take V'.length ++ U'.drop V'.length = U' := List.take_append_drop _ _
        have l1 : (U'.take V'.length).length = V'.length := by simp; omega
        have l2 : (U'.drop V'.length).length = U'.length - V'.length := by simp
        generalize U'.take V'.length = X at *
        generalize U'.drop V'.length = Y at *
        have e2 := congrArg List.length e1
        simp only [List.length_append] at e2
        have w4 : IntKind.i64.wrap (U'.length - (V'.length : Int)) = ((Y.length : Nat) : Int) := by rw [wrap64_in _ (by omega) (by omega)]; omega
        obtain ⟨L2, hL2⟩ : ∃ L2, L2 = P' ++ V' ++ Y ++ X ++ Q' := ⟨_, rfl⟩
        have hl2 : L2.length = n := by rw [hL2]; simp only [List.length_append] at *; omega
        simp (implicitDefEqProofs := false) only [↓reduceIte, go_sem, Nat.reduceLT, Nat.reduceEqDiff, reduceCtorEq, eq_self, t10, t11, hij', hgt']
        simp (implicitDefEqProofs := false) only [↓reduceIte, go_sem, Nat.reduceLT, Nat.reduceEqDiff, eq_self, t0, t2, t4, t11, w3]
        refine KCall.ok (swapRange_at H id ver hid g caps P' X Y V' Q' L' L2 P'.length m V'.length n (by rw [hL', ← e1]; simp) hL2 rfl l1 rfl (by omega) hn' hbig) ?_
        simp (implicitDefEqProofs := false) only [↓reduceIte, go_sem, Nat.reduceLT, Nat.reduceEqDiff, eq_self, t10, t11, w4]
        refine ⟨_, _, ⟨L2, P' ++ V', Y, X, Q'⟩, Weak.refl _ _, ⟨rfl, by rw [hL2]; simp, by rw [hT', ← e1]; simp, ?_, ?_, ?_, hl2, ?_⟩, ?_⟩
        · simp only [List.length_append]; omega
        · simp only; omega
        · simp only; omega
        · simp (implicitDefEqProofs := false) only [↓reduceIte, go_sem, Nat.reduceLT, Nat.reduceEqDiff, reduceCtorEq, eq_self, t0, t2, t4, t11, l1]
        · simp only; omega
      · have hgt' : (((V'.length : Nat) : Int) < ((U'.length : Nat) : Int)) = False := eq_false (by omega)
        have e1 : V'.take (V'.length - U'.length) ++ V'.drop (V'.length - U'.length) = V' := List.take_append_drop _ _
        have l1 : (V'.take (V'.length - U'.length)).length = V'.length - U'.length := by simp
        have l2 : (V'.drop (V'.length - U'.length)).length = U'.length := by simp; omega
        generalize V'.take (V'.length - U'.length) = Y at *
        generalize V'.drop (V'.length - U'.length) = Z at *
        have e2 := congrArg List.length e1
        simp only [List.length_append] at e2
        have w4 : IntKind.i64.wrap (V'.length - (U'.length : Int)) = ((Y.length : Nat) : Int) := by rw [wrap64_in _ (by omega) (by omega)]; omega
        have w5 : IntKind.i64.wrap ((m : Int) + (V'.length : Int)) = (m : Int) + (V'.length : Int) := by rw [wrap64_in _ (by omega) (by omega)]
        have w6 : IntKind.i64.wrap ((m : Int) + (V'.length : Int) - (U'.length : Int)) = ((m + Y.length : Nat) : Int) := by rw [wrap64_in _ (by omega) (by omega)]; omega
        obtain ⟨L2, hL2⟩ : ∃ L2, L2 = P' ++ Z ++ Y ++ U' ++ Q' := ⟨_, rfl⟩
        have hl2' : L2.length = n := by rw [hL2]; simp only [List.length_append] at *; omega
        simp (implicitDefEqProofs := false) only [↓reduceIte, go_sem, Nat.reduceLT, Nat.reduceEqDiff, reduceCtorEq, eq_self, t10, t11, hij', hgt']
        simp (implicitDefEqProofs := false) only [↓reduceIte, go_sem, Nat.reduceLT, Nat.reduceEqDiff, eq_self, t0, t2, t4, t10, t11, w3, w5, w6]
        refine KCall.ok (swapRange_at H id ver hid g caps P' U' Y Z Q' L' L2 P'.length (m + Y.length) U'.length n (by rw [hL', ← e1]; simp) hL2 rfl rfl l2 (by omega) hn' hbig) ?_
        simp (implicitDefEqProofs := false) only [↓reduceIte, go_sem, Nat.reduceLT, Nat.reduceEqDiff, eq_self, t10, t11, w4]
        refine ⟨_, _, ⟨L2, P', Z, Y, U' ++ Q'⟩, Weak.refl _ _, ⟨rfl, by rw [hL2]; simp, by rw [hT', ← e1]; simp, ?_, ?_, ?_, hl2', ?_⟩, ?_⟩
        · simp only; omega
        · simp only; omega
        · simp only; omega
        · simp (implicitDefEqProofs := false) only [↓reduceIte, go_sem, Nat.reduceLT, Nat.reduceEqDiff, reduceCtorEq, eq_self, t0, t2, t4, t10, l2]
        · simp only; omega
end SV
end Go.Proofs.YtmbagpfmfiegkaaGreat
namespace Go.Proofs.YtmbagpfmfiegkaaGreat
open Go.Proofs.YtmbagpfmfiegkaaGreatAw Go.RowKit
set_option linter.unusedVariables false
set_option linter.unusedSimpArgs false
namespace SV
def ltC (c : Val → Val → Int) (x y : Val) : Bool := decide (c x y < 0)
/-- What a comparing function is asked for, whatever the array holds. -/
def CmpOk (g : FuncId) (caps : List AV) (c : Val → Val → Int) (H : AHeap) (id : Nat) : Prop := ∀ (o : AObj) (x y : Val), Does Tryz.prog g ([.agg (x.enc.map .d), .agg (y.enc.map .d)] ++ caps) (H.set id o) (.ok (iA (c x y))) (H.set id o)
theorem CmpOk.at {g : FuncId} {caps : List AV} {c : Val → Val → Int} {H : AHeap} {id : Nat} (h : CmpOk g caps c H id) (ver : Nat) (L : List Val) (x y : Val) : Does Tryz.prog g ([.agg (x.enc.map .d), .agg (y.enc.map .d)] ++ caps) (aH H id ver L) (.ok (iA (c x y))) (aH H id ver L) := h _ x y
structure InsI where
  L : List Val
  A : List Val
  B : List Val
set_option maxRecDepth 10000 in
set_option maxHeartbeats 2000000 in
theorem insSort_does (H : AHeap) (id ver : Nat) (hid : id < H.length) (g : FuncId) (caps : List AV) (c : Val → Val → Int) (ho : St.Ord (ltC c)) (hc : CmpOk g caps c H id) (P X Q L L' : List Val) (hL : L = P ++ X ++ Q) (hL' : L' = P ++ St.sortS (ltC c) X ++ Q) (a b n : Nat) (ha : P.length = a) (hb : P.length + X.length = b)
    (hn : L.length = n) (hbig : n ≤ 1000000000000) :
    Does Tryz.prog 179 [.sl id ver 0 n, iA a, iA b, .fn g caps] (aH H id ver L) (.ok (.tup [])) (aH H id ver L') := by
  have hnl : P.length + X.length + Q.length = n := by rw [← hn, hL]; simp; omega
  generalize hE0 : aH H id ver L = E0
  have w1 : IntKind.i64.wrap ((a : Int) + 1) = (a : Int) + 1 := wrap64_in _ (by omega) (by omega)
  refine Does.of_awp (hint := (fun _ => false)) Tryz.func179 (by kernel_rfl) rfl [] (by kernel_rfl) (by decide) (by simp [Tryz.ntmps179]) ?_
  rw [Tryz.ntmps179]
  simp (implicitDefEqProofs := false) only [↓reduceIte, go_sem, Nat.reduceLT, eq_self, w1]
  refine awp_for3 (fun k s H' => (∃ Lk, H' = aH H id ver Lk ∧ Lk = P ++ (St.sortS (ltC c) (X.take (k + 1)) ++ (X.drop (k + 1) ++ Q))) ∧ s 0 = .sl id ver 0 n ∧ s 1 = iA a ∧ s 2 = iA b ∧ s 3 = .fn g caps ∧ s 8 = iA ((a : Int) + 1 + (k : Int))) (X.length - 1) (by omega) (Weak.refl _ _) ?_ ?_ ?_
  · refine ⟨⟨L, hE0.symm, ?_⟩, ?_⟩
    · have : St.sortS (ltC c) (X.take 1) = X.take 1 := by cases X <;> rfl
      rw [hL, this, ← List.append_assoc (X.take 1), List.take_append_drop, List.append_assoc]
    · simp (implicitDefEqProofs := false) only [↓reduceIte, go_sem, Nat.reduceLT, Nat.reduceEqDiff, reduceCtorEq, eq_self, Int.add_zero]
  · rintro k s H' hk hw ⟨⟨Lk, rfl, hLk⟩, t0, t1, t2, t3, t8⟩
    have hkx : k + 1 < X.length := by omega
    have e1 : X.drop (k + 1) = X[k + 1] :: X.drop (k + 1 + 1) := List.drop_eq_getElem_cons hkx
    have e2 : X.take (k + 1 + 1) = X.take (k + 1) ++ [X[k + 1]] := List.take_succ_eq_append_getElem hkx
    have hSl := St.sortS_len (lt := ltC c) (X.take (k + 1))
    have hXl : (X.take (k + 1)).length = k + 1 := by simp; omega
    have hRl : (X.drop (k + 1 + 1)).length = X.length - (k + 2) := by simp
    rw [e1] at hLk
    rw [e2]
    have hlt : ((a : Int) + 1 + (k : Int) < (b : Int)) = True := eq_true (by omega)
    have hss := St.sortS_sorted ho (X.take (k + 1))
    generalize X[k + 1] = x at *
    generalize X.drop (k + 1 + 1) = R0 at *
    generalize X.take (k + 1) = X0 at *
    generalize hS : St.sortS (ltC c) X0 = S at *
    simp (implicitDefEqProofs := false) only [↓reduceIte, go_sem, Nat.reduceLT, Nat.reduceEqDiff, eq_self, t2, t8, hlt]
    refine awp_loop _ _ _ _ (fun (z : InsI) s H' => H' = aH H id ver z.L ∧ z.L = P ++ z.A ++ x :: (z.B ++ (R0 ++ Q)) ∧ z.A ++ z.B = S ∧ (∀ y ∈ z.B, ltC c x y = true) ∧ s 0 = .sl id ver 0 n ∧ s 1 = iA a ∧ s 2 = iA b ∧ s 3 = .fn g caps ∧ s 8 = iA ((a : Int) + 1 + (k : Int)) ∧ s 9 = iA ((a + z.A.length : Nat) : Int)) (fun z => z.A.length) ⟨Lk, S, []⟩ (Weak.refl _ _) ?_ ?_
    · refine ⟨rfl, by rw [hLk]; simp, by simp, by simp, ?_⟩
      simp (implicitDefEqProofs := false) only [↓reduceIte, go_sem, Nat.reduceLT, Nat.reduceEqDiff, reduceCtorEq, eq_self, t0, t1, t2, t3, t8, show ((a : Int) + 1 + (k : Int)) = ((a + S.length : Nat) : Int) by omega]
    · rintro ⟨L1, A, B⟩ s H' ⟨rfl, hL1, hAB, hB, t0, t1, t2, t3, t8, t9⟩
      simp only at hL1 hAB hB t0 t1 t2 t3 t8 t9
      have hABl : A.length + B.length = k + 1 := by rw [← List.length_append, hAB, hSl, hXl]
      have hL1n : L1.length = n := by rw [hL1]; simp; omega
      have fin : (∀ y ∈ A, ltC c x y = false) → L1 = P ++ (St.sortS (ltC c) (X0 ++ [x]) ++ (R0 ++ Q)) := fun hA => by
        rw [hL1, ← St.insert_eq ho (hAB.trans hS.symm) hB hA]; simp
      obtain ⟨j, hj⟩ : ∃ j, j = a + A.length := ⟨_, rfl⟩
      rw [← hj] at t9
      have hw8 : IntKind.i64.wrap ((a : Int) + 1 + (k : Int) + 1) = (a : Int) + 1 + ((k : Int) + 1) := by rw [wrap64_in _ (by omega) (by omega)]; omega
      rcases List.eq_nil_or_concat A with rfl | ⟨A', z, rfl⟩
      · have hja : ((a : Int) < (j : Int)) = False := eq_false (by simp at hj; omega)
        simp (implicitDefEqProofs := false) only [go_sem]
        refine awp_draw K.mixed (by kernel_rfl) ?_
        simp (implicitDefEqProofs := false) only [↓reduceIte, go_sem, Nat.reduceLT, Nat.reduceEqDiff, reduceCtorEq, eq_self, t1, t9, hja, t8, hw8]
        refine Rnd.same ⟨⟨L1, rfl, fin (by simp)⟩, ?_⟩
        simp (implicitDefEqProofs := false) only [↓reduceIte, go_sem, Nat.reduceLT, Nat.reduceEqDiff, reduceCtorEq, eq_self, t0, t1, t2, t3]
      · simp only [List.concat_eq_append, List.length_append, List.length_singleton] at hL1 hAB hj hABl fin
        have hja : ((a : Int) < (j : Int)) = True := eq_true (by omega)
        obtain ⟨i, hi⟩ : ∃ i, i = a + A'.length := ⟨_, rfl⟩
        have hw9 : IntKind.i64.wrap ((j : Int) - 1) = (i : Int) := by rw [wrap64_in _ (by omega) (by omega)]; omega
        have hL1' : L1 = (P ++ A') ++ z :: (x :: (B ++ (R0 ++ Q))) := by rw [hL1]; simp
        have hL1'' : L1 = (P ++ A' ++ [z]) ++ x :: (B ++ (R0 ++ Q)) := by rw [hL1]; simp
        have gz : L1[i]? = some z := by rw [hL1']; exact get_at (by simp; omega)
        have gx : L1[j]? = some x := by rw [hL1'']; exact get_at (by simp; omega)
        have il : i < n := by omega
        have jl : j < n := by omega
        have st : (L1.set j z).set i x = P ++ A' ++ x :: (z :: B ++ (R0 ++ Q)) := by
          rw [hL1'', set_at (by simp; omega)]
          have : P ++ A' ++ [z] ++ z :: (B ++ (R0 ++ Q)) = (P ++ A') ++ z :: (z :: (B ++ (R0 ++ Q))) := by simp
          rw [this, set_at (by simp; omega)]
          simp
        have gz' := get_enc gz
        have gx' := get_enc gx
        have gz2 : ((L1.set j z).map Val.enc)[i]? = some z.enc := by
          refine get_enc ?_
          rw [List.getElem?_set, if_neg (by omega)]; exact gz
        have s1 := set_enc L1 j z
        have s2 := set_enc (L1.set j z) i x
        rw [st] at s2
        have gh := aH_get hid ver L1
        have hd := hc.at ver L1 x z
        simp only [Val.enc] at gz' gx' gz2 s1 s2
        simp only [Val.enc, List.map_cons, List.map_nil] at hd
        simp (implicitDefEqProofs := false) only [go_sem]
        refine awp_draw K.mixed (by kernel_rfl) ?_
        simp (implicitDefEqProofs := false) only [↓reduceIte, go_sem, oread, Nat.reduceAdd, Nat.reduceLT, Nat.reduceEqDiff, reduceCtorEq, eq_self, t0, t1, t3, t9, hja, hw9, il, jl, gh, gz', gx']
        refine KCall.ok hd ?_
        by_cases hlt2 : c x z < 0
        · have hltb : ltC c x z = true := by simp [ltC, hlt2]
          simp (implicitDefEqProofs := false) only [↓reduceIte, go_sem, Nat.reduceLT, Nat.reduceEqDiff, eq_self, hlt2]
          refine awp_drawN [false, false, false, false, false, false, false, false, false, false, false, false, false, false, true, true, true, true] 14 K.mixed (by kernel_rfl) (by kernel_rfl) (by kernel_rfl) ?_
          simp (implicitDefEqProofs := false) only [↓reduceIte, go_sem, oread, owrite, Nat.reduceAdd, Nat.reduceLT, Nat.reduceEqDiff, reduceCtorEq, eq_self, t0, t9, hw9, il, jl, gh, gz', gx', aH_set, s1, gz2, s2, hid, List.getElem?_set_self, List.set_set]
          refine ⟨_, _, ⟨_, A', z :: B⟩, Weak.refl _ _, ⟨by rw [← aH_fold], rfl, by rw [← hAB]; simp, ?_, ?_⟩, by simp⟩
          · intro y hy
            rcases List.mem_cons.1 hy with rfl | hy
            · exact hltb
            · exact hB y hy
          · simp (implicitDefEqProofs := false) only [↓reduceIte, go_sem, Nat.reduceLT, Nat.reduceEqDiff, reduceCtorEq, eq_self, t0, t1, t2, t3, t8, show ((a : Int) + (A'.length : Int)) = (i : Int) by omega]
        · have hltb : ltC c x z = false := by simp [ltC, hlt2]
          have hAx : ∀ y ∈ A' ++ [z], ltC c x y = false := by
            intro y hy
            have hso := hss
            rw [← hAB] at hso
            rcases List.mem_append.1 hy with hy | hy
            · exact ho.le_trans (hso.left.cross y hy z (by simp)) hltb
            · simp at hy; rw [hy]; exact hltb
          simp (implicitDefEqProofs := false) only [↓reduceIte, go_sem, Nat.reduceLT, Nat.reduceEqDiff, eq_self, hlt2, t8, hw8]
          refine Rnd.same ⟨⟨L1, rfl, fin hAx⟩, ?_⟩
          simp (implicitDefEqProofs := false) only [↓reduceIte, go_sem, Nat.reduceLT, Nat.reduceEqDiff, reduceCtorEq, eq_self, t0, t1, t2, t3]
  · rintro s H' ⟨⟨Lk, rfl, hLk⟩, t0, t1, t2, t3, t8⟩
    have hlt : ((a : Int) + 1 + ((X.length - 1 : Nat) : Int) < (b : Int)) = False := eq_false (by omega)
    simp (implicitDefEqProofs := false) only [↓reduceIte, go_sem, Nat.reduceLT, Nat.reduceEqDiff, eq_self, t2, t8, hlt]
    have : Lk = L' := by
      rw [hLk, hL', List.take_of_length_le (by omega), List.drop_of_length_le (by omega)]; simp
    rw [this]
    exact ⟨_, Weak.refl _ _, rfl⟩
end SV
end Go.Proofs.YtmbagpfmfiegkaaGreat
namespace Go.Proofs.YtmbagpfmfiegkaaGreat
open Go.Proofs.YtmbagpfmfiegkaaGreatAw Go.RowKit
set_option linter.unusedVariables false
set_option linter.unusedSimpArgs false
namespace SV
theorem half_eq (n : Nat) (h : n ≤ 2000000000000) : IntKind.i64.wrap (shrI .u64 (IntKind.u64.wrap (n : Int)) 1) = ((n / 2 : Nat) : Int) := by
  rw [wrapU64N n (by omega)]
  have := shrU n 1 (by decide)
  rw [show ((1 : Nat) : Int) = 1 from rfl] at this
  rw [this]
  exact wrapI _ (by omega)
theorem swap_next {L P R : List Val} {x y : Val} (h : L = P ++ x :: y :: R) {i : Nat} (hi : P.length = i) : L[i]? = some x ∧ L[i + 1]? = some y ∧ (L.set i y)[i + 1]? = some y ∧ (L.set (i + 1) x)[i]? = some x ∧ (L.set i y).set (i + 1) x = P ++ y :: x :: R ∧ (L.set (i + 1) x).set i y = P ++ y :: x :: R := by
  subst h hi
  have e : P ++ x :: y :: R = (P ++ [x]) ++ y :: R := by simp
  have e2 : ∀ z : Val, P ++ z :: y :: R = (P ++ [z]) ++ y :: R := by simp
  have h1 : ∀ z : Val, (P ++ [z]).length = P.length + 1 := by simp
  refine ⟨get_at rfl, by rw [e]; exact get_at (h1 x), ?_, ?_, ?_, ?_⟩
  · rw [set_at rfl, e2]; exact get_at (h1 y)
  · rw [e, set_at (h1 x)]
    have : P ++ [x] ++ x :: R = P ++ x :: (x :: R) := by simp
    rw [this]; exact get_at rfl
  · rw [set_at rfl, e2, set_at (h1 y)]; simp
  · rw [e, set_at (h1 x)]
    have : P ++ [x] ++ x :: R = P ++ x :: (x :: R) := by simp
    rw [this, set_at rfl]
theorem memX {P X Y Q L : List Val} {a : Nat} (hL : L = P ++ X ++ Y ++ Q) (ha : P.length = a) : ∀ i x, X[i]? = some x → L[a + i]? = some x := fun i x hx => by
  have := (List.getElem?_eq_some_iff.1 hx).1
  rw [hL, List.append_assoc, List.append_assoc, ← ha, List.getElem?_append_right (by omega), List.getElem?_append_left (by omega), Nat.add_sub_cancel_left]
  exact hx
theorem memY {P X Y Q L : List Val} {m : Nat} (hL : L = P ++ X ++ Y ++ Q) (hm : P.length + X.length = m) : ∀ i y, Y[i]? = some y → L[m + i]? = some y := fun i y hy => by
  have := (List.getElem?_eq_some_iff.1 hy).1
  rw [hL, List.append_assoc (P ++ X), ← hm, List.getElem?_append_right (by simp), List.getElem?_append_left (by simp; omega)]
  simpa [Nat.add_sub_cancel_left] using hy
set_option maxRecDepth 10000 in
set_option maxHeartbeats 4000000 in
theorem sym1_does (H : AHeap) (id ver : Nat) (hid : id < H.length) (g : FuncId) (caps : List AV) (c : Val → Val → Int) (ho : St.Ord (ltC c)) (hc : CmpOk g caps c H id) (n : Nat) (hbig : n ≤ 1000000000000) (P X Y Q L L' : List Val) (a m b : Nat)
    (hL : L = P ++ X ++ Y ++ Q) (hL' : L' = P ++ St.sortS (ltC c) (X ++ Y) ++ Q) (ha : P.length = a) (hm : P.length + X.length = m) (hb : P.length + X.length + Y.length = b) (hX0 : 0 < X.length) (hY0 : 0 < Y.length) (hX : St.Sorted (ltC c) X) (hY : St.Sorted (ltC c) Y) (hn : L.length = n) (h1 : X.length = 1) :
    Does Tryz.prog 180 [.sl id ver 0 n, iA a, iA m, iA b, .fn g caps] (aH H id ver L) (.ok (.tup [])) (aH H id ver L') := by
  have hnl : P.length + X.length + Y.length + Q.length = n := by rw [← hn, hL]; simp; omega
  have w1 : IntKind.i64.wrap ((m : Int) - (a : Int)) = ((X.length : Nat) : Int) := by rw [wrap64_in _ (by omega) (by omega)]; omega
  have w2 : IntKind.i64.wrap ((b : Int) - (m : Int)) = ((Y.length : Nat) : Int) := by rw [wrap64_in _ (by omega) (by omega)]; omega
  have hLX := memX hL ha
  have hLY := memY hL hm
  generalize hE0 : aH H id ver L = E0
  have gh := aH_get hid ver L
  rw [hE0] at gh
  have hcE : ∀ x y : Val, Does Tryz.prog g ([.agg (x.enc.map .d), .agg (y.enc.map .d)] ++ caps) E0 (.ok (iA (c x y))) E0 := fun x y => by rw [← hE0]; exact hc.at ver L x y
  refine Does.of_awp (hint := (fun _ => false)) Tryz.func180 (by kernel_rfl) rfl [] (by kernel_rfl) (by decide) (by simp [Tryz.ntmps180]) ?_
  rw [Tryz.ntmps180]
  obtain ⟨x, rfl⟩ : ∃ x, X = [x] := List.length_eq_one_iff.1 h1
  simp (implicitDefEqProofs := false) only [↓reduceIte, go_sem, Nat.reduceLT, Nat.reduceEqDiff, eq_self, w1, h1]
  refine awp_loop _ _ _ _ (fun (z : Nat × Nat) s H' => H' = E0 ∧ z.1 ≤ z.2 ∧ z.2 ≤ Y.length ∧ (z.1 = 0 ∨ ∃ y, Y[z.1 - 1]? = some y ∧ ltC c y x = true) ∧ (z.2 = Y.length ∨ ∃ y, Y[z.2]? = some y ∧ ltC c y x = false) ∧
    s 0 = .sl id ver 0 n ∧ s 1 = iA a ∧ s 4 = .fn g caps ∧ s 10 = iA ((m + z.1 : Nat) : Int) ∧ s 11 = iA ((m + z.2 : Nat) : Int)) (fun z => z.2 - z.1) (0, Y.length) (Weak.refl _ _) ?_ ?_
  · refine ⟨rfl, Nat.zero_le _, Nat.le_refl _, .inl rfl, .inl rfl, ?_⟩
    simp (implicitDefEqProofs := false) only [↓reduceIte, go_sem, Nat.reduceLT, Nat.reduceEqDiff, reduceCtorEq, eq_self, show m + Y.length = b by omega, Nat.add_zero]
  · rintro ⟨i, j⟩ s H' ⟨rfl, hij, hj, hlo, hhi, t0, t1, t4, t10, t11⟩
    simp only at hij hj hlo hhi t10 t11
    obtain ⟨i', hi'⟩ : ∃ i', i' = m + i := ⟨_, rfl⟩
    obtain ⟨j', hj'⟩ : ∃ j', j' = m + j := ⟨_, rfl⟩
    rw [← hi'] at t10
    rw [← hj'] at t11
    have f1 : ((m : Int) + (i : Int)) = (i' : Int) := by omega
    have f2 : ((m : Int) + (j : Int)) = (j' : Int) := by omega
    by_cases hlt : i < j
    · obtain ⟨q, hq⟩ : ∃ q, q = i' + j' := ⟨_, rfl⟩
      have w3 : IntKind.i64.wrap ((i' : Int) + (j' : Int)) = (q : Int) := by rw [wrap64_in _ (by omega) (by omega)]; omega
      have w4 := half_eq q (by omega)
      obtain ⟨h, hh⟩ : ∃ h, h = q / 2 := ⟨_, rfl⟩
      rw [← hh] at w4
      obtain ⟨y, hy⟩ : ∃ y, Y[h - m]? = some y := ⟨_, List.getElem?_eq_getElem (show h - m < Y.length by omega)⟩
      have gy := get_enc (hLY _ _ hy)
      rw [show m + (h - m) = h by omega] at gy
      have gx := get_enc (hLX 0 x rfl)
      rw [Nat.add_zero] at gx
      have hd := hcE y x
      simp only [Val.enc] at gx gy
      simp only [Val.enc, List.map_cons, List.map_nil] at hd
      have hln : h < n := by omega
      have han : a < n := by omega
      simp (implicitDefEqProofs := false) only [↓reduceIte, go_sem, Nat.reduceLT, Nat.reduceEqDiff, Int.reduceLE, eq_self, t10, t11, show ((i' : Int) < (j' : Int)) = True from eq_true (by omega), w3, w4]
      refine awp_draw K.mixed (by kernel_rfl) ?_
      simp (implicitDefEqProofs := false) only [↓reduceIte, go_sem, oread, Nat.reduceAdd, Nat.reduceLT, Nat.reduceEqDiff, reduceCtorEq, eq_self, t0, t1, t4, gh, gx, gy, hln, han]
      refine KCall.ok hd ?_
      by_cases hcc : c y x < 0
      · have hw5 : IntKind.i64.wrap ((h : Int) + 1) = ((m + (h - m + 1) : Nat) : Int) := by rw [wrap64_in _ (by omega) (by omega)]; omega
        obtain ⟨h2, hh2⟩ : ∃ h2, h2 = m + (h - m + 1) := ⟨_, rfl⟩
        rw [← hh2] at hw5
        simp (implicitDefEqProofs := false) only [↓reduceIte, go_sem, Nat.reduceLT, Nat.reduceEqDiff, eq_self, hcc, hw5]
        refine ⟨_, _, (h - m + 1, j), Weak.refl _ _, ⟨rfl, by simp only; omega, hj, .inr ⟨y, by simpa using hy, by simp [ltC, hcc]⟩, hhi, ?_⟩, by simp only; omega⟩
        simp (implicitDefEqProofs := false) only [↓reduceIte, go_sem, Nat.reduceLT, Nat.reduceEqDiff, reduceCtorEq, eq_self, t0, t1, t4, t11, show ((m : Int) + (((h - m : Nat) : Int) + 1)) = (h2 : Int) by omega, f2]
      · simp (implicitDefEqProofs := false) only [↓reduceIte, go_sem, Nat.reduceLT, Nat.reduceEqDiff, eq_self, hcc]
        refine ⟨_, _, (i, h - m), Weak.refl _ _, ⟨rfl, by simp only; omega, by simp only; omega, hlo, .inr ⟨y, hy, by simp [ltC, hcc]⟩, ?_⟩, by simp only; omega⟩
        simp (implicitDefEqProofs := false) only [↓reduceIte, go_sem, Nat.reduceLT, Nat.reduceEqDiff, reduceCtorEq, eq_self, t0, t1, t4, t10, show ((m : Int) + ((h - m : Nat) : Int)) = (h : Int) by omega, f1]
    · obtain rfl : j = i := by omega
      have hmg := St.merge_one ho hY hj hlo hhi
      have hw6 : IntKind.i64.wrap ((i' : Int) - 1) = (i' : Int) - 1 := wrap64_in _ (by omega) (by omega)
      simp (implicitDefEqProofs := false) only [↓reduceIte, go_sem, Nat.reduceLT, Nat.reduceEqDiff, eq_self, t10, t11, show ((i' : Int) < (j' : Int)) = False from eq_false (by omega), t1]
      refine awp_for3 (fun k s H' => (∃ Lk, H' = aH H id ver Lk ∧ Lk = P ++ Y.take k ++ x :: (Y.drop k ++ Q)) ∧ s 0 = .sl id ver 0 n ∧ s 10 = iA i' ∧ s 13 = iA ((a : Int) + (k : Int))) j (by omega) (Weak.refl _ _) ?_ ?_ ?_
      · refine ⟨⟨L, hE0.symm, by rw [hL]; simp⟩, ?_⟩
        simp (implicitDefEqProofs := false) only [↓reduceIte, go_sem, Nat.reduceLT, Nat.reduceEqDiff, reduceCtorEq, eq_self, t0, t10, Int.add_zero]
      · rintro k s H' hk hw ⟨⟨Lk, rfl, hLk⟩, t0, t10, t13⟩
        have hkY : k < Y.length := by omega
        have e1 : Y.drop k = Y[k] :: Y.drop (k + 1) := List.drop_eq_getElem_cons hkY
        have e2 : Y.take (k + 1) = Y.take k ++ [Y[k]] := List.take_succ_eq_append_getElem hkY
        rw [e1] at hLk
        rw [e2]
        have l1 : (P ++ Y.take k).length = a + k := by simp; omega
        generalize Y[k] = y at *
        generalize Y.drop (k + 1) = Y1 at *
        generalize Y.take k = Y0 at *
        obtain ⟨u, hu⟩ : ∃ u, u = a + k := ⟨_, rfl⟩
        obtain ⟨v, hv⟩ : ∃ v, v = u + 1 := ⟨_, rfl⟩
        rw [← hu] at l1
        obtain ⟨g1, g2, g3, _, g5, _⟩ := swap_next (L := Lk) (P := P ++ Y0) (x := x) (y := y) (R := Y1 ++ Q) (by rw [hLk]; simp) l1
        rw [← hv] at g2 g3 g5
        have f3 : ((a : Int) + (k : Int)) = (u : Int) := by omega
        have hw7 : IntKind.i64.wrap ((u : Int) + 1) = (v : Int) := by rw [wrap64_in _ (by omega) (by omega)]; omega
        rw [f3] at t13
        have gg := aH_get hid ver Lk
        have q1 := get_enc g1
        have q2 := get_enc g2
        have q3 := get_enc g3
        have s1 := set_enc Lk u y
        have s2 := set_enc (Lk.set u y) v x
        rw [g5] at s2
        have hun : u < n := by omega
        have hvn : v < n := by omega
        simp only [Val.enc] at q1 q2 q3 s1 s2
        simp (implicitDefEqProofs := false) only [↓reduceIte, go_sem, Nat.reduceLT, Nat.reduceEqDiff, eq_self, t10, t13, hw6, show ((u : Int) < (i' : Int) - 1) = True from eq_true (by omega)]
        refine awp_drawN [false, false, false, false, false, false, false, false, false, false, false, false, false, false, true, true, true, true] 14 K.mixed (by kernel_rfl) (by kernel_rfl) (by kernel_rfl) ?_
        simp (implicitDefEqProofs := false) only [↓reduceIte, go_sem, oread, owrite, Nat.reduceAdd, Nat.reduceLT, Nat.reduceEqDiff, reduceCtorEq, eq_self, t0, t13, hw7, hun, hvn, gg, q1, q2, q3, s1, s2, aH_set, hid, List.getElem?_set_self, List.set_set]
        refine Rnd.same ⟨⟨_, by rw [← aH_fold], by simp⟩, ?_⟩
        simp (implicitDefEqProofs := false) only [↓reduceIte, go_sem, Nat.reduceLT, Nat.reduceEqDiff, reduceCtorEq, eq_self, t0, t10, show ((a : Int) + ((k : Int) + 1)) = (v : Int) by omega]
      · rintro s H' ⟨⟨Lk, rfl, hLk⟩, t0, t10, t13⟩
        simp (implicitDefEqProofs := false) only [↓reduceIte, go_sem, Nat.reduceLT, Nat.reduceEqDiff, eq_self, t10, t13, hw6, show ((a : Int) + (j : Int) < (i' : Int) - 1) = False from eq_false (by omega)]
        have : Lk = L' := by rw [hLk, hL', List.singleton_append, ← hmg]; simp
        rw [this]
        exact ⟨_, Weak.refl _ _, rfl⟩
set_option maxRecDepth 10000 in
set_option maxHeartbeats 4000000 in
theorem sym2_does (H : AHeap) (id ver : Nat) (hid : id < H.length) (g : FuncId) (caps : List AV) (c : Val → Val → Int) (ho : St.Ord (ltC c)) (hc : CmpOk g caps c H id) (n : Nat) (hbig : n ≤ 1000000000000) (P X Y Q L L' : List Val) (a m b : Nat)
    (hL : L = P ++ X ++ Y ++ Q) (hL' : L' = P ++ St.sortS (ltC c) (X ++ Y) ++ Q) (ha : P.length = a) (hm : P.length + X.length = m) (hb : P.length + X.length + Y.length = b) (hX0 : 0 < X.length) (hY0 : 0 < Y.length) (hX : St.Sorted (ltC c) X) (hY : St.Sorted (ltC c) Y) (hn : L.length = n) (h1 : ¬ X.length = 1) (h2 : Y.length = 1) :
    Does Tryz.prog 180 [.sl id ver 0 n, iA a, iA m, iA b, .fn g caps] (aH H id ver L) (.ok (.tup [])) (aH H id ver L') := by
  have hnl : P.length + X.length + Y.length + Q.length = n := by rw [← hn, hL]; simp; omega
  have w1 : IntKind.i64.wrap ((m : Int) - (a : Int)) = ((X.length : Nat) : Int) := by rw [wrap64_in _ (by omega) (by omega)]; omega
  have w2 : IntKind.i64.wrap ((b : Int) - (m : Int)) = ((Y.length : Nat) : Int) := by rw [wrap64_in _ (by omega) (by omega)]; omega
  have hLX := memX hL ha
  have hLY := memY hL hm
  generalize hE0 : aH H id ver L = E0
  have gh := aH_get hid ver L
  rw [hE0] at gh
  have hcE : ∀ x y : Val, Does Tryz.prog g ([.agg (x.enc.map .d), .agg (y.enc.map .d)] ++ caps) E0 (.ok (iA (c x y))) E0 := fun x y => by rw [← hE0]; exact hc.at ver L x y
  refine Does.of_awp (hint := (fun _ => false)) Tryz.func180 (by kernel_rfl) rfl [] (by kernel_rfl) (by decide) (by simp [Tryz.ntmps180]) ?_
  rw [Tryz.ntmps180]
  obtain ⟨y, rfl⟩ : ∃ y, Y = [y] := List.length_eq_one_iff.1 h2
  simp (implicitDefEqProofs := false) only [↓reduceIte, go_sem, Nat.reduceLT, Nat.reduceEqDiff, eq_self, w1, w2, show (((X.length : Nat) : Int) = 1) = False from eq_false (by omega), h2]
  refine awp_loop _ _ _ _ (fun (z : Nat × Nat) s H' => H' = E0 ∧ z.1 ≤ z.2 ∧ z.2 ≤ X.length ∧ (z.1 = 0 ∨ ∃ x, X[z.1 - 1]? = some x ∧ ltC c y x = false) ∧ (z.2 = X.length ∨ ∃ x, X[z.2]? = some x ∧ ltC c y x = true) ∧
    s 0 = .sl id ver 0 n ∧ s 2 = iA m ∧ s 4 = .fn g caps ∧ s 14 = iA ((a + z.1 : Nat) : Int) ∧ s 15 = iA ((a + z.2 : Nat) : Int)) (fun z => z.2 - z.1) (0, X.length) (Weak.refl _ _) ?_ ?_
  · refine ⟨rfl, Nat.zero_le _, Nat.le_refl _, .inl rfl, .inl rfl, ?_⟩
    simp (implicitDefEqProofs := false) only [↓reduceIte, go_sem, Nat.reduceLT, Nat.reduceEqDiff, reduceCtorEq, eq_self, show ((a : Int) + ((X.length : Nat) : Int)) = (m : Int) by omega, Nat.add_zero]
  · rintro ⟨i, j⟩ s H' ⟨rfl, hij, hj, hlo, hhi, t0, t2, t4, t14, t15⟩
    simp only at hij hj hlo hhi t14 t15
    obtain ⟨i', hi'⟩ : ∃ i', i' = a + i := ⟨_, rfl⟩
    obtain ⟨j', hj'⟩ : ∃ j', j' = a + j := ⟨_, rfl⟩
    rw [← hi'] at t14
    rw [← hj'] at t15
    have f1 : ((a : Int) + (i : Int)) = (i' : Int) := by omega
    have f2 : ((a : Int) + (j : Int)) = (j' : Int) := by omega
    by_cases hlt : i < j
    · obtain ⟨q, hq⟩ : ∃ q, q = i' + j' := ⟨_, rfl⟩
      have w3 : IntKind.i64.wrap ((i' : Int) + (j' : Int)) = (q : Int) := by rw [wrap64_in _ (by omega) (by omega)]; omega
      have w4 := half_eq q (by omega)
      obtain ⟨h, hh⟩ : ∃ h, h = q / 2 := ⟨_, rfl⟩
      rw [← hh] at w4
      obtain ⟨x, hx⟩ : ∃ x, X[h - a]? = some x := ⟨_, List.getElem?_eq_getElem (show h - a < X.length by omega)⟩
      have gx := get_enc (hLX _ _ hx)
      rw [show a + (h - a) = h by omega] at gx
      have gy := get_enc (hLY 0 y rfl)
      rw [Nat.add_zero] at gy
      have hd := hcE y x
      simp only [Val.enc] at gx gy
      simp only [Val.enc, List.map_cons, List.map_nil] at hd
      have hln : h < n := by omega
      have hmn : m < n := by omega
      simp (implicitDefEqProofs := false) only [↓reduceIte, go_sem, Nat.reduceLT, Nat.reduceEqDiff, Int.reduceLE, eq_self, t14, t15, show ((i' : Int) < (j' : Int)) = True from eq_true (by omega), w3, w4]
      refine awp_draw K.mixed (by kernel_rfl) ?_
      simp (implicitDefEqProofs := false) only [↓reduceIte, go_sem, oread, Nat.reduceAdd, Nat.reduceLT, Nat.reduceEqDiff, reduceCtorEq, eq_self, t0, t2, t4, gh, gx, gy, hln, hmn]
      refine KCall.ok hd ?_
      by_cases hcc : c y x < 0
      · simp (implicitDefEqProofs := false) only [↓reduceIte, go_sem, Nat.reduceLT, Nat.reduceEqDiff, eq_self, hcc]
        refine ⟨_, _, (i, h - a), Weak.refl _ _, ⟨rfl, by simp only; omega, by simp only; omega, hlo, .inr ⟨x, hx, by simp [ltC, hcc]⟩, ?_⟩, by simp only; omega⟩
        simp (implicitDefEqProofs := false) only [↓reduceIte, go_sem, Nat.reduceLT, Nat.reduceEqDiff, reduceCtorEq, eq_self, t0, t2, t4, t14, show ((a : Int) + ((h - a : Nat) : Int)) = (h : Int) by omega, f1]
      · have hw5 : IntKind.i64.wrap ((h : Int) + 1) = ((a + (h - a + 1) : Nat) : Int) := by rw [wrap64_in _ (by omega) (by omega)]; omega
        obtain ⟨h2, hh2⟩ : ∃ h2, h2 = a + (h - a + 1) := ⟨_, rfl⟩
        rw [← hh2] at hw5
        simp (implicitDefEqProofs := false) only [↓reduceIte, go_sem, Nat.reduceLT, Nat.reduceEqDiff, eq_self, hcc, hw5]
        refine ⟨_, _, (h - a + 1, j), Weak.refl _ _, ⟨rfl, by simp only; omega, hj, .inr ⟨x, by simpa using hx, by simp [ltC, hcc]⟩, hhi, ?_⟩, by simp only; omega⟩
        simp (implicitDefEqProofs := false) only [↓reduceIte, go_sem, Nat.reduceLT, Nat.reduceEqDiff, reduceCtorEq, eq_self, t0, t2, t4, t15, show ((a : Int) + (((h - a : Nat) : Int) + 1)) = (h2 : Int) by omega, f2]
    · obtain rfl : j = i := by omega
      have hmg := St.merge_last ho hX hj hhi hlo
      simp (implicitDefEqProofs := false) only [↓reduceIte, go_sem, Nat.reduceLT, Nat.reduceEqDiff, eq_self, t14, t15, show ((i' : Int) < (j' : Int)) = False from eq_false (by omega), t2]
      refine awp_loop _ _ _ _ (fun (k : Nat) s H' => k ≤ X.length - j ∧ (∃ Lk, H' = aH H id ver Lk ∧ Lk = P ++ X.take (j + k) ++ y :: (X.drop (j + k) ++ Q)) ∧ s 0 = .sl id ver 0 n ∧ s 14 = iA i' ∧ s 17 = iA ((i' : Int) + (k : Int))) (fun k => k) (X.length - j) (Weak.refl _ _) ?_ ?_
      · refine ⟨Nat.le_refl _, ⟨L, hE0.symm, ?_⟩, ?_⟩
        · rw [show j + (X.length - j) = X.length by omega, List.take_length, List.drop_length, hL]; simp
        · simp (implicitDefEqProofs := false) only [↓reduceIte, go_sem, Nat.reduceLT, Nat.reduceEqDiff, reduceCtorEq, eq_self, t0, t14, show ((i' : Int) + ((X.length - j : Nat) : Int)) = (m : Int) by omega]
      · rintro k s H' ⟨hkx, ⟨Lk, rfl, hLk⟩, t0, t14, t17⟩
        cases k with
        | zero =>
          simp (implicitDefEqProofs := false) only [↓reduceIte, go_sem, Nat.reduceLT, Nat.reduceEqDiff, eq_self, t14, t17, Int.add_zero, Int.lt_irrefl]
          have : Lk = L' := by rw [hLk, hL', Nat.add_zero, ← hmg]; simp
          rw [this]
          exact ⟨_, Weak.refl _ _, rfl⟩
        | succ k =>
          have hkX : j + k < X.length := by omega
          have e1 : X.drop (j + k) = X[j + k] :: X.drop (j + k + 1) := List.drop_eq_getElem_cons hkX
          have e2 : X.take (j + k + 1) = X.take (j + k) ++ [X[j + k]] := List.take_succ_eq_append_getElem hkX
          rw [show j + (k + 1) = j + k + 1 by omega, e2] at hLk
          have l1 : (P ++ X.take (j + k)).length = i' + k := by simp; omega
          obtain ⟨u, hu⟩ : ∃ u, u = i' + k := ⟨_, rfl⟩
          obtain ⟨v, hv⟩ : ∃ v, v = u + 1 := ⟨_, rfl⟩
          rw [← hu] at l1
          have fk : ((i' : Int) + ((k + 1 : Nat) : Int)) = (v : Int) := by omega
          have fk2 : ((i' : Int) + (k : Int)) = (u : Int) := by omega
          rw [fk] at t17
          generalize X[j + k] = x at *
          generalize X.drop (j + k + 1) = X1 at *
          obtain ⟨g1, g2, _, g4, _, g6⟩ := swap_next (L := Lk) (P := P ++ X.take (j + k)) (x := x) (y := y) (R := X1 ++ Q) (by rw [hLk]; simp) l1
          rw [← hv] at g2 g4 g6
          have hw7 : IntKind.i64.wrap ((v : Int) - 1) = (u : Int) := by rw [wrap64_in _ (by omega) (by omega)]; omega
          have gg := aH_get hid ver Lk
          have q1 := get_enc g1
          have q2 := get_enc g2
          have q4 := get_enc g4
          have s1 := set_enc Lk v x
          have s2 := set_enc (Lk.set v x) u y
          rw [g6] at s2
          have hun : u < n := by omega
          have hvn : v < n := by omega
          simp only [Val.enc] at q1 q2 q4 s1 s2
          simp (implicitDefEqProofs := false) only [↓reduceIte, go_sem, Nat.reduceLT, Nat.reduceEqDiff, eq_self, t14, t17, show ((i' : Int) < (v : Int)) = True from eq_true (by omega)]
          refine awp_drawN [false, false, false, false, false, false, false, false, false, false, false, false, false, false, true, true, true, true] 14 K.mixed (by kernel_rfl) (by kernel_rfl) (by kernel_rfl) ?_
          simp (implicitDefEqProofs := false) only [↓reduceIte, go_sem, oread, owrite, Nat.reduceAdd, Nat.reduceLT, Nat.reduceEqDiff, reduceCtorEq, eq_self, t0, t17, hw7, hun, hvn, gg, q1, q2, q4, s1, s2, aH_set, hid, List.getElem?_set_self, List.set_set]
          refine ⟨_, _, k, Weak.refl _ _, ⟨by omega, ⟨_, by rw [← aH_fold], by rw [e1]; simp⟩, ?_⟩, by omega⟩
          simp (implicitDefEqProofs := false) only [↓reduceIte, go_sem, Nat.reduceLT, Nat.reduceEqDiff, reduceCtorEq, eq_self, t0, t14, fk2]
end SV
end Go.Proofs.YtmbagpfmfiegkaaGreat
namespace Go.Proofs.YtmbagpfmfiegkaaGreat
open Go.Proofs.YtmbagpfmfiegkaaGreatAw Go.RowKit
set_option linter.unusedVariables false
set_option linter.unusedSimpArgs false
namespace SV
/-- Hidden from the arithmetic. -/
def Hid (p : Prop) : Prop := p
theorem sym_arith {a m b q mid n0 s0 r0 lx ly : Nat} (hm : a + lx = m) (hb : a + lx + ly = b) (hq : q = a + b) (hmid : mid = q / 2) (hn0 : n0 = mid + m) (hs0 : s0 = if mid < m then n0 - b else a) (hr0 : r0 = if mid < m then mid else m) (hx : 0 < lx) (hy : 0 < ly) (h1 : ¬ lx = 1) :
    (s0 ≤ r0 ∧ a ≤ s0 ∧ r0 ≤ m ∧ r0 ≤ mid) ∧ (n0 ≤ b + s0 ∧ mid < b ∧ a < mid) ∧ Hid (r0 = m ∨ n0 = m + r0) ∧ Hid (s0 = a ∨ n0 = b + s0) ∧ m + r0 ≤ n0 ∧ (mid < m → b ≤ n0) := by
  by_cases h : mid < m
  · rw [if_pos h] at hs0 hr0; unfold Hid; omega
  · rw [if_neg h] at hs0 hr0; unfold Hid; omega
set_option maxRecDepth 10000 in
set_option maxHeartbeats 4000000 in
theorem sym3_does (H : AHeap) (id ver : Nat) (hid : id < H.length) (g : FuncId) (caps : List AV) (c : Val → Val → Int) (ho : St.Ord (ltC c)) (hc : CmpOk g caps c H id) (n : Nat) (hbig : n ≤ 1000000000000) (P X Y Q L L' : List Val) (a m b : Nat)
    (hL : L = P ++ X ++ Y ++ Q) (hL' : L' = P ++ St.sortS (ltC c) (X ++ Y) ++ Q) (ha : P.length = a) (hm : P.length + X.length = m) (hb : P.length + X.length + Y.length = b) (hX0 : 0 < X.length) (hY0 : 0 < Y.length) (hX : St.Sorted (ltC c) X) (hY : St.Sorted (ltC c) Y) (hn : L.length = n) (h1 : ¬ X.length = 1) (h2 : ¬ Y.length = 1)
    (ih : ∀ (P' X' Y' Q' L1 L2 : List Val) (a' m' b' : Nat), X'.length + Y'.length < X.length + Y.length → L1 = P' ++ X' ++ Y' ++ Q' → L2 = P' ++ St.sortS (ltC c) (X' ++ Y') ++ Q' → P'.length = a' → P'.length + X'.length = m' → P'.length + X'.length + Y'.length = b' → 0 < X'.length → 0 < Y'.length →
      St.Sorted (ltC c) X' → St.Sorted (ltC c) Y' → L1.length = n → Does Tryz.prog 180 [.sl id ver 0 n, iA a', iA m', iA b', .fn g caps] (aH H id ver L1) (.ok (.tup [])) (aH H id ver L2)) :
    Does Tryz.prog 180 [.sl id ver 0 n, iA a, iA m, iA b, .fn g caps] (aH H id ver L) (.ok (.tup [])) (aH H id ver L') := by
  have hnl : P.length + X.length + Y.length + Q.length = n := by rw [← hn, hL]; simp; omega
  have w1 : IntKind.i64.wrap ((m : Int) - (a : Int)) = ((X.length : Nat) : Int) := by rw [wrap64_in _ (by omega) (by omega)]; omega
  have w2 : IntKind.i64.wrap ((b : Int) - (m : Int)) = ((Y.length : Nat) : Int) := by rw [wrap64_in _ (by omega) (by omega)]; omega
  have hLX := memX hL ha
  have hLY := memY hL hm
  generalize hE0 : aH H id ver L = E0
  have gh := aH_get hid ver L
  rw [hE0] at gh
  have hcE : ∀ x y : Val, Does Tryz.prog g ([.agg (x.enc.map .d), .agg (y.enc.map .d)] ++ caps) E0 (.ok (iA (c x y))) E0 := fun x y => by rw [← hE0]; exact hc.at ver L x y
  refine Does.of_awp (hint := (fun _ => false)) Tryz.func180 (by kernel_rfl) rfl [] (by kernel_rfl) (by decide) (by simp [Tryz.ntmps180]) ?_
  rw [Tryz.ntmps180]
  obtain ⟨q, hq⟩ : ∃ q, q = a + b := ⟨_, rfl⟩
  obtain ⟨mid, hmid⟩ : ∃ mid, mid = q / 2 := ⟨_, rfl⟩
  obtain ⟨n0, hn0⟩ : ∃ n0, n0 = mid + m := ⟨_, rfl⟩
  obtain ⟨p, hp⟩ : ∃ p, p = n0 - 1 := ⟨_, rfl⟩
  have w3 : IntKind.i64.wrap ((a : Int) + (b : Int)) = (q : Int) := by rw [wrap64_in _ (by omega) (by omega)]; omega
  have w4 := half_eq q (by omega)
  rw [← hmid] at w4
  have w5 : IntKind.i64.wrap ((mid : Int) + (m : Int)) = (n0 : Int) := by rw [wrap64_in _ (by omega) (by omega)]; omega
  have w6 : IntKind.i64.wrap ((n0 : Int) - 1) = (p : Int) := by rw [wrap64_in _ (by omega) (by omega)]; omega
  obtain ⟨s0, hs0⟩ : ∃ s0, s0 = if mid < m then n0 - b else a := ⟨_, rfl⟩
  obtain ⟨r0, hr0⟩ : ∃ r0, r0 = if mid < m then mid else m := ⟨_, rfl⟩
  obtain ⟨a1, a2, a3, a4, a5, a6⟩ := sym_arith (by omega) (by omega) hq hmid hn0 hs0 hr0 hX0 hY0 h1
  have w7 : mid < m → IntKind.i64.wrap ((n0 : Int) - (b : Int)) = (s0 : Int) := fun h => by have := a6 h; rw [if_pos h] at hs0; rw [wrap64_in _ (by omega) (by omega)]; omega
  simp (implicitDefEqProofs := false) only [↓reduceIte, go_sem, Nat.reduceLT, Nat.reduceEqDiff, Int.reduceLE, eq_self, w1, w2, show (((X.length : Nat) : Int) = 1) = False from eq_false (by omega), show (((Y.length : Nat) : Int) = 1) = False from eq_false (by omega), w3, w4, w5]
  refine acond_cut (fun s H' => H' = E0 ∧ s 0 = .sl id ver 0 n ∧ s 1 = iA a ∧ s 2 = iA m ∧ s 3 = iA b ∧ s 4 = .fn g caps ∧ s 18 = iA mid ∧ s 19 = iA n0 ∧ s 20 = iA s0 ∧ s 21 = iA r0) rfl ?_ ?_
  · by_cases hmm : mid < m
    · simp (implicitDefEqProofs := false) only [↓reduceIte, go_sem, Nat.reduceLT, Nat.reduceEqDiff, reduceCtorEq, eq_self, eq_true hmm, w7 hmm]
      rw [hr0, if_pos hmm]
    · simp (implicitDefEqProofs := false) only [↓reduceIte, go_sem, Nat.reduceLT, Nat.reduceEqDiff, reduceCtorEq, eq_self, eq_false hmm]
      rw [hs0, hr0, if_neg hmm, if_neg hmm]
      exact ⟨rfl, rfl⟩
  · clear hs0 hr0 w3 w4 w5 w7 a6 hmid
    rintro s H' ⟨rfl, t0, t1, t2, t3, t4, t18, t19, t20, t21⟩
    simp (implicitDefEqProofs := false) only [↓reduceIte, go_sem, Nat.reduceLT, eq_self, t19, w6]
    refine awp_cutB (fun s H1 => H1 = H' ∧ (∃ st, s0 ≤ st ∧ st ≤ r0 ∧ Hid (st = s0 ∨ ∃ x y, X[st - 1 - a]? = some x ∧ Y[n0 - st - m]? = some y ∧ ltC c y x = false) ∧ Hid (st = r0 ∨ ∃ x y, X[st - a]? = some x ∧ Y[p - st - m]? = some y ∧ ltC c y x = true) ∧ s 20 = iA st) ∧
      s 0 = .sl id ver 0 n ∧ s 1 = iA a ∧ s 2 = iA m ∧ s 3 = iA b ∧ s 4 = .fn g caps ∧ s 18 = iA mid ∧ s 19 = iA n0) rfl ?_ ?_
    · refine awp_loop _ _ _ _ (fun (z : Nat × Nat) s H1 => H1 = H' ∧ s0 ≤ z.1 ∧ z.1 ≤ z.2 ∧ z.2 ≤ r0 ∧ Hid (z.1 = s0 ∨ ∃ x y, X[z.1 - 1 - a]? = some x ∧ Y[n0 - z.1 - m]? = some y ∧ ltC c y x = false) ∧ Hid (z.2 = r0 ∨ ∃ x y, X[z.2 - a]? = some x ∧ Y[p - z.2 - m]? = some y ∧ ltC c y x = true) ∧
        s 0 = .sl id ver 0 n ∧ s 1 = iA a ∧ s 2 = iA m ∧ s 3 = iA b ∧ s 4 = .fn g caps ∧ s 18 = iA mid ∧ s 19 = iA n0 ∧ s 20 = iA z.1 ∧ s 21 = iA z.2 ∧ s 22 = iA p) (fun z => z.2 - z.1) (s0, r0) (Weak.refl _ _) ?_ ?_
      · refine ⟨rfl, Nat.le_refl _, a1.1, Nat.le_refl _, .inl rfl, .inl rfl, ?_⟩
        simp (implicitDefEqProofs := false) only [↓reduceIte, go_sem, Nat.reduceLT, Nat.reduceEqDiff, reduceCtorEq, eq_self, t0, t1, t2, t3, t4, t18, t19, t20, t21]
      · rintro ⟨i, j⟩ s H1 ⟨rfl, hi0, hij, hj0, hlo, hhi, t0, t1, t2, t3, t4, t18, t19, t20, t21, t22⟩
        simp only at hi0 hij hj0 hlo hhi t20 t21
        by_cases hlt : i < j
        · obtain ⟨qq, hqq⟩ : ∃ qq, qq = i + j := ⟨_, rfl⟩
          have v3 : IntKind.i64.wrap ((i : Int) + (j : Int)) = (qq : Int) := by rw [wrap64_in _ (by omega) (by omega)]; omega
          have v4 := half_eq qq (by omega)
          obtain ⟨h, hh⟩ : ∃ h, h = qq / 2 := ⟨_, rfl⟩
          rw [← hh] at v4
          have hpc : m ≤ p - h ∧ p - h < b ∧ h < m ∧ a ≤ h := by omega
          obtain ⟨pc, hpc2⟩ : ∃ pc, pc = p - h := ⟨_, rfl⟩
          have v5 : IntKind.i64.wrap ((p : Int) - (h : Int)) = (pc : Int) := by rw [wrap64_in _ (by omega) (by omega)]; omega
          obtain ⟨x, hx⟩ : ∃ x, X[h - a]? = some x := ⟨_, List.getElem?_eq_getElem (show h - a < X.length by omega)⟩
          obtain ⟨y, hy⟩ : ∃ y, Y[pc - m]? = some y := ⟨_, List.getElem?_eq_getElem (show pc - m < Y.length by omega)⟩
          have gx := get_enc (hLX _ _ hx)
          rw [show a + (h - a) = h by omega] at gx
          have gy := get_enc (hLY _ _ hy)
          rw [show m + (pc - m) = pc by omega] at gy
          have hd := hcE y x
          simp only [Val.enc] at gx gy
          simp only [Val.enc, List.map_cons, List.map_nil] at hd
          have hln : h < n := by omega
          have hpn : pc < n := by omega
          simp (implicitDefEqProofs := false) only [↓reduceIte, go_sem, Nat.reduceLT, Nat.reduceEqDiff, Int.reduceLE, eq_self, t20, t21, eq_true hlt, v3, v4]
          refine awp_draw K.mixed (by kernel_rfl) ?_
          simp (implicitDefEqProofs := false) only [↓reduceIte, go_sem, oread, Nat.reduceAdd, Nat.reduceLT, Nat.reduceEqDiff, reduceCtorEq, eq_self, t0, t4, t22, gh, gx, gy, hln, hpn, v5]
          refine KCall.ok hd ?_
          by_cases hcc : c y x < 0
          · simp (implicitDefEqProofs := false) only [↓reduceIte, go_sem, Nat.reduceLT, Nat.reduceEqDiff, eq_self, hcc]
            refine ⟨_, _, (i, h), Weak.refl _ _, ⟨rfl, hi0, by simp only; omega, by simp only; omega, hlo, .inr ⟨x, y, hx, by rw [← hpc2]; exact hy, by simp [ltC, hcc]⟩, ?_⟩, by simp only; omega⟩
            simp (implicitDefEqProofs := false) only [↓reduceIte, go_sem, Nat.reduceLT, Nat.reduceEqDiff, reduceCtorEq, eq_self, t0, t1, t2, t3, t4, t18, t19, t20, t22]
          · have v6 : IntKind.i64.wrap ((h : Int) + 1) = (h : Int) + 1 := wrap64_in _ (by omega) (by omega)
            simp (implicitDefEqProofs := false) only [↓reduceIte, go_sem, Nat.reduceLT, Nat.reduceEqDiff, eq_self, hcc, v6]
            refine ⟨_, _, (h + 1, j), Weak.refl _ _, ⟨rfl, by simp only; omega, by simp only; omega, hj0, .inr ⟨x, y, by simpa using hx, by rw [show n0 - (h + 1) - m = pc - m by omega]; exact hy, by simp [ltC, hcc]⟩, hhi, ?_⟩, by simp only; omega⟩
            simp (implicitDefEqProofs := false) only [↓reduceIte, go_sem, Nat.reduceLT, Nat.reduceEqDiff, reduceCtorEq, eq_self, t0, t1, t2, t3, t4, t18, t19, t21, t22]
        · obtain rfl : j = i := by omega
          simp (implicitDefEqProofs := false) only [↓reduceIte, go_sem, Nat.reduceLT, Nat.reduceEqDiff, reduceCtorEq, eq_self, t20, t21, Nat.lt_irrefl]
          exact ⟨⟨j, hi0, hj0, hlo, hhi, rfl⟩, t0, t1, t2, t3, t4, t18, t19⟩
    · rintro s H1 ⟨rfl, ⟨st, hst0, hst1, hlo, hhi, t20⟩, t0, t1, t2, t3, t4, t18, t19⟩
      clear w6
      obtain ⟨e, he⟩ : ∃ e, e = n0 - st := ⟨_, rfl⟩
      obtain ⟨sX, hsX⟩ : ∃ sX, sX = st - a := ⟨_, rfl⟩
      obtain ⟨eY, heY⟩ : ∃ eY, eY = e - m := ⟨_, rfl⟩
      have w8 : IntKind.i64.wrap ((n0 : Int) - (st : Int)) = (e : Int) := by rw [wrap64_in _ (by omega) (by omega)]; omega
      have b1 : sX ≤ X.length ∧ eY ≤ Y.length ∧ m ≤ e ∧ e ≤ b ∧ mid = st + eY ∧ e = mid + (m - st) := by omega
      have hcut := St.merge_cut ho hX hY (s := sX) (e := eY) b1.1 b1.2.1 ?_ ?_
      rotate_left
      · rcases hhi with h | ⟨x, y, hx, hy, h⟩
        · rcases a3 with h3 | h3
          · exact .inl (by omega)
          · exact .inr (.inl (by omega))
        · exact .inr (.inr ⟨x, y, by rw [hsX]; exact hx, by rw [show eY - 1 = p - st - m by omega]; exact hy, h⟩)
      · rcases hlo with h | ⟨x, y, hx, hy, h⟩
        · rcases a4 with h4 | h4
          · exact .inl (by omega)
          · exact .inr (.inl (by omega))
        · exact .inr (.inr ⟨x, y, by rw [show sX - 1 = st - 1 - a by omega]; exact hx, by rw [show eY = n0 - st - m by omega]; exact hy, h⟩)
      have hXs := hX
      have hYs := hY
      have eX : X.take sX ++ X.drop sX = X := List.take_append_drop _ _
      have eY' : Y.take eY ++ Y.drop eY = Y := List.take_append_drop _ _
      have lA : (X.take sX).length = sX := by rw [List.length_take]; omega
      have lU : (X.drop sX).length = X.length - sX := List.length_drop
      have lV : (Y.take eY).length = eY := by rw [List.length_take]; omega
      have lB : (Y.drop eY).length = Y.length - eY := List.length_drop
      rw [← eX] at hXs
      rw [← eY'] at hYs
      have sA := hXs.left
      have sU := hXs.right
      have sV := hYs.left
      have sB := hYs.right
      clear hXs hYs hlo hhi a3 a4
      generalize hA : X.take sX = A at *
      generalize hU : X.drop sX = U at *
      generalize hV : Y.take eY = V at *
      generalize hB : Y.drop eY = B at *
      have hLL : L = P ++ A ++ U ++ V ++ (B ++ Q) := by rw [hL, ← eX, ← eY']; simp
      obtain ⟨L1, hL1⟩ : ∃ L1, L1 = P ++ A ++ V ++ U ++ (B ++ Q) := ⟨_, rfl⟩
      obtain ⟨L2, hL2⟩ : ∃ L2, L2 = P ++ St.sortS (ltC c) (A ++ V) ++ U ++ B ++ Q := ⟨_, rfl⟩
      have hL3 : L' = P ++ St.sortS (ltC c) (A ++ V) ++ St.sortS (ltC c) (U ++ B) ++ Q := by rw [hL', ← hcut]; simp
      have n1 : L1.length = n := by rw [← hn, hLL, hL1]; simp; omega
      have n2 : L2.length = n := by rw [← hn, hLL, hL2]; simp [St.sortS_len]; omega
      rw [awp_seq]
      refine awp_cut (fun s H2 => H2 = aH H id ver L ∧ s 0 = .sl id ver 0 n ∧ s 1 = iA a ∧ s 2 = iA m ∧ s 3 = iA b ∧ s 4 = .fn g caps ∧ s 18 = iA mid ∧ s 20 = iA st ∧ s 24 = iA e) rfl (by simp (implicitDefEqProofs := false) only [↓reduceIte, go_sem, Nat.reduceLT, Nat.reduceEqDiff, reduceCtorEq, eq_self, t0, t1, t2, t3, t4, t18, t19, t20, w8, hE0]) ?_
      rintro s H2 ⟨rfl, t0, t1, t2, t3, t4, t18, t20, t24⟩
      rw [awp_seq]
      refine awp_cut (fun s H2 => H2 = aH H id ver L1 ∧ s 0 = .sl id ver 0 n ∧ s 1 = iA a ∧ s 2 = iA m ∧ s 3 = iA b ∧ s 4 = .fn g caps ∧ s 18 = iA mid ∧ s 20 = iA st ∧ s 24 = iA e) rfl ?_ ?_
      · have same : U = [] ∨ V = [] → aH H id ver L = aH H id ver L1 := fun h => by
          rw [hL1, hLL]; rcases h with rfl | rfl <;> simp
        by_cases c1 : st < m
        · by_cases c2 : m < e
          · simp (implicitDefEqProofs := false) only [↓reduceIte, go_sem, Nat.reduceLT, Nat.reduceEqDiff, reduceCtorEq, eq_self, t2, t20, t24, eq_true c1, eq_true c2]
            simp (implicitDefEqProofs := false) only [go_sem, t0, t4]
            refine KCall.ok (rotate_does H id ver hid g caps (P ++ A) U V (B ++ Q) L L1 hLL (by rw [hL1]) st m e n (by simp; omega) (by simp; omega) (by simp; omega) (by omega) (by omega) hn hbig) ?_
            simp (implicitDefEqProofs := false) only [↓reduceIte, go_sem, Nat.reduceEqDiff, reduceCtorEq, eq_self, t0, t1, t2, t3, t4, t18, t20, t24]
          · simp (implicitDefEqProofs := false) only [↓reduceIte, go_sem, Nat.reduceLT, Nat.reduceEqDiff, reduceCtorEq, eq_self, t2, t20, t24, eq_true c1, eq_false c2]
            simp (implicitDefEqProofs := false) only [go_sem, eq_self, t0, t1, t3, t4, t18]
            exact same (.inr (List.eq_nil_of_length_eq_zero (by omega)))
        · simp (implicitDefEqProofs := false) only [↓reduceIte, go_sem, Nat.reduceLT, Nat.reduceEqDiff, reduceCtorEq, eq_self, t2, t20, t24, eq_false c1]
          simp (implicitDefEqProofs := false) only [go_sem, eq_self, t0, t1, t3, t4, t18]
          exact same (.inl (List.eq_nil_of_length_eq_zero (by omega)))
      rintro s H2 ⟨rfl, t0, t1, t2, t3, t4, t18, t20, t24⟩
      rw [awp_seq]
      refine awp_cut (fun s H2 => H2 = aH H id ver L2 ∧ s 0 = .sl id ver 0 n ∧ s 3 = iA b ∧ s 4 = .fn g caps ∧ s 18 = iA mid ∧ s 24 = iA e) rfl ?_ ?_
      · have same : A = [] ∨ V = [] → aH H id ver L1 = aH H id ver L2 := fun h => by
          have : St.sortS (ltC c) (A ++ V) = A ++ V := by
            rcases h with rfl | rfl
            · simpa using St.sortS_self ho sV
            · simpa using St.sortS_self ho sA
          rw [hL1, hL2, this]; simp
        by_cases c1 : a < st
        · by_cases c2 : st < mid
          · simp (implicitDefEqProofs := false) only [↓reduceIte, go_sem, Nat.reduceLT, Nat.reduceEqDiff, reduceCtorEq, eq_self, t1, t18, t20, eq_true c1, eq_true c2]
            simp (implicitDefEqProofs := false) only [go_sem, t0, t4]
            refine KCall.ok (ih P A V (U ++ (B ++ Q)) L1 L2 a st mid (by omega) (by rw [hL1]; simp) (by rw [hL2]; simp) ha (by omega) (by omega) (by omega) (by omega) sA sV n1) ?_
            simp (implicitDefEqProofs := false) only [↓reduceIte, go_sem, Nat.reduceEqDiff, reduceCtorEq, eq_self, t0, t3, t4, t18, t24]
          · simp (implicitDefEqProofs := false) only [↓reduceIte, go_sem, Nat.reduceLT, Nat.reduceEqDiff, reduceCtorEq, eq_self, t1, t18, t20, eq_true c1, eq_false c2]
            simp (implicitDefEqProofs := false) only [go_sem, eq_self, t0, t3, t4, t24]
            exact same (.inr (List.eq_nil_of_length_eq_zero (by omega)))
        · simp (implicitDefEqProofs := false) only [↓reduceIte, go_sem, Nat.reduceLT, Nat.reduceEqDiff, reduceCtorEq, eq_self, t1, t18, t20, eq_false c1]
          simp (implicitDefEqProofs := false) only [go_sem, eq_self, t0, t3, t4, t24]
          exact same (.inl (List.eq_nil_of_length_eq_zero (by omega)))
      rintro s H2 ⟨rfl, t0, t3, t4, t18, t24⟩
      have same : U = [] ∨ B = [] → aH H id ver L2 = aH H id ver L' := fun h => by
        have : St.sortS (ltC c) (U ++ B) = U ++ B := by
          rcases h with rfl | rfl
          · simpa using St.sortS_self ho sB
          · simpa using St.sortS_self ho sU
        rw [hL2, hL3, this]; simp
      by_cases c1 : mid < e
      · by_cases c2 : e < b
        · simp (implicitDefEqProofs := false) only [↓reduceIte, go_sem, Nat.reduceLT, Nat.reduceEqDiff, reduceCtorEq, eq_self, t3, t18, t24, eq_true c1, eq_true c2]
          simp (implicitDefEqProofs := false) only [go_sem, t0, t4]
          have lS := St.sortS_len (lt := ltC c) (A ++ V)
          rw [List.length_append] at lS
          refine KCall.ok (ih (P ++ St.sortS (ltC c) (A ++ V)) U B Q L2 L' mid e b (by omega) (by rw [hL2]) (by rw [hL3]) (by simp; omega) (by simp; omega) (by simp; omega) (by omega) (by omega) sU sB n2) ?_
          simp (implicitDefEqProofs := false) only [go_sem]
          exact ⟨_, Weak.refl _ _, rfl⟩
        · simp (implicitDefEqProofs := false) only [↓reduceIte, go_sem, Nat.reduceLT, Nat.reduceEqDiff, eq_self, t3, t18, t24, eq_true c1, eq_false c2]
          rw [same (.inr (List.eq_nil_of_length_eq_zero (by omega)))]
          exact ⟨_, Weak.refl _ _, rfl⟩
      · simp (implicitDefEqProofs := false) only [↓reduceIte, go_sem, Nat.reduceLT, Nat.reduceEqDiff, reduceCtorEq, eq_self, t18, t24, eq_false c1]
        rw [same (.inl (List.eq_nil_of_length_eq_zero (by omega)))]
        exact ⟨_, Weak.refl _ _, rfl⟩
end SV
end Go.Proofs.YtmbagpfmfiegkaaGreat
namespace Go.Proofs.YtmbagpfmfiegkaaGreat
set_option linter.unusedVariables false
namespace St
variable {α : Type} {lt : α → α → Bool}
def blk (s j : Nat) (l : List α) : List α := (l.drop (j * s)).take s
theorem blk_front {s j k : Nat} {P R : List α} (hP : P.length = k * s) (hj : j < k) : blk s j (P ++ R) = (P.drop (j * s)).take s := by
  have h1 : (j + 1) * s ≤ k * s := Nat.mul_le_mul_right s hj
  rw [Nat.add_mul, Nat.one_mul] at h1
  unfold blk
  rw [List.drop_append_of_le_length (by omega), List.take_append_of_le_length (by rw [List.length_drop]; omega)]
theorem blk_at {s k : Nat} {P X Q : List α} (hP : P.length = k * s) (hX : X.length = s ∨ X.length ≤ s ∧ Q = []) : blk s k (P ++ X ++ Q) = X := by
  unfold blk
  rw [List.append_assoc, ← hP, List.drop_left]
  rcases hX with h | ⟨h, rfl⟩
  · rw [← h, List.take_left]
  · rw [List.append_nil, List.take_of_length_le h]
theorem drop_behind {P X Q : List α} {i : Nat} (h : P.length + X.length ≤ i) : (P ++ X ++ Q).drop i = Q.drop (i - (P.length + X.length)) := by
  rw [List.drop_append, List.drop_of_length_le (by rw [List.length_append]; exact h), List.nil_append, List.length_append]
theorem blk_behind {s j : Nat} {P X X' Q : List α} (hX : X.length = X'.length) (h : P.length + X.length ≤ j * s) : blk s j (P ++ X ++ Q) = blk s j (P ++ X' ++ Q) := by
  unfold blk
  rw [drop_behind h, drop_behind (by omega), hX]
theorem blk_out {s j : Nat} {l : List α} (h : l.length ≤ j * s) : blk s j l = [] := by
  unfold blk
  rw [List.drop_of_length_le h, List.take_nil]
/-- One block more. -/
theorem blk_more (ho : Ord lt) {s k : Nat} {P X Q : List α} (hP : P.length = k * s) (h : ∀ j, j < k → Sorted lt (blk s j (P ++ X ++ Q))) (hX : X.length = s ∨ X.length ≤ s ∧ Q = []) : ∀ j, j < k + 1 → Sorted lt (blk s j (P ++ sortS lt X ++ Q)) := by
  intro j hj
  rcases Nat.lt_or_ge j k with h1 | h1
  · have := h j h1
    rw [List.append_assoc, blk_front hP h1] at this ⊢
    exact this
  · obtain rfl : j = k := by omega
    rw [blk_at hP (by rw [sortS_len]; exact hX)]
    exact sortS_sorted ho X
theorem steq_part (ho : Ord lt) (P X Q : List α) : StEq lt (P ++ sortS lt X ++ Q) (P ++ X ++ Q) := StEq.app (StEq.app (.refl _) (sortS_steq ho X)) (.refl _)
/-- A list, cut at two places. -/
theorem cut3 (l : List α) (a s : Nat) : l.take a ++ (l.drop a).take s ++ l.drop (a + s) = l := by
  rw [List.append_assoc, ← List.drop_drop, List.take_append_drop, List.take_append_drop]
theorem cut4 (l : List α) (a s t : Nat) : l.take a ++ (l.drop a).take s ++ (l.drop (a + s)).take t ++ l.drop (a + s + t) = l := by
  have e : (l.drop (a + s)).take t ++ l.drop (a + s + t) = l.drop (a + s) := by
    have := List.take_append_drop t (l.drop (a + s))
    rwa [List.drop_drop] at this
  rw [List.append_assoc, e, cut3]
end St
end Go.Proofs.YtmbagpfmfiegkaaGreat

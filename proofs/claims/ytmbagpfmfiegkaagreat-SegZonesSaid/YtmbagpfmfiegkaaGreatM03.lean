/- What comes in: readings as abstract data. More of what the program says of its types. Printed by a small program of this session. Loops and regions, as they most often stand. Regions that draw their order: in the order of their text is enough, where operations leave the heap alone. Words for the program's data. Structs held against structs. The program's structs held against each other. Values, atoms: the program's data as Lean's. Numbers as arguments. cmp.Compare, flt.Compare, val.Compare: what they do. Functions of which a result lies in memory. An owned array that is handed on: from then on it never changes. Drawn regions in which some operations change the heap: what does not depend on that. Drawn regions with stores that may come late: what is read stays as it is. What a function leaves may be frozen afterwards. A slot that is nil may be taken for an empty list. The empty text. -/
import Derived.ChangeArms
import Derived.Carry
import Derived.WideShapes
import Derived.SizedLaws
import Derived.Laws.StructEq
import Derived.Laws.Externs
import Derived.Laws.Bits64b
import Derived.Laws.Bits64
import Derived.Test.YtmbagpfmfiegkaaGreatM02
namespace Go.Proofs.YtmbagpfmfiegkaaGreatAw
open Go.RowKit Go.WideShapes
set_option linter.unusedVariables false
set_option linter.unusedSimpArgs false

/-- What a cell may hold. slice: the bytes of an element, its cells. -/
inductive Sh where
  | int (k : IntKind)
  | bool
  | str
  | slice (b : Nat) (es : List Sh)
mutual
inductive Fits : Sh → D → Prop
  | int (k : IntKind) (n : Int) (h : (Lit.int k n).wf = true) : Fits (.int k) (.v (.int k n))
  | bool (b : Bool) : Fits .bool (.v (.bool b))
  | str (s : ByteArray) (h : s.size ≤ reachBytes) : Fits .str (.v (.string s))
  | slice (b : Nat) (es : List Sh) (l : List (List D)) (h1 : l.length * b ≤ reachBytes) (h2 : l.length ≤ maxLen) (h : ∀ e ∈ l, FitsL es e) : Fits (.slice b es) (.list false l)
inductive FitsL : List Sh → List D → Prop
  | nil : FitsL [] []
  | cons {s : Sh} {x : D} {ss : List Sh} {xs : List D} (h : Fits s x) (t : FitsL ss xs) : FitsL (s :: ss) (x :: xs)
end
def shFields (P : Program) (g : TypeId → Option (List Sh)) : Nat → List Field → Option (List Sh)
  | _, [] => some []
  | off, f :: fs => if f.offset = off then (match g f.type with | some l => if l.length = P.cellsOf f.type then (shFields P g (off + l.length) fs).map (l ++ ·) else none | none => none) else none
def shOf (P : Program) : Nat → TypeId → Option (List Sh)
  | 0, _ => none
  | n + 1, t => match P.underlying t with
    | some .bool => some [.bool]
    | some (.int k) => some [.int k]
    | some .string => some [.str]
    | some (.slice e) => (match shOf P n e with | some es => if es.length = P.cellsOf e then some [.slice (P.bytesOf e) es] else none | none => none)
    | some (.struct fs) => (match shFields P (shOf P n) 0 fs.toList with | some l => if l.length = P.cellsOf t then some l else none | none => none)
    | some (.array m e) => (match shOf P n e with | some es => if es.length = P.cellsOf e ∧ P.cellsOf t = m * es.length then some ((List.replicate m es).flatten) else none | none => none)
    | _ => none
def Live (w : World) : Addr → Prop := fun a => ∃ v, w.cell? a = some v
def RDs (w : World) (ds : List D) (cs : List Value) : Prop := ds.length = cs.length ∧ ∀ i (h1 : i < ds.length) (h2 : i < cs.length), RD (Live w) w (ds[i]) (cs[i])
theorem RDs.nil {w : World} : RDs w [] [] := ⟨rfl, fun i h => by simp at h⟩
theorem RDs.one {w : World} {d : D} {c : Value} (h : RD (Live w) w d c) : RDs w [d] [c] := ⟨rfl, fun i h1 h2 => by
  simp only [List.length_singleton] at h1
  have : i = 0 := by omega
  subst this; exact h⟩
theorem RDs.append {w : World} {ds es : List D} {cs bs : List Value} (h : RDs w ds cs) (g : RDs w es bs) : RDs w (ds ++ es) (cs ++ bs) := by
  refine ⟨by simp [h.1, g.1], fun i h1 h2 => ?_⟩
  by_cases hi : i < ds.length
  · rw [List.getElem_append_left hi, List.getElem_append_left (by rw [← h.1]; exact hi)]
    exact h.2 i _ _
  · simp only [List.length_append] at h1
    rw [List.getElem_append_right (by omega), List.getElem_append_right (by rw [← h.1]; omega)]
    have := g.2 (i - ds.length) (by omega) (by rw [← g.1]; omega)
    simpa [h.1] using this
theorem FitsL.append : ∀ {ss ts : List Sh} {xs ys : List D}, FitsL ss xs → FitsL ts ys → FitsL (ss ++ ts) (xs ++ ys)
  | _, _, _, _, .nil, h => h
  | _, _, _, _, .cons h t, g => .cons h (t.append g)
theorem FitsL.len : ∀ {ss : List Sh} {xs : List D}, FitsL ss xs → xs.length = ss.length
  | _, _, .nil => rfl
  | _, _, .cons _ t => by simp [t.len]
theorem exists_list {α : Type} (p : Nat → α → Prop) : ∀ n, (∀ i, i < n → ∃ y, p i y) → ∃ l : List α, l.length = n ∧ ∀ i (h : i < l.length), p i l[i]
  | 0, _ => ⟨[], rfl, fun i h => by simp at h⟩
  | n + 1, h => by
    obtain ⟨l, hl, hp⟩ := exists_list p n fun i hi => h i (by omega)
    obtain ⟨y, hy⟩ := h n (by omega)
    refine ⟨l ++ [y], by simp [hl], fun i hi => ?_⟩
    by_cases e : i < l.length
    · rw [List.getElem_append_left e]; exact hp i e
    · simp at hi
      have : i = n := by omega
      subst this
      rw [List.getElem_append_right (by omega)]
      simpa [hl] using hy
theorem cells_get {w : World} {a : Addr} {k : Nat} {cs : List Value} (h : w.cells? 0 a k = some cs) : cs.length = k ∧ ∀ j (hj : j < cs.length), w.cell? (a.add j) = some cs[j] := by
  unfold World.cells? at h
  rw [if_pos (Nat.zero_le _)] at h
  have hl := mapM_some_length h
  rw [List.length_range] at hl
  refine ⟨hl, fun j hj => ?_⟩
  have := mapM_some_get h j j (by rw [List.getElem?_range (by omega)])
  rw [this]
  simp
section
variable {H : Type} {enc : TypeId × Value → H} {P : Program} {w : World}
theorem shFields_good {g : TypeId → Option (List Sh)} : ∀ (fs : List Field) (off : Nat) (shs : List Sh) (cs : List Value), shFields P g off fs = some shs → cs.length = off + shs.length →
    (∀ f ∈ fs, ∀ l, g f.type = some l → ∃ ds, FitsL l ds ∧ RDs w ds ((cs.drop f.offset).take (P.cellsOf f.type))) → ∃ ds, FitsL shs ds ∧ RDs w ds (cs.drop off)
  | [], off, shs, cs, h, hl, _ => by
    simp only [shFields] at h
    cases h
    refine ⟨[], .nil, ?_⟩
    rw [List.drop_of_length_le (by simp at hl; omega)]
    exact .nil
  | f :: fs, off, shs, cs, h, hl, hf => by
    simp only [shFields] at h
    split at h
    · rename_i ho
      split at h
      · rename_i l hgl
        split at h
        · rename_i hk
          obtain ⟨rest, hr, rfl⟩ := Option.map_eq_some_iff.1 h
          simp only [List.length_append] at hl
          obtain ⟨ds, h1, h2⟩ := hf f (by simp) l hgl
          obtain ⟨es, h3, h4⟩ := shFields_good fs (off + l.length) rest cs hr (by omega) fun f' hf' => hf f' (by simp [hf'])
          refine ⟨ds ++ es, h1.append h3, ?_⟩
          rw [ho, ← hk] at h2
          have := h2.append h4
          rwa [← List.drop_drop, List.take_append_drop] at this
        · cases h
      · cases h
    · cases h
theorem weightsAll_mem : ∀ {ds : List (DataW H)} {e : TypeId} {d : DataW H} {n : Nat}, d ∈ ds → n ∈ d.weights P e → n ∈ DataW.weightsAll P e ds
  | d' :: ds, e, d, n, hd, hn => by
    simp only [DataW.weightsAll, List.mem_append]
    rcases List.mem_cons.1 hd with rfl | hd
    · exact .inl hn
    · exact .inr (weightsAll_mem hd hn)
theorem trod_good : ∀ (n : Nat) (t : TypeId) (shs : List Sh) (fuel : Nat) (cs : List Value) (x : DataW H × List MemPlace), shOf P n t = some shs → DataW.trod enc P w 0 (fun _ => true) true fuel t cs = some x →
    (∀ m ∈ x.1.weights P t, m ≤ reachBytes) → ∃ ds, FitsL shs ds ∧ RDs w ds cs := by
  intro n
  induction n with
  | zero => intro t shs fuel cs x h; cases h
  | succ n ih =>
    intro t shs fuel cs x h hx hw
    unfold shOf at h
    split at h
    · rename_i hu
      cases h
      obtain ⟨b, rfl, rfl⟩ := DataW.trod_bool hu hx
      exact ⟨[.v (.bool b)], .cons (.bool b) .nil, .one (.v _ rfl)⟩
    · rename_i k hu
      cases h
      obtain ⟨m, rfl, rfl, hwf⟩ := DataW.trod_int hu hx
      exact ⟨[.v (.int k m)], .cons (.int k m hwf) .nil, .one (.v _ rfl)⟩
    · rename_i hu
      cases h
      obtain ⟨s, rfl, rfl, hs⟩ := DataW.trod_string hu hx
      have : s.size ≤ reachBytes := by
        have := hw s.data.toList.length (by simp [DataW.weights])
        simpa using this
      exact ⟨[.v (.string s)], .cons (.str s this) .nil, .one (.v _ rfl)⟩
    · rename_i e hu
      split at h
      · rename_i es hes
        split at h
        · rename_i hk
          cases h
          rcases DataW.trod_slice hu hx with ⟨rfl, rfl⟩ | ⟨a, len, cap, elems, rest, m, rfl, rfl, rfl, _, hlc, hcm, hel, hget, _, _⟩
          · exact ⟨[.list false []], .cons (.slice _ _ _ (by simp) (by simp) (by simp)) .nil, .one (.nil _ _ fun _ => rfl)⟩
          · have key : ∀ i, i < len → ∃ y : List D, FitsL es y ∧ ∀ j (h1 : j < y.length), ∃ c, w.cell? (a.add (i * es.length + j)) = some c ∧ RD (Live w) w y[j] c := by
              intro i hi
              have hg := hget i hi
              rw [List.getElem?_eq_getElem (by omega)] at hg
              obtain ⟨ci, hci, htr⟩ := Option.bind_eq_some_iff.1 hg
              obtain ⟨hcl, hcell⟩ := cells_get hci
              obtain ⟨ds, h1, h2⟩ := ih e es m ci _ hes htr fun q hq => hw q (by
                simp only [DataW.weights, hu]
                refine List.mem_cons_of_mem _ (List.mem_append_left _ (weightsAll_mem (List.mem_map.2 ⟨_, List.getElem_mem (show i < elems.length by omega), rfl⟩) hq)))
              refine ⟨ds, h1, fun j hj => ?_⟩
              have hjc : j < ci.length := by rw [← h2.1]; exact hj
              refine ⟨ci[j], ?_, h2.2 j hj hjc⟩
              rw [← hcell j hjc, add_add, hk]
            obtain ⟨l, hll, hlp⟩ := exists_list _ len key
            refine ⟨[.list false l], .cons (.slice _ _ _ ?_ (by omega) fun y hy => ?_) .nil, .one ?_⟩
            · have := hw ((elems.length + rest.length) * P.bytesOf e) (by simp [DataW.weights, hu])
              have h2 : l.length * P.bytesOf e ≤ (elems.length + rest.length) * P.bytesOf e := Nat.mul_le_mul_right _ (by omega)
              omega
            · obtain ⟨i, hi, rfl⟩ := List.mem_iff_getElem.1 hy
              exact (hlp i hi).1
            · have hlen : l.length = len := hll
              subst hlen
              have hw' : ∀ i j, i < l.length → j < es.length → ∃ c, w.cell? (a.add (i * es.length + j)) = some c := by
                intro i j hi hj
                have := (hlp i hi).1.len
                obtain ⟨c, hc, _⟩ := (hlp i hi).2 j (by omega)
                exact ⟨c, hc⟩
              refine .list false l a cap es.length (fun i j => (w.cell? (a.add (i * es.length + j))).getD undef) hlc (fun y hy => ?_) (fun i j hi hj => ?_) fun i hi j hj => ?_
              · obtain ⟨i, hi, rfl⟩ := List.mem_iff_getElem.1 hy
                exact (hlp i hi).1.len
              · obtain ⟨c, hc⟩ := hw' i j hi hj
                exact ⟨⟨c, hc⟩, by simp [hc]⟩
              · obtain ⟨c, hc, hd⟩ := (hlp i hi).2 j hj
                simpa [hc] using hd
        · cases h
      · cases h
    · rename_i fs hu
      split at h
      · rename_i l hl
        split at h
        · rename_i hk
          cases h
          obtain ⟨xs, m, rfl, rfl, hcl, hxl, hget⟩ := DataW.trod_struct hu hx
          have := shFields_good (w := w) fs.toList 0 shs cs hl (by omega) fun f hf l' hl' => by
            obtain ⟨i, hi, rfl⟩ := List.mem_iff_getElem.1 hf
            have hi' : i < fs.size := by simpa using hi
            have hg := hget i fs[i] (by simp [hi'])
            rw [List.getElem?_eq_getElem (by omega)] at hg
            refine ih _ l' m _ _ (by simpa using hl') (by simpa using hg) fun q hq => hw q ?_
            simp only [DataW.weights, hu]
            refine DataW.weights_mem_each (j := i) (t := (fs.toList[i]).type) (d := (xs[i]'(by omega)).1) ?_ ?_ q hq
            · simp [hi']
            · simp [show i < xs.length by omega]
          simpa using this
        · cases h
      · cases h
    · rename_i m e hu
      split at h
      · rename_i es hes
        split at h
        · rename_i hk
          cases h
          cases fuel with
          | zero => simp [DataW.trod] at hx
          | succ f =>
            unfold DataW.trod at hx
            rw [hu] at hx
            have hx' : (if cs.length = P.cellsOf t then ((List.range m).mapM fun i => DataW.trod enc P w 0 (fun _ => true) true f e ((cs.drop (i * P.cellsOf e)).take (P.cellsOf e))).map fun xs => (DataW.agg (xs.map (·.1)), xs.flatMap (·.2)) else none) = some x := by
              revert hx
              rcases cs with _ | ⟨c, _ | ⟨c', cs⟩⟩
              · exact id
              · cases c <;> exact id
              · exact id
            split at hx'
            · rename_i hcl
              obtain ⟨xs, hxs, rfl⟩ := Option.map_eq_some_iff.1 hx'
              have hxl := mapM_some_length hxs
              rw [List.length_range] at hxl
              have key : ∀ q, q ≤ m → ∃ ds, FitsL ((List.replicate q es).flatten) ds ∧ RDs w ds (cs.take (q * es.length)) := by
                intro q
                induction q with
                | zero => intro _; exact ⟨[], by simpa using FitsL.nil, by simpa using RDs.nil⟩
                | succ q ihq =>
                  intro hq
                  obtain ⟨ds, h1, h2⟩ := ihq (by omega)
                  have hg := mapM_some_get hxs q q (by rw [List.getElem?_range (by omega)])
                  rw [List.getElem?_eq_getElem (by omega)] at hg
                  obtain ⟨ds', h3, h4⟩ := ih e es f _ _ hes hg fun z hz => hw z (by
                    simp only [DataW.weights, hu]
                    exact weightsAll_mem (List.mem_map.2 ⟨_, List.getElem_mem (show q < xs.length by omega), rfl⟩) hz)
                  refine ⟨ds ++ ds', ?_, ?_⟩
                  · rw [List.replicate_succ', List.flatten_append]
                    simpa using h1.append h3
                  · have := h2.append h4
                    rw [← hk.1, ← List.take_add] at this
                    rwa [Nat.add_mul, Nat.one_mul]
              obtain ⟨ds, h1, h2⟩ := key m (Nat.le_refl _)
              refine ⟨ds, h1, ?_⟩
              rwa [← hk.2, ← hcl, List.take_length] at h2
            · cases hx'
        · cases h
      · cases h
    · cases h

/-- An argument of a type, as abstract data. -/
def ArgOk (P : Program) (t : TypeId) (x : AV) : Prop := (agB P t = some false ∧ ∃ sh d, shOf P 9 t = some [sh] ∧ Fits sh d ∧ x = .d d) ∨ (agB P t = some true ∧ ∃ shs ds, shOf P 9 t = some shs ∧ FitsL shs ds ∧ x = .agg (ds.map .d))
theorem arg_in {t : TypeId} {v : Value} {d : DataW H} {ps : List MemPlace} {shs : List Sh} {b : Bool} (hs : shOf P 9 t = some shs) (hg : agB P t = some b) (hval : Value.okWide P w .any 0 t v) (h : DataW.Trod enc P w 0 (fun _ => true) true t v d ps)
    (hw : ∀ m ∈ d.weights P t, m ≤ reachBytes) : ∃ x, ArgOk P t x ∧ RA [] (fun _ => none) (Live w) w x v := by
  obtain ⟨fuel, hf⟩ := h
  obtain ⟨ds, h1, h2⟩ := trod_good 9 t shs fuel v.cells.toList _ hs hf hw
  unfold agB at hg
  obtain ⟨desc, hd, hb⟩ := Option.map_eq_some_iff.1 hg
  have one : v.cells = #[v] → ds.length = 1 → b = false → ∃ x, ArgOk P t x ∧ RA [] (fun _ => none) (Live w) w x v := by
    intro hv hl hbf
    subst hbf
    have hl2 := h1.len
    match ds, hl, shs, hs, h1, h2 with
    | [d0], _, [sh], hs, .cons hd0 .nil, h2 =>
      refine ⟨.d d0, .inl ⟨by unfold agB; rw [hd]; exact congrArg some hb, sh, d0, hs, hd0, rfl⟩, .d ?_⟩
      have := h2.2 0 (by simp) (by simp [hv])
      simpa [hv] using this
  have agg : b = true → (∃ cs, v = .agg cs) → ∃ x, ArgOk P t x ∧ RA [] (fun _ => none) (Live w) w x v := by
    intro hbt ⟨cs, hv⟩
    subst hbt hv
    refine ⟨.agg (ds.map .d), .inr ⟨by unfold agB; rw [hd]; exact congrArg some hb, shs, ds, hs, h1, rfl⟩, .agg _ _ (by simpa [Value.cells] using h2.1) fun i g1 g2 => ?_⟩
    simp only [List.getElem_map]
    have := h2.2 i (by simpa using g1) (by simpa [Value.cells] using g2)
    exact .d (by simpa [Value.cells] using this)
  have len1 : v.cells = #[v] → ds.length = 1 := fun hv => by rw [h2.1, hv]; rfl
  unfold shOf at hs
  rw [hd] at hs
  cases desc with
  | bool => obtain ⟨q, rfl⟩ := okWide_bool hd hval; exact one rfl (len1 rfl) hb.symm
  | int k => obtain ⟨q, rfl⟩ := okWide_int hd hval; exact one rfl (len1 rfl) hb.symm
  | string => obtain ⟨q, rfl⟩ := okWide_string hd hval; exact one rfl (len1 rfl) hb.symm
  | slice e => obtain ⟨q, l, c, rfl⟩ := okWide_slice hd hval; exact one rfl (len1 rfl) hb.symm
  | struct fs => obtain ⟨cs, rfl, _⟩ := okWide_struct hd hval; exact agg hb.symm ⟨cs, rfl⟩
  | array m e =>
    have hval' := hval
    unfold Value.okWide at hval'
    rw [hd] at hval'
    obtain ⟨cs, rfl, _⟩ := hval'
    exact agg hb.symm ⟨cs, rfl⟩
  | _ => simp at hs
theorem arg_in' {t : TypeId} {v : Value} {d : DataW H} {ps : List MemPlace} (hs : (shOf P 9 t).isSome = true) (hg : (agB P t).isSome = true) (hval : Value.okWide P w .any 0 t v) (h : DataW.Trod enc P w 0 (fun _ => true) true t v d ps)
    (hw : ∀ m ∈ d.weights P t, m ≤ reachBytes) : ∃ x, ArgOk P t x ∧ RA [] (fun _ => none) (Live w) w x v := by
  obtain ⟨shs, hs⟩ := Option.isSome_iff_exists.1 hs
  obtain ⟨b, hg⟩ := Option.isSome_iff_exists.1 hg
  exact arg_in hs hg hval h hw
end
inductive RAL (H : AHeap) (φ : Phi) (N : Addr → Prop) (w : World) : List AV → List Value → Prop
  | nil : RAL H φ N w [] []
  | cons {x : AV} {v : Value} {xs : List AV} {vs : List Value} (h : RA H φ N w x v) (t : RAL H φ N w xs vs) : RAL H φ N w (x :: xs) (v :: vs)
theorem RAL.to {H : AHeap} {φ : Phi} {N : Addr → Prop} {w : World} : ∀ {xs : List AV} {vs : List Value}, RAL H φ N w xs vs → xs.length = vs.length ∧ ∀ i (h1 : i < xs.length) (h2 : i < vs.length), RA H φ N w (xs[i]) (vs[i])
  | _, _, .nil => ⟨rfl, fun i h => by simp at h⟩
  | _, _, .cons h t => ⟨by simp [t.to.1], fun i h1 h2 => by
    cases i with
    | zero => exact h
    | succ i => simpa using t.to.2 i (by simpa using h1) (by simpa using h2)⟩
theorem RAL.ras {H : AHeap} {φ : Phi} {N : Addr → Prop} {w : World} {xs : List AV} {vs : List Value} (h : RAL H φ N w xs vs) : RAs H φ N w xs vs.toArray := ⟨by simpa using h.to.1, fun i h1 h2 => by simpa using h.to.2 i h1 (by simpa using h2)⟩
end Go.Proofs.YtmbagpfmfiegkaaGreatAw
namespace Go.Proofs.YtmbagpfmfiegkaaGreat.K
open Go.Proofs.YtmbagpfmfiegkaaGreatAw
theorem ZO3 : TIok Tryz.prog 3 = true := by kernel_rfl
theorem ZO4 : TIok Tryz.prog 4 = true := by kernel_rfl
theorem ZO5 : TIok Tryz.prog 5 = true := by kernel_rfl
theorem ZO25 : TIok Tryz.prog 25 = true := by kernel_rfl
theorem ZO27 : TIok Tryz.prog 27 = true := by kernel_rfl
theorem ZO30 : TIok Tryz.prog 30 = true := by kernel_rfl
theorem ZO31 : TIok Tryz.prog 31 = true := by kernel_rfl
theorem ZO42 : TIok Tryz.prog 42 = true := by kernel_rfl
theorem ZO49 : TIok Tryz.prog 49 = true := by kernel_rfl
theorem ZO78 : TIok Tryz.prog 78 = true := by kernel_rfl
theorem ZO83 : TIok Tryz.prog 83 = true := by kernel_rfl
theorem ZO86 : TIok Tryz.prog 86 = true := by kernel_rfl
theorem ZO88 : TIok Tryz.prog 88 = true := by kernel_rfl
theorem ZO97 : TIok Tryz.prog 97 = true := by kernel_rfl
theorem PT123 : isPtrT Tryz.prog 123 = true := by kernel_rfl
theorem PT155 : isPtrT Tryz.prog 155 = true := by kernel_rfl
theorem ZO165 : TIok Tryz.prog 165 = true := by kernel_rfl
theorem AN20 : isAny Tryz.prog 20 = true := by kernel_rfl
attribute [go_sem] ZO3 ZO4 ZO5 ZO25 ZO27 ZO30 ZO31 ZO42 ZO49 ZO78 ZO83 ZO86 ZO88 ZO97 PT123 PT155 ZO165 AN20
end Go.Proofs.YtmbagpfmfiegkaaGreat.K
namespace Go.Proofs.YtmbagpfmfiegkaaGreatAw
open Go.RowKit
set_option linter.unusedVariables false
section
variable {P : Program} {hint : Nat → Bool} {s : Nat → AV} {H : AHeap}
theorem and7 {A B C D E F G G' : Prop} (g : G → G') : (A ∧ B ∧ C ∧ D ∧ E ∧ F ∧ G) → (A ∧ B ∧ C ∧ D ∧ E ∧ F ∧ G') := fun ⟨a, b, c, d, e, f, h⟩ => ⟨a, b, c, d, e, f, g h⟩
theorem and6 {A B C D E G G' : Prop} (g : G → G') : (A ∧ B ∧ C ∧ D ∧ E ∧ G) → (A ∧ B ∧ C ∧ D ∧ E ∧ G') := fun ⟨a, b, c, d, e, h⟩ => ⟨a, b, c, d, e, g h⟩
theorem binK_mono {op : BinOp} {t : TypeId} {u v : Value} {K K' : Value → Prop} (hk : ∀ r, K r → K' r) (h : binK P op t u v K) : binK P op t u v K' := by
  unfold binK at h ⊢
  repeat' (split at h)
  all_goals first | exact h.elim | exact hk _ h | exact ⟨h.1, hk _ h.2⟩ | exact ⟨h.1, h.2.1, hk _ h.2.2⟩ | (obtain ⟨r, h1, h2⟩ := h; first | exact ⟨r, h1, hk _ h2⟩ | (simp_all; done))
  all_goals exact ⟨_, h.choose_spec.1, hk _ h.choose_spec.2⟩
theorem unK_mono {op : UnOp} {u : Value} {K K' : Value → Prop} (hk : ∀ r, K r → K' r) (h : unK op u K) : unK op u K' := by
  cases op <;> cases u <;> first | exact h.elim | exact hk _ h | exact ⟨h.1, hk _ h.2⟩
theorem abuiltin_mono {b : Builtin} {args : List Operand} {tys : List TypeId} {K K' : AV → AHeap → Prop} (hk : ∀ r H, K r H → K' r H) (h : abuiltin P s H b args tys K) : abuiltin P s H b args tys K' := by
  unfold abuiltin at h ⊢
  repeat' (split at h)
  all_goals first | exact h.elim | exact hk _ _ h | exact ⟨h.1, hk _ _ h.2⟩ | exact ⟨h.1, h.2.1, hk _ _ h.2.2⟩ | exact ⟨h.1, h.2.1, h.2.2.1, hk _ _ h.2.2.2⟩ | exact and6 (hk _ _) h | exact and7 (hk _ _) h | (simp_all; done)
theorem aslice_mono {k : Nat} {lo : Option Int} {hi : Nat → Option Int} {x : AV} {K K' : AV → AHeap → Prop} (hk : ∀ r H, K r H → K' r H) (h : aslice H k lo hi K x) : aslice H k lo hi K' x := by
  cases x with
  | d u =>
    cases u with
    | v _ => exact h.elim
    | list nn es =>
      simp only [aslice] at h ⊢
      refine ⟨h.1, ?_⟩
      replace h := h.2
      cases lo with
      | none => exact h
      | some l =>
        cases hq : hi es.length with
        | none => rw [hq] at h; exact h
        | some m => rw [hq] at h; exact ⟨h.1, h.2.1, h.2.2.1, hk _ _ h.2.2.2⟩
  | sl id ver off len =>
    simp only [aslice] at h ⊢
    cases ho : H[id]? with
    | none => rw [ho] at h; exact h.elim
    | some o =>
      rw [ho] at h
      cases lo with
      | none => exact h.elim
      | some l =>
        cases hq : hi len with
        | none => rw [hq] at h; exact h.elim
        | some m => rw [hq] at h; exact ⟨h.1, h.2.1, h.2.2.1, h.2.2.2.1, h.2.2.2.2.1, hk _ _ h.2.2.2.2.2⟩
  | _ => exact h.elim
theorem aslice3_mono {k : Nat} {lo hi mx : Option Int} {x : AV} {K K' : AV → AHeap → Prop} (hk : ∀ r H, K r H → K' r H) (h : aslice3 H k lo hi mx K x) : aslice3 H k lo hi mx K' x := by
  cases x with
  | d u =>
    cases u with
    | v _ => exact h.elim
    | list nn es => cases lo <;> cases hi <;> cases mx <;> first | exact h.2.elim | exact ⟨h.1, h.2.1, h.2.2.1, h.2.2.2.1, h.2.2.2.2.1, hk _ _ h.2.2.2.2.2⟩
  | _ => exact h.elim
theorem aassert_mono {t : TypeId} {ok : Bool} {v : Option Value} {K K' : AV → AHeap → Prop} (hk : ∀ r H, K r H → K' r H) (h : aassert P t ok H K v) : aassert P t ok H K' v := by
  unfold aassert at h ⊢
  cases e : assertR P t ok v with
  | none => rw [e] at h; exact h.2.elim
  | some r => rw [e] at h; exact ⟨h.1, hk _ _ h.2⟩
theorem aslB_mono {n : Nat} {x : AV} {K K' : AV → AHeap → Prop} (hk : ∀ r H, K r H → K' r H) (h : aslB H n K x) : aslB H n K' x := by
  cases x with
  | iptr ds => exact ⟨h.1, hk _ _ h.2⟩
  | _ => exact h.elim
theorem aop_mono {hi : Bool} {op : Op} {K K' : AV → AHeap → Prop} (hk : ∀ r H, K r H → K' r H) (h : aop P s H hi op K) : aop P s H hi op K' := by
  unfold aop at h ⊢
  repeat' (split at h)
  all_goals first | exact h.elim | (rw [if_pos (by assumption)]; obtain ⟨h1, id, e', h2, h3⟩ := h; exact ⟨h1, id, e', h2, hk _ _ h3⟩) | (rw [if_neg (by assumption)]; exact ⟨h.1, hk _ _ h.2⟩) | exact hk _ _ h | exact ⟨h.1, hk _ _ h.2⟩ | exact ⟨h.1, h.2.1, hk _ _ h.2.2⟩ | exact ⟨h.1, h.2.1, h.2.2.1, hk _ _ h.2.2.2⟩ | exact and7 (hk _ _) h | exact binK_mono (fun r => hk _ _) h | exact unK_mono (fun r => hk _ _) h | exact abuiltin_mono hk h | exact aslice_mono hk h | exact ⟨h.1, h.2.1, aslB_mono hk h.2.2⟩ | exact aslice3_mono hk h | exact aassert_mono hk h | exact ⟨h.1, fun g => hk _ _ (h.2.1 g), fun j e g1 g2 => hk _ _ (h.2.2 j e g1 g2)⟩ | skip
  all_goals first | (rw [if_neg (by assumption)]; exact ⟨h.1, by first | (rw [if_pos (by assumption)]; exact hk _ _ h.2) | (rw [if_neg (by assumption)]; exact hk _ _ h.2)⟩) | (simp_all; done)
theorem astep_mono {o : Oper} {K K' : AV → AHeap → Prop} {KP KP' : Value → AHeap → Prop} (hk : ∀ r H, K r H → K' r H) (hp : ∀ r H, KP r H → KP' r H) (h : astep P hint s H o K KP) : astep P hint s H o K' KP' := by
  unfold astep at h ⊢
  split at h
  · split at h
    · exact hp _ _ h
    · exact h.elim
  · split at h
    · split at h
      · obtain ⟨res, H', hd, h⟩ := h
        refine ⟨res, H', hd, ?_⟩
        cases res with
        | ok r => exact hk _ _ h
        | panic v => exact hp _ _ h
      · obtain ⟨hy, R, hR, h⟩ := h
        exact ⟨hy, R, hR, fun b H' hb => hk _ _ (h b H' hb)⟩
      · exact h.elim
    · exact abuiltin_mono hk h
    · exact h.elim
  · exact aop_mono hk h
theorem awpOp_mono {n : Nat} {ops : Array Oper} {Q Q' : Post} {o : Oper} {K K' : (Nat → AV) → AHeap → Prop} (hq : ∀ v s H, Q (.panic v) s H → Q' (.panic v) s H) (hk : ∀ s H, K s H → K' s H) (h : awpOp P hint n ops Q o K s H) : awpOp P hint n ops Q' o K' s H := by
  unfold awpOp at h ⊢
  split at h
  · exact astep_mono (fun r H => hk _ _) (fun v H => hq _ _ _) h
  · split at h
    · split at h
      · rw [if_pos (by assumption)]
        exact astep_mono (fun r H => hk _ _) (fun v H => hq _ _ _) h
      · rw [if_neg (by assumption)]
        exact hk _ _ h
    · exact h.elim
theorem awpList_mono {n : Nat} {ops : Array Oper} {Q Q' : Post} (hq : ∀ e s H, Q e s H → Q' e s H) : ∀ (l : List Oper) (s : Nat → AV) (H : AHeap), awpList P hint n ops Q l s H → awpList P hint n ops Q' l s H
  | [], s, H, h => hq _ _ _ h
  | o :: rest, s, H, h => awpOp_mono (fun v => hq _) (fun s H => awpList_mono hq rest s H) h
theorem awpAny_mono {n : Nat} {ops : Array Oper} {Q Q' : Post} (hq : ∀ e s H, Q e s H → Q' e s H) : ∀ (fuel : Nat) (l : Array Bool) (s : Nat → AV) (H : AHeap), awpAny P hint n ops Q fuel l s H → awpAny P hint n ops Q' fuel l s H
  | 0, l, s, H, h => ⟨h.1, hq _ _ _ h.2⟩
  | fuel + 1, l, s, H, h => by
    refine ⟨fun hr => hq _ _ _ (h.1 hr), fun i hi => ?_⟩
    have := h.2 i hi
    split at this
    · exact awpAny_mono hq fuel _ _ _ this
    · exact awpOp_mono (fun v => hq _) (fun s H => awpAny_mono hq fuel _ s H) this
theorem awp_mono {n : Nat} {H0 : AHeap} : ∀ (c : Code) {Q Q' : Post} (hq : ∀ e s H, Q e s H → Q' e s H) (s : Nat → AV) (H : AHeap), awp P hint n H0 c Q s H → awp P hint n H0 c Q' s H := by
  intro c
  induction c with
  | skip => exact fun hq s H h => hq _ _ _ h
  | label l => exact fun hq s H h => hq _ _ _ h
  | scope x ih => exact fun hq s H h => ih hq s H h
  | region id ops draw =>
    intro Q Q' hq s H h
    cases draw with
    | false => exact awpList_mono hq _ _ _ h
    | true => exact ⟨h.1, awpAny_mono hq _ _ _ _ h.2⟩
  | seq x y ihx ihy =>
    intro Q Q' hq s H h
    refine ihx (fun e s H h => ?_) s H h
    cases e with
    | normal =>
      have h : if hintAt hint y = true then ∃ s'' H'', Weak H0 s H s'' H'' ∧ awp P hint n H0 y Q s'' H'' else awp P hint n H0 y Q s H := h
      show if hintAt hint y = true then ∃ s'' H'', Weak H0 s H s'' H'' ∧ awp P hint n H0 y Q' s'' H'' else awp P hint n H0 y Q' s H
      split at h
      · rw [if_pos (by assumption)]
        obtain ⟨s'', H'', hW, h⟩ := h
        exact ⟨s'', H'', hW, ihy hq s'' H'' h⟩
      · rw [if_neg (by assumption)]
        exact ihy hq s H h
    | _ => exact hq _ _ _ h
  | cond c x y ihx ihy =>
    intro Q Q' hq s H h
    unfold awp at h ⊢
    split at h
    · split at h
      · rw [if_pos (by assumption)]; exact ihx hq s H h
      · rw [if_neg (by assumption)]; exact ihy hq s H h
    · exact h.elim
  | block id x ih =>
    intro Q Q' hq s H h
    refine ih (fun e s H h => ?_) s H h
    cases e with
    | exit i =>
      show if i = id then Q' .normal s H else Q' (.exit i) s H
      have h : if i = id then Q .normal s H else Q (.exit i) s H := h
      split at h
      · rw [if_pos (by assumption)]; exact hq _ _ _ h
      · rw [if_neg (by assumption)]; exact hq _ _ _ h
    | _ => exact hq _ _ _ h
  | loop x ih =>
    intro Q Q' hq s H h
    obtain ⟨I, m, h1, h2⟩ := h
    refine ⟨I, m, h1, fun m s H hI => ih (fun e s H h => ?_) s H (h2 m s H hI)⟩
    cases e with
    | normal => exact h
    | _ => exact hq _ _ _ h
  | exit id => exact fun hq s H h => hq _ _ _ h
  | ret => exact fun hq s H h => hq _ _ _ h
  | rangeFunc g ps x y =>
    intro Q Q' hq s H h
    obtain ⟨hm, hint', gf, caps, xs, C, I, Ix, s0, H1, g1, g2, g3, g4, g5, g6, g7, g8, g9, g10⟩ := h
    exact ⟨hm, hint', gf, caps, xs, C, I, Ix, s0, H1, g1, g2, g3, g4, g5, g6, g7, g8, fun Hn h => hq _ _ _ (g9 Hn h), fun e Hx h => hq _ _ _ (g10 e Hx h)⟩
  | _ => intros; rename_i h; exact h.elim
end
section
variable (P : Program) (hint : Nat → Bool) (n : Nat) (H0 : AHeap)
/-- Behind a loop's test. -/
def KTest (c : Operand) (b : Bool) (R : (Nat → AV) → AHeap → Prop) : Post := fun e s H => match e with | .normal => aeval s c = .d (.v (.bool b)) ∧ R s H | _ => False
theorem KTest_normal (c : Operand) (b : Bool) (R : (Nat → AV) → AHeap → Prop) (s : Nat → AV) (H : AHeap) : KTest c b R .normal s H = (aeval s c = .d (.v (.bool b)) ∧ R s H) := rfl
/-- Behind a loop's body: its end, or what leaves it. -/
def KBody (pR : Code) (b b' : Nat) (R : (Nat → AV) → AHeap → Prop) (Q : Post) : Post := fun e s H => match e with
  | .normal => KSeq P hint n H0 pR (KLoop R (KBlock b Q)) .normal s H
  | .exit i => if i = b' then KSeq P hint n H0 pR (KLoop R (KBlock b Q)) .normal s H else KBlock b Q (.exit i) s H
  | e => Q e s H
theorem KBody_normal (pR : Code) (b b' : Nat) (R : (Nat → AV) → AHeap → Prop) (Q : Post) (s : Nat → AV) (H : AHeap) : KBody P hint n H0 pR b b' R Q .normal s H = KSeq P hint n H0 pR (KLoop R (KBlock b Q)) .normal s H := rfl
theorem KBody_exit (pR : Code) (b b' : Nat) (R : (Nat → AV) → AHeap → Prop) (Q : Post) (i : Nat) (s : Nat → AV) (H : AHeap) : KBody P hint n H0 pR b b' R Q (.exit i) s H = if i = b' then KSeq P hint n H0 pR (KLoop R (KBlock b Q)) .normal s H else KBlock b Q (.exit i) s H := rfl
theorem KBody_ret (pR : Code) (b b' : Nat) (R : (Nat → AV) → AHeap → Prop) (Q : Post) (s : Nat → AV) (H : AHeap) : KBody P hint n H0 pR b b' R Q .ret s H = Q .ret s H := rfl
end
attribute [go_sem] KTest_normal KBody_normal KBody_exit KBody_ret
def acond (x : Option Bool) (A B : Prop) : Prop := match x with | some true => A | some false => B | none => False
theorem acond_true (A B : Prop) : acond (some true) A B = A := rfl
theorem acond_false (A B : Prop) : acond (some false) A B = B := rfl
theorem acond_congr {x y : Option Bool} {A B : Prop} (h : nf x = y) : acond x A B = acond y A B := by rw [← h]; rfl
theorem awp_test {P : Program} {hint : Nat → Bool} {n : Nat} {H0 : AHeap} (c : Operand) (x y : Code) (Q : Post) (s : Nat → AV) (H : AHeap) : awp P hint n H0 (.cond c x y) Q s H = acond (asB (aeval s c)) (awp P hint n H0 x Q s H) (awp P hint n H0 y Q s H) := by
  rw [awp_cond]
  generalize aeval s c = v
  cases v with
  | d u =>
    cases u with
    | v z => cases z <;> first | rfl | (rename_i b; cases b <;> rfl)
    | list _ _ => rfl
  | _ => rfl
theorem awp_T {x : Option Bool} {A B : Prop} (hc : x = some true) (h : A) : acond x A B := by rw [hc]; exact h
theorem awp_F {x : Option Bool} {A B : Prop} (hc : x = some false) (h : B) : acond x A B := by rw [hc]; exact h
attribute [go_sem] acond_true acond_false
def asArr : Option AObj → Option (TypeId × Nat × Nat × List (List D))
  | some (.arr e k ver es) => some (e, k, ver, es)
  | _ => none
theorem asArr_arr (e : TypeId) (k ver : Nat) (es : List (List D)) : asArr (some (.arr e k ver es)) = some (e, k, ver, es) := rfl
theorem appTo_any (H : AHeap) (e : TypeId) (k b : Nat) (news : List (List D)) (K : AV → AHeap → Prop) (id ver len : Nat) : appTo H e k b news K (.sl id ver 0 len) = ob (asArr H[id]?) fun a =>
    (a.1 = e ∧ a.2.1 = k ∧ a.2.2.1 = ver ∧ a.2.2.2.length = len) ∧ (a.2.2.2.length + news.length) * b ≤ 140737488355328 ∧ a.2.2.2.length + news.length ≤ 9223372036854775807 ∧
        K (.sl id (ver + 1) 0 (a.2.2.2.length + news.length)) (H.set id (.arr e k (ver + 1) (a.2.2.2 ++ news))) := by
  simp only [appTo]
  rcases H[id]? with _ | o
  · rfl
  · cases o <;> rfl
theorem all_arr' (l : List Value) (n : Nat) (h : l.length = n) : l.toArray.all Value.oneCell' 0 n = l.all Value.oneCell' := by subst h; simp
attribute [go_sem] all_arr' Int.cast_ofNat_Int
theorem bk_neq_float {P : Program} {t : TypeId} (k : FloatKind) (a b : Nat) (K : Value → Prop) : binK P .neq t (.float k a) (.float k b) K = K (.bool (k.format.order a b != some .eq)) := by
  have hp : PureBin P .neq t (.float k a) (.float k b) (.bool (k.format.order a b != some .eq)) := fun x y w => by
    simp [eqGuard, binOp, Op.floatCmp]
  have : binK P .neq t (.float k a) (.float k b) K = ∃ r, PureBin P .neq t (.float k a) (.float k b) r ∧ K r := by unfold binK; rfl
  rw [this]
  refine propext ⟨fun ⟨r, hr, k⟩ => ?_, fun k => ⟨_, hp, k⟩⟩
  have h1 := hr (.const .nilIface) (.const .nilIface) default
  rw [hp (.const .nilIface) (.const .nilIface) default] at h1
  cases h1; exact k
theorem isAny.get {P : Program} {t : TypeId} (h : isAny P t = true) : ∃ ms, P.underlying t = some (.interface ms) ∧ ms.isEmpty = true := by
  unfold isAny at h
  split at h
  · rename_i ms hm; exact ⟨ms, hm, h⟩
  · cases h
theorem eqI_nil {P : Program} {t : TypeId} {ms : Array (String × TypeId)} (hu : P.underlying t = some (.interface ms)) (d : Nat) (w : World) : (Op.equalIn (d + 1) t .nilIface .nilIface).run P w = .ok true w := by simp [Op.equalIn, run_underlying hu]
theorem eqI_iface {P : Program} {t : TypeId} {ms : Array (String × TypeId)} (hu : P.underlying t = some (.interface ms)) (d : Nat) (w : World) (t' : TypeId) (u : Value) : (Op.equalIn (d + 1) t (.iface t' u) .nilIface).run P w = .ok false w := by simp [Op.equalIn, run_underlying hu]
theorem eqG_nil {P : Program} {t : TypeId} {ms : Array (String × TypeId)} (hu : P.underlying t = some (.interface ms)) (hm : ms.isEmpty = true) (d : Nat) (w : World) : (Op.eqGuardIn (d + 1) t .nilIface .nilIface).run P w = .ok false w := by simp [Op.eqGuardIn, run_underlying hu]; simpa using hm
theorem pb_neq_nil {P : Program} {t : TypeId} (h : isAny P t = true) : PureBin P .neq t .nilIface .nilIface (.bool false) := by
  obtain ⟨ms, hu, hm⟩ := isAny.get h
  intro x y w
  have he : (Op.equal t .nilIface .nilIface).run P w = .ok true w := eqI_nil hu 9999 w
  have hg : (Op.eqGuardIn Op.maxDepth t .nilIface .nilIface).run P w = .ok false w := eqG_nil hu hm 9999 w
  have hq : (eqGuard .neq t x y .nilIface .nilIface).run P w = .ok () w := by
    cases x <;> cases y <;> simp [eqGuard, hg]
  rw [Sem.run_bind, hq]
  simp only [Result.andThen_ok, binOp]
  simp [he]
theorem pb_neq_iface {P : Program} {t : TypeId} (h : isAny P t = true) (t' : TypeId) (u : Value) : PureBin P .neq t (.iface t' u) .nilIface (.bool true) := by
  obtain ⟨ms, hu, hm⟩ := isAny.get h
  intro x y w
  have he : (Op.equal t (.iface t' u) .nilIface).run P w = .ok false w := eqI_iface hu 9999 w t' u
  simp only [binOp]
  simp [eqGuard, he]
theorem pbK {P : Program} {op : BinOp} {t : TypeId} {u v r : Value} (h : PureBin P op t u v r) (hf : ∀ K, binK P op t u v K = ∃ r, PureBin P op t u v r ∧ K r) (K : Value → Prop) : binK P op t u v K = K r := by
  rw [hf]
  refine propext ⟨fun ⟨r', h', k⟩ => ?_, fun k => ⟨r, h, k⟩⟩
  have h1 := h' (.const .nilIface) (.const .nilIface) default
  rw [h (.const .nilIface) (.const .nilIface) default] at h1
  cases h1; exact k
theorem bk_neq_nil {P : Program} {t : TypeId} (K : Value → Prop) (h : isAny P t = true) : binK P .neq t .nilIface .nilIface K = K (.bool false) := pbK (pb_neq_nil h) (fun _ => rfl) K
theorem bk_neq_iface {P : Program} {t : TypeId} (t' : TypeId) (u : Value) (K : Value → Prop) (h : isAny P t = true) : binK P .neq t (.iface t' u) .nilIface K = K (.bool true) := pbK (pb_neq_iface h t' u) (fun _ => rfl) K
attribute [go_sem] bk_neq_float bk_neq_nil bk_neq_iface
theorem isNilV_nil (P : Program) (t : TypeId) : isNilV P t (.d (.v (.slice none 0 0))) = (SE P t).isSome := rfl
theorem isNilV_ptr (P : Program) (t : TypeId) : isNilV P t (.d (.v (.pointer none))) = isPtrT P t := rfl
theorem isNilV_list (P : Program) (t : TypeId) (nn : Bool) (es : List (List D)) : isNilV P t (.d (.list nn es)) = false := rfl
theorem isNilV_p (P : Program) (t : TypeId) (a b c d : Nat) : isNilV P t (.ptr a b c d) = false := rfl
theorem known_list (P : Program) (H : AHeap) (t : TypeId) (nn : Bool) (es : List (List D)) : known P H t (.d (.list nn es)) = ((SE P t).isSome && (nn || !es.isEmpty)) := rfl
theorem known_ptr (P : Program) (H : AHeap) (t : TypeId) (id ver i j : Nat) : known P H t (.ptr id ver i j) = (isPtrT P t && (match H[id]? with | some o => o.ver == ver | none => false)) := rfl
theorem known_v (P : Program) (H : AHeap) (t : TypeId) (x : Value) : known P H t (.d (.v x)) = false := by cases x <;> rfl
theorem nilCmp_eql (P : Program) (H : AHeap) (t : TypeId) (x y : AV) : nilCmp P H .eql t x y = ((isNilV P t y && known P H t x) || (isNilV P t x && known P H t y)) := by simp [nilCmp]
theorem isNeq_eql : isNeq .eql = false := rfl
attribute [go_sem] isNilV_nil isNilV_ptr isNilV_list isNilV_p known_list known_ptr known_v nilCmp_eql isNeq_eql Option.isSome_some Option.isSome_none Bool.or_false Bool.false_or Bool.or_true Bool.true_or List.isEmpty_cons
theorem beq_decide_int (a b : Int) : (a == b) = decide (a = b) := by by_cases h : a = b <;> simp [h]
theorem bne_decide_int (a b : Int) : (a != b) = !decide (a = b) := by by_cases h : a = b <;> simp [h]
attribute [go_sem] Int.natCast_add beq_decide_int bne_decide_int List.all_map
theorem len_lt_len (H : AHeap) (k m : Nat) : (H.length + k < H.length + m) = (k < m) := by simp
theorem len_lt0 (H : AHeap) (m : Nat) : (H.length < H.length + m) = (0 < m) := by simp
theorem len_lt1 (H : AHeap) (m : Nat) : (H.length + m < H.length) = False := by simp
theorem below_arr (m : Nat) (e : TypeId) (k ver : Nat) (es : List (List D)) : (AObj.arr e k ver es).below m = true := rfl
theorem below_box (m : Nat) (e : TypeId) (k ver n : Nat) (cs : List AV) : (AObj.box e k ver n cs).below m = cs.all (below1 m) := rfl
theorem below1_d (m : Nat) (x : D) : below1 m (.d x) = true := rfl
theorem below1_sl (m id v i j : Nat) : below1 m (.sl id v i j) = decide (id < m) := rfl
theorem frz_fn (H : AHeap) (m : Nat) (f : FuncId) (cs : List AV) : frz H m (.fn f cs) = .fn f (cs.map (frz0 H m)) := rfl
attribute [go_sem] below_arr below_box below1_d below1_sl frz_fn len_lt_len len_lt0 len_lt1 Nat.lt_irrefl decide_eq_true_eq
theorem aelem_sl (H : AHeap) (k : Nat) (i : Int) (id ver off len : Nat) : aelem H k i (.sl id ver off len) = if 0 ≤ i ∧ i < len then (H[id]?).bind fun ob => if ob.ver = ver ∧ ob.k = k then some (.ptr id ver (off + i.toNat) 0) else none else none := rfl
theorem asrc_sl (H : AHeap) (id ver off len : Nat) : asrc H (.sl id ver off len) = (asArr H[id]?).bind fun a => if a.2.2.1 = ver then some ((a.2.2.2.drop off).take len) else none := by
  simp only [asrc]
  rcases H[id]? with _ | o
  · rfl
  · cases o <;> rfl
attribute [go_sem] aelem_sl asrc_sl asrc2_same asrc2_str asrc2_list
attribute [go_sem] asArr_arr appTo_any
section
variable {P : Program} {hint : Nat → Bool} {n : Nat} {H0 : AHeap}
/-- A loop of m rounds with its test ahead: round k goes from I k to I (k + 1), or leaves. -/
theorem awp_for {b b' : Nat} {cR pR body : Code} {c : Operand} (I : Nat → (Nat → AV) → AHeap → Prop) (m : Nat) {Q : Post} {s s' : Nat → AV} {H H' : AHeap} (hm : m ≤ 9223372036854775807) (hW : Weak H0 s H s' H') (h0 : I 0 s' H')
    (step : ∀ k s H, k < m → IntKind.i64.wrap ((k : Int) + 1) = (k : Int) + 1 → I k s H → awp P hint n H0 cR (KTest c true fun s H => awp P hint n H0 body (KBody P hint n H0 pR b b' (fun s' H' => ∃ s'' H'', Weak H0 s' H' s'' H'' ∧ I (k + 1) s'' H'') Q) s H) s H)
    (done : ∀ s H, I m s H → awp P hint n H0 cR (KTest c false fun s H => Q .normal s H) s H) :
    awp P hint n H0 (.loop (.seq cR (.seq (.cond c .skip (.exit b)) (.seq (.block b' body) pR)))) (KBlock b Q) s H := by
  refine awp_loop P hint n H0 (fun k s H => k ≤ m ∧ I k s H) (fun k => m - k) 0 hW ⟨Nat.zero_le _, h0⟩ ?_
  rintro k s H ⟨hk, hI⟩
  rw [awp_seq]
  by_cases hlt : k < m
  · refine awp_mono cR (fun e s H h => ?_) s H (step k s H hlt (wrap64_in _ (by omega) (by omega)) hI)
    cases e with
    | normal =>
      obtain ⟨hc, h⟩ := h
      simp only [KSeq_normal, awp_seq]
      rw [awp_cond, hc]
      simp only [if_true, awp_skip, KSeq_normal, awp_seq, awp_block]
      refine awp_mono body (fun e s H h => ?_) s H h
      have fin : KSeq P hint n H0 pR (KLoop (fun s' H' => ∃ s'' H'', Weak H0 s' H' s'' H'' ∧ I (k + 1) s'' H'') (KBlock b Q)) .normal s H →
          KSeq P hint n H0 pR (KLoop (fun s' H' => ∃ s'' H'' y, Weak H0 s' H' s'' H'' ∧ (y ≤ m ∧ I y s'' H'') ∧ m - y < m - k) (KBlock b Q)) .normal s H := by
        have mon : ∀ s H, awp P hint n H0 pR (KLoop (fun s' H' => ∃ s'' H'', Weak H0 s' H' s'' H'' ∧ I (k + 1) s'' H'') (KBlock b Q)) s H →
            awp P hint n H0 pR (KLoop (fun s' H' => ∃ s'' H'' y, Weak H0 s' H' s'' H'' ∧ (y ≤ m ∧ I y s'' H'') ∧ m - y < m - k) (KBlock b Q)) s H := by
          refine fun s H => awp_mono pR (fun e s H h => ?_) s H
          cases e with
          | normal =>
            obtain ⟨s'', H'', h1, h2⟩ := h
            exact ⟨s'', H'', k + 1, h1, ⟨hlt, h2⟩, by omega⟩
          | _ => exact h
        rw [KSeq_normal, KSeq_normal]
        cases hintAt hint pR with
        | true => exact fun ⟨s2, H2, h1, h2⟩ => ⟨s2, H2, h1, mon _ _ h2⟩
        | false => exact mon s H
      cases e with
      | normal => exact fin h
      | exit i =>
        rw [KBody_exit] at h
        rw [KBlock_exit]
        by_cases hi : i = b'
        · rw [if_pos hi] at h ⊢; exact fin h
        · rw [if_neg hi] at h ⊢; exact h
      | ret => exact h
      | panic v => exact h
    | _ => exact h.elim
  · obtain rfl : k = m := by omega
    refine awp_mono cR (fun e s H h => ?_) s H (done s H hI)
    cases e with
    | normal =>
      obtain ⟨hc, h⟩ := h
      simp only [KSeq_normal, awp_seq]
      rw [awp_cond, hc]
      simp only [Bool.false_eq_true, if_false, awp_exit, KSeq_exit]
      show KBlock b Q (.exit b) s H
      rw [KBlock_exit, if_pos rfl]
      exact h
    | _ => exact h.elim
theorem awp_assoc (x y z : Code) (Q : Post) (s : Nat → AV) (H : AHeap) : awp P hint n H0 (.seq (.seq x y) z) Q s H = awp P hint n H0 (.seq x (.seq y z)) Q s H := by
  simp only [awp_seq]
  congr 1
  funext e s H
  cases e <;> rfl
theorem awp_loop_congr {x y : Code} (h : ∀ Q s H, awp P hint n H0 x Q s H = awp P hint n H0 y Q s H) (Q : Post) (s : Nat → AV) (H : AHeap) : awp P hint n H0 (.loop x) Q s H = awp P hint n H0 (.loop y) Q s H := by
  unfold awp
  simp only [h]
/-- The same for a loop that is written with its three parts. -/
theorem awp_for3 {b b' : Nat} {cR pR body : Code} {c : Operand} (I : Nat → (Nat → AV) → AHeap → Prop) (m : Nat) {Q : Post} {s s' : Nat → AV} {H H' : AHeap} (hm : m ≤ 9223372036854775807) (hW : Weak H0 s H s' H') (h0 : I 0 s' H')
    (step : ∀ k s H, k < m → IntKind.i64.wrap ((k : Int) + 1) = (k : Int) + 1 → I k s H → awp P hint n H0 cR (KTest c true fun s H => awp P hint n H0 body (KBody P hint n H0 pR b b' (fun s' H' => ∃ s'' H'', Weak H0 s' H' s'' H'' ∧ I (k + 1) s'' H'') Q) s H) s H)
    (done : ∀ s H, I m s H → awp P hint n H0 cR (KTest c false fun s H => Q .normal s H) s H) :
    awp P hint n H0 (.loop (.seq (.seq cR (.cond c .skip (.exit b))) (.seq (.block b' body) pR))) (KBlock b Q) s H := by
  rw [awp_loop_congr fun Q s H => awp_assoc cR (.cond c .skip (.exit b)) (.seq (.block b' body) pR) Q s H]
  exact awp_for I m hm hW h0 step done
theorem Weak.cut (objs T : AHeap) (m : Nat) (hm : objs.length = m) (s : Nat → AV) (h : objs.all (AObj.below (H0.length + m)) = true) : Weak H0 s (H0 ++ (objs ++ T)) (fun t => frz (H0 ++ (objs ++ T)) (H0.length + m) (s t)) (H0 ++ objs) := by
  subst hm
  have := Weak.trunc (H0 := H0) s (H0 ++ (objs ++ T)) (H0.length + objs.length) (by omega) (by simp) ?_
  · rwa [show (H0 ++ (objs ++ T)).take (H0.length + objs.length) = H0 ++ objs from by rw [← List.append_assoc, ← List.length_append, List.take_left]] at this
  · intro i o hi ho
    rcases Nat.lt_or_ge i H0.length with h1 | h1
    · exact .inl (by rwa [List.getElem?_append_left h1] at ho)
    · right
      rw [List.getElem?_append_right h1, List.getElem?_append_left (by omega)] at ho
      rw [List.all_eq_true] at h
      exact h o (List.mem_of_getElem? ho)
/-- A round's end: what lies behind the first objects is forgotten. -/
theorem Rnd.cut {I : (Nat → AV) → AHeap → Prop} {s : Nat → AV} {H : AHeap} (objs T : AHeap) (m : Nat) (hm : objs.length = m) (e : H = H0 ++ (objs ++ T)) (h : objs.all (AObj.below (H0.length + m)) = true)
    (hi : I (fun t => frz H (H0.length + m) (s t)) (H0 ++ objs)) : ∃ s'' H'', Weak H0 s H s'' H'' ∧ I s'' H'' := by
  subst e
  exact ⟨_, _, Weak.cut objs T m hm s h, hi⟩
/-- A round's end: nothing is forgotten. -/
theorem Rnd.same {I : (Nat → AV) → AHeap → Prop} {s : Nat → AV} {H : AHeap} (h : I s H) : ∃ s'' H'', Weak H0 s H s'' H'' ∧ I s'' H'' := ⟨s, H, .refl _ _, h⟩
end

mutual
inductive Sub : AV → AV → Prop
  | refl (x : AV) : Sub x x
  | top (x : AV) : Sub x .top
  | nil : Sub (.d (.v (.slice none 0 0))) (.d (.list false []))
  | cap0 : Sub .cap0 (.d (.list false []))
  | nn (es : List (List D)) : Sub (.d (.list true es)) (.d (.list false es))
  | agg {cs cs' : List AV} (h : SubL cs cs') : Sub (.agg cs) (.agg cs')
  | sem {x y : D} (h : ∀ N w v, RD N w x v → RD N w y v) : Sub (.d x) (.d y)
inductive SubL : List AV → List AV → Prop
  | nil : SubL [] []
  | cons {x y : AV} {xs ys : List AV} (h : Sub x y) (t : SubL xs ys) : SubL (x :: xs) (y :: ys)
end
theorem SubL.len : ∀ {cs cs' : List AV}, SubL cs cs' → cs.length = cs'.length
  | _, _, .nil => rfl
  | _, _, .cons _ t => by simp [SubL.len t]
mutual
theorem Sub.ra {H : AHeap} {φ : Phi} {N : Addr → Prop} {w : World} : ∀ {x y : AV} {v : Value}, Sub x y → RA H φ N w x v → RA H φ N w y v
  | _, _, _, .refl _, h => h
  | _, _, _, .top _, _ => .top _
  | _, _, v, .nil, h => by rw [h.closed]; exact .d (.nil _ _ fun _ => rfl)
  | _, _, _, .cap0, h => by cases h with | cap0 A => exact .d (.nil _ _ fun _ => rfl)
  | _, _, _, .nn es, h => by
    cases h with
    | d h =>
      cases h with
      | list nn es ad cap k c hc hk h hd => exact .d (.list false es ad cap k c hc hk h hd)
  | _, _, _, .sem hs, h => by
    cases h with
    | d h => exact .d (hs _ _ _ h)
  | _, _, _, .agg hs, h => by
    cases h with
    | agg cs vs hl hh => exact .agg _ vs (hs.len.symm.trans hl) fun i h1 h2 => SubL.ra hs i (by rw [hs.len]; exact h1) h1 (hh i (by rw [hs.len]; exact h1) h2)
theorem SubL.ra {H : AHeap} {φ : Phi} {N : Addr → Prop} {w : World} : ∀ {cs cs' : List AV}, SubL cs cs' → ∀ (i : Nat) (h1 : i < cs.length) (h2 : i < cs'.length) {v : Value}, RA H φ N w (cs[i]) v → RA H φ N w (cs'[i]) v
  | _, _, .nil, i, h1, _, _, _ => by simp at h1
  | _, _, .cons h t, 0, _, _, _, g => Sub.ra h g
  | _, _, .cons h t, i + 1, h1, h2, v, g => by
    simp only [List.getElem_cons_succ] at g ⊢
    exact SubL.ra t i _ _ g
end
theorem Does.sub {P : Program} {f : FuncId} {args args' : List AV} {H H' : AHeap} {res : ARes} (hs : SubL args args') (h : Does P f args' H res H') : Does P f args H res H' :=
  fun φ N w vals hR hA => h φ N w vals hR ⟨hs.len.symm.trans hA.1, fun i h1 h2 => hs.ra i (by rw [hs.len]; exact h1) h1 (hA.2 i (by rw [hs.len]; exact h1) h2)⟩
theorem KCall.sub {P : Program} {f : FuncId} {args args' : List AV} {H H' : AHeap} {K : AV → AHeap → Prop} {KP : Value → AHeap → Prop} {r : AV} (hs : SubL args args') (h : Does P f args' H (.ok r) H') (hk : K r H') : KCall P f args H K KP := KCall.ok (h.sub hs) hk
attribute [go_sem] awp_test
attribute [congr] ob_congr oalt_congr aite_congr ob2_congr acond_congr
section
variable {P : Program} {hint : Nat → Bool} {n : Nat} {H0 H H' : AHeap} {s : Nat → AV} {Q : Post} {ops : Array Oper}
@[congr] theorem cg_awp {c : Code} (h : nf H = H') : awp P hint n H0 c Q s H = awp P hint n H0 c Q s H' := by rw [← h]; rfl
@[congr] theorem cg_list {l : List Oper} (h : nf H = H') : awpList P hint n ops Q l s H = awpList P hint n ops Q l s H' := by rw [← h]; rfl
@[congr] theorem cg_step {o : Oper} {K : AV → AHeap → Prop} {KP : Value → AHeap → Prop} (h : nf H = H') : astep P hint s H o K KP = astep P hint s H' o K KP := by rw [← h]; rfl
@[congr] theorem cg_KOp {rest : List Oper} {d : Option Tmp} {r r' : AV} (g : nf r = r') (h : nf H = H') : KOp P hint n ops Q rest s d r H = KOp P hint n ops Q rest s d r' H' := by rw [← g, ← h]; rfl
@[congr] theorem cg_KPan {v : Value} (h : nf H = H') : KPan Q s v H = KPan Q s v H' := by rw [← h]; rfl
@[congr] theorem cg_KSeq {c : Code} {e : AX} (h : nf H = H') : KSeq P hint n H0 c Q e s H = KSeq P hint n H0 c Q e s H' := by rw [← h]; rfl
@[congr] theorem cg_KBlock {i : Nat} {e : AX} (h : nf H = H') : KBlock i Q e s H = KBlock i Q e s H' := by rw [← h]; rfl
@[congr] theorem cg_KLoop {R : (Nat → AV) → AHeap → Prop} {e : AX} (h : nf H = H') : KLoop R Q e s H = KLoop R Q e s H' := by rw [← h]; rfl
@[congr] theorem cg_KTest {c : Operand} {b : Bool} {R : (Nat → AV) → AHeap → Prop} {e : AX} (h : nf H = H') : KTest c b R e s H = KTest c b R e s H' := by rw [← h]; rfl
@[congr] theorem cg_KBody {pR : Code} {b b' : Nat} {R : (Nat → AV) → AHeap → Prop} {e : AX} (h : nf H = H') : KBody P hint n H0 pR b b' R Q e s H = KBody P hint n H0 pR b b' R Q e s H' := by rw [← h]; rfl
@[congr] theorem cg_KYld {id : Nat} {args args' : List AV} {K : AV → AHeap → Prop} (g : nf args = args') (h : nf H = H') : KYld P id args H K = KYld P id args' H' K := by rw [← g, ← h]; rfl
@[congr] theorem cg_KCall {f : FuncId} {args args' : List AV} {K : AV → AHeap → Prop} {KP : Value → AHeap → Prop} (g : nf args = args') (h : nf H = H') : KCall P f args H K KP = KCall P f args' H' K KP := by rw [← g, ← h]; rfl
@[congr] theorem cg_KVal {K : AV → AHeap → Prop} {r r' : Value} (g : nf r = r') (h : nf H = H') : KVal K H r = KVal K H' r' := by rw [← g, ← h]; rfl
@[congr] theorem cg_AEnd {rs : List Tmp} {res : ARes} {H1 : AHeap} {e : AX} (h : nf H = H') : AEnd rs H0 res H1 e s H = AEnd rs H0 res H1 e s H' := by rw [← h]; rfl
@[congr] theorem cg_aput {d : Option Tmp} {v : AV} {t t' : Nat} (h : nf t = t') : aput n s d v t = aput n s d v t' := by rw [← h]; rfl
theorem awpList_mk (l : List Oper) : awpList P hint n ops Q l.toArray.toList s H = awpList P hint n ops Q l s H := rfl
@[congr] theorem cg_binK {op : BinOp} {t : TypeId} {u u' v v' : Value} {K : Value → Prop} (g : nf u = u') (h : nf v = v') : binK P op t u v K = binK P op t u' v' K := by rw [← g, ← h]; rfl
@[congr] theorem cg_unK {op : UnOp} {u u' : Value} {K : Value → Prop} (g : nf u = u') : unK op u K = unK op u' K := by rw [← g]; rfl
@[congr] theorem cg_aslice {k : Nat} {lo lo' : Option Int} {hi hi' : Nat → Option Int} {K : AV → AHeap → Prop} {x x' : AV} (f : nf lo = lo') (g : nf x = x') (h : nf H = H') (e : ∀ n, hi n = hi' n) : aslice H k lo hi K x = aslice H' k lo' hi' K x' := by rw [← f, ← g, ← h, funext e]; rfl
@[congr] theorem cg_aslice3 {k : Nat} {lo lo' hi hi' mx mx' : Option Int} {K : AV → AHeap → Prop} {x x' : AV} (f : nf lo = lo') (f2 : nf hi = hi') (f3 : nf mx = mx') (g : nf x = x') (h : nf H = H') : aslice3 H k lo hi mx K x = aslice3 H' k lo' hi' mx' K x' := by rw [← f, ← f2, ← f3, ← g, ← h]; rfl
@[congr] theorem cg_aassert {t : TypeId} {ok : Bool} {K : AV → AHeap → Prop} {v v' : Option Value} (g : nf v = v') (h : nf H = H') : aassert P t ok H K v = aassert P t ok H' K v' := by rw [← g, ← h]; rfl
@[congr] theorem cg_appTo {e : TypeId} {k b : Nat} {news news' : List (List D)} {K : AV → AHeap → Prop} {x x' : AV} (f : nf news = news') (g : nf x = x') (h : nf H = H') : appTo H e k b news K x = appTo H' e k b news' K x' := by rw [← f, ← g, ← h]; rfl
end
attribute [go_sem] awpList_mk
end Go.Proofs.YtmbagpfmfiegkaaGreatAw
namespace Go.Proofs.YtmbagpfmfiegkaaGreatAw
open Go.RowKit
set_option linter.unusedVariables false
set_option linter.unusedSimpArgs false
section
variable {P : Program} {hint : Nat → Bool} {s s' : Nat → AV} {H : AHeap}
theorem binK_det {op : BinOp} {t : TypeId} {u v : Value} {K : Value → Prop} (h : binK P op t u v K) : ∃ r, K r ∧ ∀ K', K' r → binK P op t u v K' := by
  unfold binK at h ⊢
  repeat' (split at h)
  all_goals first | exact h.elim | exact ⟨_, h, fun K' g => g⟩ | exact ⟨_, h.2, fun K' g => ⟨h.1, g⟩⟩ | exact ⟨_, h.2.2, fun K' g => ⟨h.1, h.2.1, g⟩⟩ | (obtain ⟨r, h1, h2⟩ := h; first | exact ⟨r, h2, fun K' g => ⟨r, h1, g⟩⟩ | exact ⟨r, h2, fun K' g => by simp_all; exact ⟨r, h1, g⟩⟩)
theorem unK_det {op : UnOp} {u : Value} {K : Value → Prop} (h : unK op u K) : ∃ r, K r ∧ ∀ K', K' r → unK op u K' := by
  cases op <;> cases u <;> first | exact h.elim | exact ⟨_, h, fun K' g => g⟩ | exact ⟨_, h.2, fun K' g => ⟨h.1, g⟩⟩
theorem abuiltin_det {b : Builtin} {args : List Operand} {tys : List TypeId} {K : AV → AHeap → Prop} (h : abuiltin P s H b args tys K) : ∃ r H', K r H' ∧ ∀ K', K' r H' → abuiltin P s H b args tys K' := by
  unfold abuiltin at h ⊢
  repeat' (split at h)
  all_goals first | exact h.elim | (exact (show False from by first | exact h.2 | exact h.2.2 | exact h.2.2.2 | exact h.2.2.2.2).elim) | exact ⟨_, _, h, fun K' g => g⟩ | exact ⟨_, _, h.2, fun K' g => ⟨h.1, g⟩⟩ | exact ⟨_, _, h.2.2, fun K' g => ⟨h.1, h.2.1, g⟩⟩ | exact ⟨_, _, h.2.2.2, fun K' g => ⟨h.1, h.2.1, h.2.2.1, g⟩⟩ | exact ⟨_, _, h.2.2.2.2.2, fun K' g => ⟨h.1, h.2.1, h.2.2.1, h.2.2.2.1, h.2.2.2.2.1, g⟩⟩ | exact ⟨_, _, h.2.2.2.2.2.2, fun K' g => ⟨h.1, h.2.1, h.2.2.1, h.2.2.2.1, h.2.2.2.2.1, h.2.2.2.2.2.1, g⟩⟩
theorem aslice_det {k : Nat} {lo : Option Int} {hi : Nat → Option Int} {x : AV} {K : AV → AHeap → Prop} (h : aslice H k lo hi K x) : ∃ r H', K r H' ∧ ∀ K', K' r H' → aslice H k lo hi K' x := by
  cases x with
  | d u =>
    cases u with
    | v _ => exact h.elim
    | list nn es =>
      simp only [aslice] at h ⊢
      obtain ⟨h0, h⟩ := h
      cases lo with
      | none => exact h.elim
      | some l =>
        cases hq : hi es.length with
        | none => rw [hq] at h; exact h.elim
        | some m => rw [hq] at h; exact ⟨_, _, h.2.2.2, fun K' g => ⟨h0, h.1, h.2.1, h.2.2.1, g⟩⟩
  | sl id ver off len =>
    simp only [aslice] at h ⊢
    cases ho : H[id]? with
    | none => rw [ho] at h; exact h.elim
    | some o =>
      rw [ho] at h
      cases lo with
      | none => exact h.elim
      | some l =>
        cases hq : hi len with
        | none => rw [hq] at h; exact h.elim
        | some m => rw [hq] at h; exact ⟨_, _, h.2.2.2.2.2, fun K' g => ⟨h.1, h.2.1, h.2.2.1, h.2.2.2.1, h.2.2.2.2.1, g⟩⟩
  | _ => exact h.elim
theorem aslice3_det {k : Nat} {lo hi mx : Option Int} {x : AV} {K : AV → AHeap → Prop} (h : aslice3 H k lo hi mx K x) : ∃ r H', K r H' ∧ ∀ K', K' r H' → aslice3 H k lo hi mx K' x := by
  cases x with
  | d u =>
    cases u with
    | v _ => exact h.elim
    | list nn es => cases lo <;> cases hi <;> cases mx <;> first | exact h.2.elim | exact ⟨_, _, h.2.2.2.2.2, fun K' g => ⟨h.1, h.2.1, h.2.2.1, h.2.2.2.1, h.2.2.2.2.1, g⟩⟩
  | _ => exact h.elim
theorem aslB_det {n : Nat} {x : AV} {K : AV → AHeap → Prop} (h : aslB H n K x) : ∃ r H', K r H' ∧ ∀ K', K' r H' → aslB H n K' x := by
  cases x with
  | iptr ds => exact ⟨_, _, h.2, fun K' g => ⟨h.1, g⟩⟩
  | _ => exact h.elim
theorem aassert_det {t : TypeId} {ok : Bool} {v : Option Value} {K : AV → AHeap → Prop} (h : aassert P t ok H K v) : ∃ r H', K r H' ∧ ∀ K', K' r H' → aassert P t ok H K' v := by
  unfold aassert at h ⊢
  cases e : assertR P t ok v with
  | none => rw [e] at h; exact h.2.elim
  | some r => rw [e] at h; exact ⟨_, _, h.2, fun K' g => ⟨h.1, g⟩⟩
/-- Only the step of a range over a map has more than one outcome. -/
def detOp (hint : Nat → Bool) : Op → Bool
  | .next _ _ => false
  | .call c => (match c.callee with | .value _ => !hint 3000000 | _ => true)
  | _ => true
theorem aop_det {hi : Bool} {op : Op} {K : AV → AHeap → Prop} (hd : detOp hint op = true) (h : aop P s H hi op K) : ∃ r H', K r H' ∧ ∀ K', K' r H' → aop P s H hi op K' := by
  unfold aop at h ⊢
  repeat' (split at h)
  all_goals first | exact h.elim | (cases hd; done) | (obtain ⟨h1, id, e', h2, h3⟩ := h; exact ⟨_, _, h3, fun K' g => by rw [if_pos (by assumption)]; exact ⟨h1, id, e', h2, g⟩⟩) | (exact ⟨_, _, h.2, fun K' g => by rw [if_neg (by assumption)]; exact ⟨h.1, g⟩⟩) | (obtain ⟨h1, h2, h⟩ := h; obtain ⟨r, H', g1, g2⟩ := aslB_det h; exact ⟨r, H', g1, fun K' g => ⟨h1, h2, g2 K' g⟩⟩) | (exact (show False from by first | exact h.2 | exact h.2.2 | exact h.2.2.2 | exact h.2.2.2.2).elim) | exact ⟨_, _, h, fun K' g => g⟩ | exact ⟨_, _, h.2, fun K' g => ⟨h.1, g⟩⟩ | exact ⟨_, _, h.2.2, fun K' g => ⟨h.1, h.2.1, g⟩⟩ | exact ⟨_, _, h.2.2.2, fun K' g => ⟨h.1, h.2.1, h.2.2.1, g⟩⟩ | exact ⟨_, _, h.2.2.2.2.2.2, fun K' g => ⟨h.1, h.2.1, h.2.2.1, h.2.2.2.1, h.2.2.2.2.1, h.2.2.2.2.2.1, g⟩⟩ | exact ⟨_, _, h.2.2.2.2, fun K' g => ⟨h.1, h.2.1, h.2.2.1, h.2.2.2.1, g⟩⟩ | exact abuiltin_det h |
    (obtain ⟨r, h1, h2⟩ := binK_det h; exact ⟨_, _, h1, fun K' g => h2 _ g⟩) | (obtain ⟨r, h1, h2⟩ := unK_det h; exact ⟨_, _, h1, fun K' g => h2 _ g⟩) | exact aslice_det h | exact aslice3_det h | exact aassert_det h | (obtain ⟨h1, h2, h⟩ := h; obtain ⟨r, H', g1, g2⟩ := aslB_det h; exact ⟨r, H', g1, fun K' g => ⟨h1, h2, g2 K' g⟩⟩) | skip
  all_goals first | (exfalso; simp_all; done) | exact ⟨_, _, h, fun K' g => by rw [if_pos (by assumption)]; exact g⟩ | exact ⟨_, _, h, fun K' g => by rw [if_neg (by assumption)]; exact g⟩ | exact ⟨_, _, h.2, fun K' g => by rw [if_pos (by assumption)]; exact ⟨h.1, g⟩⟩ | exact ⟨_, _, h.2, fun K' g => ⟨h.1, by first | (rw [if_pos (by assumption)]; exact g) | (rw [if_neg (by assumption)]; exact g)⟩⟩ |
    exact ⟨_, _, h.2, fun K' g => by rw [if_neg (by assumption)]; exact ⟨h.1, by first | (rw [if_pos (by assumption)]; exact g) | (rw [if_neg (by assumption)]; exact g)⟩⟩ | trace_state
theorem astep_det {o : Oper} {K : AV → AHeap → Prop} (hdo : detOp hint o.op = true) (h : astep P hint s H o K (fun _ _ => False)) : ∃ r H', K r H' ∧ ∀ K' KP', K' r H' → astep P hint s H o K' KP' := by
  unfold astep at h ⊢
  split at h
  · split at h <;> exact h.elim
  · split at h
    · split at h
      · obtain ⟨res, H', hd, h⟩ := h
        cases res with
        | ok r => exact ⟨r, H', h, fun K' KP' g => ⟨.ok r, H', hd, g⟩⟩
        | panic v => exact h.elim
      · exfalso
        have h1 := h.1
        clear h
        simp_all [detOp]
      · exact h.elim
    · obtain ⟨r, H', h1, h2⟩ := abuiltin_det h
      exact ⟨r, H', h1, fun K' KP' g => h2 _ g⟩
    · exact h.elim
  · obtain ⟨r, H', h1, h2⟩ := aop_det hdo h
    exact ⟨r, H', h1, fun K' KP' g => h2 _ g⟩
theorem aeval_congr {x : Operand} (h : ∀ t, x = .tmp t → s t = s' t) : aeval s x = aeval s' x := by
  cases x with
  | tmp t => exact h t rfl
  | _ => rfl
def opTmps (o : Oper) : List Tmp := o.op.operands.toList.filterMap fun | .tmp t => some t | _ => none
theorem opTmps_mem {o : Oper} (h : ∀ t ∈ opTmps o, s t = s' t) (x : Operand) (hx : x ∈ o.op.operands) : aeval s x = aeval s' x :=
  aeval_congr fun t ht => h t (by subst ht; exact List.mem_filterMap.2 ⟨_, Array.mem_toList_iff.2 hx, rfl⟩)
theorem aparts_congr {parts : Array (Nat × Operand)} (h : ∀ p ∈ parts.toList, aeval s p.2 = aeval s' p.2) : aparts s parts = aparts s' parts := by
  unfold aparts
  exact List.map_congr_left fun p hp => by rw [h p hp]
theorem intArgs_congr {k : IntKind} : ∀ {xs : List Operand}, (∀ x ∈ xs, aeval s x = aeval s' x) → intArgs s k xs = intArgs s' k xs
  | [], _ => rfl
  | x :: xs, h => by
    unfold intArgs
    rw [h x (by simp), intArgs_congr fun y hy => h y (by simp [hy])]
theorem abuiltin_congr {b : Builtin} {args : List Operand} {tys : List TypeId} {K : AV → AHeap → Prop} (h : ∀ x ∈ args, aeval s x = aeval s' x) : abuiltin P s H b args tys K = abuiltin P s' H b args tys K := by
  unfold abuiltin
  split
  · rw [h _ (by simp)]
  · rw [h _ (by simp), h _ (by simp)]
  · rw [h _ (by simp)]
  · rw [h _ (by simp), h _ (by simp)]
  · rename_i x xs
    rw [h x (by simp)]
    have e : ∀ k, intArgs s k xs = intArgs s' k xs := fun k => intArgs_congr fun y hy => h y (by simp [hy])
    simp only [e]
  · rename_i x xs
    rw [h x (by simp)]
    have e : ∀ k, intArgs s k xs = intArgs s' k xs := fun k => intArgs_congr fun y hy => h y (by simp [hy])
    simp only [e]
  · rfl
theorem aop_congr {hi : Bool} {op : Op} {K : AV → AHeap → Prop} (h : ∀ x ∈ op.operands, aeval s x = aeval s' x) : aop P s H hi op K = aop P s' H hi op K := by
  unfold aop
  split
  all_goals first
    | rfl
    | (have e := aparts_congr (s := s) (s' := s') fun p hp => h p.2 (by simp only [Op.operands, List.mem_toArray, List.mem_map]; exact ⟨p, hp, rfl⟩); simp only [e]; done)
    | exact abuiltin_congr fun x hx => h x (by simp only [Op.operands, Call.operands]; exact Array.mem_append.2 (.inr (Array.mem_toList_iff.1 hx)))
    | (split
       · exact abuiltin_congr fun x hx => h x (by simp only [Op.operands, Call.operands]; exact Array.mem_append.2 (.inr (Array.mem_toList_iff.1 hx)))
       · rfl)
    | (rename_i x lo hi' mx
       have e0 : aeval s x = aeval s' x := h _ (by simp [Op.operands])
       have e2 : sliceLo s (some hi') = sliceLo s' (some hi') := by simp only [sliceLo]; rw [h hi' (by simp [Op.operands])]
       have e3 : sliceLo s (some mx) = sliceLo s' (some mx) := by simp only [sliceLo]; rw [h mx (by simp [Op.operands])]
       have e1 : sliceLo s lo = sliceLo s' lo := by
         cases lo with
         | none => rfl
         | some y => simp only [sliceLo]; rw [h y (by simp [Op.operands])]
       rw [e0, e1, e2, e3]; done)
    | (rename_i x xT t ok; rw [h x (by simp [Op.operands])]; done)
    | (rename_i x lo hi'
       have e0 : aeval s x = aeval s' x := h _ (by simp [Op.operands])
       have e1 : sliceLo s lo = sliceLo s' lo := by
         cases lo with
         | none => rfl
         | some y => simp only [sliceLo]; rw [h y (by simp [Op.operands])]
       have e2 : ∀ n, sliceHi s n hi' = sliceHi s' n hi' := by
         intro n
         cases hi' with
         | none => rfl
         | some y => simp only [sliceHi]; rw [h y (by simp [Op.operands])]
       first | (simp only [e0, e1, e2]; done) | (simp only [e0, e1, funext e2]; done))
    | (simp [Op.operands] at h; simp only [h]; done)
    | (rename_i caps; rw [List.map_congr_left fun x hx => h x (by simp only [Op.operands]; exact Array.mem_append.2 (.inr (Array.mem_toList_iff.1 hx)))]; done)
    | skip
  all_goals
    rename_i x lo hi'
    have e0 : aeval s x = aeval s' x := h _ (by simp [Op.operands])
    have e1 : sliceLo s lo = sliceLo s' lo := by
      cases lo with
      | none => rfl
      | some y => simp only [sliceLo]; rw [h y (by simp [Op.operands])]
    have e2 : ∀ n, sliceHi s n hi' = sliceHi s' n hi' := by
      intro n
      cases hi' with
      | none => rfl
      | some y => simp only [sliceHi]; rw [h y (by simp [Op.operands])]
    simp only [e0, e1, e2, nf_id]
theorem astep_congr {o : Oper} {K : AV → AHeap → Prop} {KP : Value → AHeap → Prop} (h : ∀ t ∈ opTmps o, s t = s' t) : astep P hint s H o K KP = astep P hint s' H o K KP := by
  have h' := opTmps_mem h
  unfold astep
  split
  · rename_i x hx
    rw [h' x (by rw [hx]; simp [Op.operands])]
  · rename_i c hc
    have hm : ∀ x ∈ c.operands, aeval s x = aeval s' x := fun x hx => h' x (by rw [hc]; exact hx)
    split
    · rename_i f hf
      have e1 : aeval s f = aeval s' f := hm f (by simp [Call.operands, hf])
      have e2 : c.args.toList.map (aeval s) = c.args.toList.map (aeval s') := List.map_congr_left fun x hx => hm x (by simp only [Call.operands]; exact Array.mem_append.2 (.inr (Array.mem_toList_iff.1 hx)))
      rw [e1, e2]
    · exact abuiltin_congr fun x hx => hm x (by simp only [Call.operands]; exact Array.mem_append.2 (.inr (Array.mem_toList_iff.1 hx)))
    · rfl
  · exact aop_congr h'
end

def dstAt (ops : Array Oper) (j : Nat) : Option Tmp := (ops[j]?).bind (·.dst)
def bindsOn (o : Oper) (j : Nat) : Bool := o.after.toList.any fun e => Region.binds .any e && e.on == j
/-- Whether i is bound behind j, by way of others too. -/
def reachB (ops : Array Oper) : Nat → Nat → Nat → Bool
  | 0, _, _ => false
  | fuel + 1, i, j => match ops[i]? with
    | none => false
    | some o => bindsOn o j || (List.range i).any fun k => bindsOn o k && reachB ops fuel k j
def pureCheck (hint : Nat → Bool) (ops : Array Oper) : Bool := (List.range ops.size).all fun i => match ops[i]? with
  | none => true
  | some o => (o.after.toList.all fun e => !Region.binds .any e || decide (e.on < i)) && ((opTmps o).all fun t => (List.range ops.size).all fun j => !(dstAt ops j == some t) || (bindsOn o j || (match ops[j]? with | some oj => bindsOn oj i | none => false))) &&
    (match o.guard with | some (j, _) => bindsOn o j | none => true) && detOp hint o.op && ((List.range ops.size).all fun j => j == i || (dstAt ops i).isNone || !(dstAt ops j == dstAt ops i))
structure PureOk (hint : Nat → Bool) (ops : Array Oper) : Prop where
  down : ∀ (i : Nat) (o : Oper), ops[i]? = some o → ∀ e ∈ o.after, Region.binds .any e = true → e.on < i
  reads : ∀ (i : Nat) (o : Oper), ops[i]? = some o → ∀ t ∈ opTmps o, ∀ j, dstAt ops j = some t → bindsOn o j = true ∨ ∃ oj, ops[j]? = some oj ∧ bindsOn oj i = true
  guard : ∀ (i : Nat) (o : Oper), ops[i]? = some o → ∀ j w, o.guard = some (j, w) → bindsOn o j = true
  det : ∀ (i : Nat) (o : Oper), ops[i]? = some o → detOp hint o.op = true
  once : ∀ (i j : Nat) (t : Tmp), dstAt ops i = some t → dstAt ops j = some t → i = j
theorem dstAt_lt {ops : Array Oper} {j : Nat} {t : Tmp} (h : dstAt ops j = some t) : j < ops.size := by
  unfold dstAt at h
  obtain ⟨o, ho, _⟩ := Option.bind_eq_some_iff.1 h
  exact (Array.getElem?_eq_some_iff.1 ho).1
theorem pureCheck_ok {hint : Nat → Bool} {ops : Array Oper} (h : pureCheck hint ops = true) : PureOk hint ops := by
  unfold pureCheck at h
  rw [List.all_eq_true] at h
  have key : ∀ i o, ops[i]? = some o → ((o.after.toList.all fun e => !Region.binds .any e || decide (e.on < i)) = true ∧ ((opTmps o).all fun t => (List.range ops.size).all fun j => !(dstAt ops j == some t) || (bindsOn o j || (match ops[j]? with | some oj => bindsOn oj i | none => false))) = true ∧
      (match o.guard with | some (j, _) => bindsOn o j | none => true) = true ∧ detOp hint o.op = true) ∧ ((List.range ops.size).all fun j => j == i || (dstAt ops i).isNone || !(dstAt ops j == dstAt ops i)) = true := by
    intro i o ho
    have := h i (List.mem_range.2 (Array.getElem?_eq_some_iff.1 ho).1)
    simp only [ho, Bool.and_eq_true] at this
    exact ⟨⟨this.1.1.1.1, this.1.1.1.2, this.1.1.2, this.1.2⟩, this.2⟩
  refine ⟨fun i o ho e he hbe => ?_, fun i o ho t ht j hj => ?_, fun i o ho j w hg => ?_, fun i o ho => (key i o ho).1.2.2.2, fun i j t hi hj => ?_⟩
  · have := (key i o ho).1.1
    rw [List.all_eq_true] at this
    simpa [hbe] using this e (Array.mem_toList_iff.2 he)
  · have := (key i o ho).1.2.1
    rw [List.all_eq_true] at this
    have := this t ht
    rw [List.all_eq_true] at this
    have := this j (List.mem_range.2 (dstAt_lt hj))
    have hjl := dstAt_lt hj
    have hoj : ops[j]? = some ops[j] := by simp [hjl]
    rw [hj, hoj] at this
    simp only [beq_self_eq_true, Bool.not_true, Bool.false_or, Bool.or_eq_true] at this
    rcases this with h | h
    · exact .inl h
    · exact .inr ⟨_, hoj, h⟩
  · have := (key i o ho).1.2.2.1
    simpa [hg] using this
  · obtain ⟨o, ho, _⟩ := Option.bind_eq_some_iff.1 (show (ops[i]?).bind (·.dst) = some t from hi)
    have := (key i o ho).2
    rw [List.all_eq_true] at this
    have := this j (List.mem_range.2 (dstAt_lt hj))
    simp [hi, hj] at this
    exact this.symm
section
variable (P : Program) (hint : Nat → Bool) (n : Nat) (ops : Array Oper)
def StepR (H : AHeap) (s : Nat → AV) (o : Oper) (r : AV) : Prop := match o.guard with
  | none => ∀ K KP, K r H → astep P hint s H o K KP
  | some (j, want) => ∃ b, ayield ops s n j want = some b ∧ if b = true then ∀ K KP, K r H → astep P hint s H o K KP else r = .tup []
/-- The region in the order of its text, where each operation leaves the heap alone. -/
def awpPure (Q : Post) : List Oper → (Nat → AV) → AHeap → Prop
  | [], s, H => Q .normal s H
  | o :: rest, s, H => awpOp P hint n ops (fun _ _ _ => False) o (fun s' H' => H' = H ∧ awpPure Q rest s' H) s H
def stAt (s : Nat → AV) (rs : Nat → AV) : Nat → (Nat → AV)
  | 0 => s
  | k + 1 => aput n (stAt s rs k) (dstAt ops k) (rs k)
end
section
variable (P : Program) (hint : Nat → Bool) (n : Nat) (ops : Array Oper)
def KTail (Q : Post) (l : List Oper) : Post := fun e s H => match e with | .normal => awpList P hint n ops Q l s H | _ => False
def awpPureK (Q : Post) : Nat → List Oper → (Nat → AV) → AHeap → Prop
  | 0, l, s, H => awpList P hint n ops Q l s H
  | _ + 1, [], s, H => awpList P hint n ops Q [] s H
  | m + 1, o :: rest, s, H => awpOp P hint n ops (fun _ _ _ => False) o (fun s' H' => H' = H ∧ awpPureK Q m rest s' H) s H
end
theorem awpPureK_eq {P : Program} {hint : Nat → Bool} {n : Nat} {ops : Array Oper} {Q : Post} : ∀ (m : Nat) (l : List Oper) (s : Nat → AV) (H : AHeap), awpPureK P hint n ops Q m l s H = awpPure P hint n ops (KTail P hint n ops Q (l.drop m)) (l.take m) s H
  | 0, l, s, H => by simp [awpPureK, awpPure, KTail]
  | m + 1, [], s, H => by simp [awpPureK, awpPure, KTail]
  | m + 1, o :: rest, s, H => by
    have e : ∀ s' H, awpPureK P hint n ops Q m rest s' H = _ := fun s' H => awpPureK_eq m rest s' H
    simp only [awpPureK, List.drop_succ_cons, List.take_succ_cons, awpPure, e]
theorem awpPure_mono {P : Program} {hint : Nat → Bool} {n : Nat} {ops : Array Oper} {Q Q' : Post} (hq : ∀ s H, Q .normal s H → Q' .normal s H) : ∀ (l : List Oper) (s : Nat → AV) {H : AHeap}, awpPure P hint n ops Q l s H → awpPure P hint n ops Q' l s H
  | [], s, H, h => hq _ _ h
  | o :: rest, s, H, h => by
    unfold awpPure at h ⊢
    exact awpOp_mono (fun _ _ _ h => h) (fun s' H' h' => ⟨h'.1, awpPure_mono hq rest s' h'.2⟩) h
section
variable {P : Program} {hint : Nat → Bool} {n : Nat} {ops : Array Oper} {H : AHeap} {Q : Post}
theorem StepR.op {s : Nat → AV} {o : Oper} {r : AV} (h : StepR P hint n ops H s o r) {K : (Nat → AV) → AHeap → Prop} (hk : K (aput n s o.dst r) H) : awpOp P hint n ops Q o K s H := by
  unfold StepR at h
  unfold awpOp
  split at h
  · rename_i hg
    try simp only [hg]
    exact h (fun r H' => K (aput n s o.dst r) H') _ hk
  · rename_i j want hg
    obtain ⟨b, hb, h⟩ := h
    simp only [hg, hb]
    split at h
    · rw [if_pos (by assumption)]; exact h (fun r H' => K (aput n s o.dst r) H') _ hk
    · rw [if_neg (by assumption)]; rw [h] at hk; exact hk
theorem StepR.congr {s s' : Nat → AV} {o : Oper} {r : AV} (h : StepR P hint n ops H s o r) (h1 : ∀ t ∈ opTmps o, s t = s' t) (h2 : ∀ j w, o.guard = some (j, w) → ∀ d, dstAt ops j = some d → s d = s' d) : StepR P hint n ops H s' o r := by
  unfold StepR at h ⊢
  split at h
  · rename_i hg
    try simp only [hg]
    intro K KP hk
    rw [← astep_congr h1]
    exact h K KP hk
  · rename_i j want hg
    try simp only [hg]
    obtain ⟨b, hb, h⟩ := h
    refine ⟨b, ?_, ?_⟩
    · rw [← hb]
      unfold ayield
      have := h2 j want hg
      unfold dstAt at this
      cases hd : (ops[j]?).bind (·.dst) with
      | none => rfl
      | some d => simp only [this d hd]
    · split at h
      · rw [if_pos (by assumption)]
        intro K KP hk
        rw [← astep_congr h1]
        exact h K KP hk
      · rw [if_neg (by assumption)]; exact h
theorem awpPure_steps (hdt : ∀ (i : Nat) (o : Oper), ops[i]? = some o → detOp hint o.op = true) (m : Nat) (hm : m ≤ ops.size) (s0 : Nat → AV) (rs0 : Nat → AV) : ∀ (l : List Oper) (k : Nat), l = (ops.toList.take m).drop k → k ≤ m → awpPure P hint n ops Q l (stAt n ops s0 rs0 k) H →
    ∃ rs, (∀ i, i < k → rs i = rs0 i) ∧ (∀ i o, k ≤ i → i < m → ops[i]? = some o → StepR P hint n ops H (stAt n ops s0 rs i) o (rs i)) ∧ Q .normal (stAt n ops s0 rs m) H
  | [], k, hl, hk, h => by
    have : m ≤ k := by have := congrArg List.length hl; simp at this; omega
    have hk' : k = m := by omega
    subst hk'
    exact ⟨rs0, fun _ _ => rfl, fun i o hi hi2 ho => absurd hi2 (by omega), h⟩
  | o :: rest, k, hl, hk, h => by
    have hlt : k < m := by have := congrArg List.length hl; simp at this; omega
    have ho : ops[k]? = some o := by
      have : ((ops.toList.take m).drop k)[0]? = some o := by rw [← hl]; rfl
      simpa [List.getElem?_take, hlt] using this
    have hrest : rest = (ops.toList.take m).drop (k + 1) := by rw [← List.drop_drop]; rw [← hl]; rfl
    have hdst : dstAt ops k = o.dst := by simp [dstAt, ho]
    have step : ∃ r, StepR P hint n ops H (stAt n ops s0 rs0 k) o r ∧ awpPure P hint n ops Q rest (aput n (stAt n ops s0 rs0 k) o.dst r) H := by
      unfold awpPure awpOp at h
      split at h
      · rename_i hg
        obtain ⟨r, H', ⟨rfl, hr⟩, hdet⟩ := astep_det (hdt k o ho) h
        exact ⟨r, by unfold StepR; simp only [hg]; exact fun K KP hk => hdet K KP hk, hr⟩
      · rename_i j want hg
        split at h
        · rename_i b hb
          split at h
          · rename_i hbw
            obtain ⟨r, H', ⟨rfl, hr⟩, hdet⟩ := astep_det (hdt k o ho) h
            exact ⟨r, by unfold StepR; simp only [hg]; exact ⟨b, hb, by rw [if_pos hbw]; exact fun K KP hk => hdet K KP hk⟩, hr⟩
          · rename_i hbw
            exact ⟨.tup [], by unfold StepR; simp only [hg]; exact ⟨b, hb, by simp [hbw]⟩, h.2⟩
        · exact h.elim
    obtain ⟨r, hr, hnext⟩ := step
    let rs1 : Nat → AV := fun i => if i = k then r else rs0 i
    have hst : ∀ i, i ≤ k → stAt n ops s0 rs1 i = stAt n ops s0 rs0 i := by
      intro i
      induction i with
      | zero => intro _; rfl
      | succ i ih =>
        intro hi
        simp only [stAt, ih (by omega)]
        have : rs1 i = rs0 i := by show (if i = k then r else rs0 i) = _; rw [if_neg (by omega)]
        rw [this]
    have hk1 : rs1 k = r := by show (if k = k then r else _) = r; rw [if_pos rfl]
    have h' : awpPure P hint n ops Q rest (stAt n ops s0 rs1 (k + 1)) H := by
      simp only [stAt, hst k (Nat.le_refl _), hk1, hdst]
      exact hnext
    obtain ⟨rs, h1, h2, h3⟩ := awpPure_steps hdt m hm s0 rs1 rest (k + 1) hrest hlt h'
    have hst2 : ∀ i, i ≤ k → stAt n ops s0 rs i = stAt n ops s0 rs0 i := by
      intro i
      induction i with
      | zero => intro _; rfl
      | succ i ih =>
        intro hi
        simp only [stAt, ih (by omega)]
        have e1 : rs i = rs1 i := h1 i (by omega)
        have e2 : rs1 i = rs0 i := by show (if i = k then r else rs0 i) = _; rw [if_neg (by omega)]
        rw [e1, e2]
    refine ⟨rs, fun i hi => ?_, fun i o' hi hi2 ho' => ?_, h3⟩
    · rw [h1 i (by omega)]; show (if i = k then r else rs0 i) = _; rw [if_neg (by omega)]
    · rcases Nat.lt_or_ge k i with hki | hki
      · exact h2 i o' hki hi2 ho'
      · obtain rfl : i = k := by omega
        rw [ho] at ho'
        cases ho'
        rw [hst2 i (Nat.le_refl _), h1 i (by omega), hk1]
        exact hr
theorem countP_lt {p q : Nat → Bool} {i : Nat} (hpq : ∀ j, p j = true → q j = true) (hp : p i = false) (hq : q i = true) : ∀ l : List Nat, i ∈ l → l.countP p < l.countP q
  | [], h => by simp at h
  | x :: l, h => by
    have hle : l.countP p ≤ l.countP q := List.countP_mono_left fun j _ => hpq j
    rw [List.countP_cons, List.countP_cons]
    by_cases hx : i = x
    · subst hx
      simp [hp, hq]; omega
    · have := countP_lt hpq hp hq l (by simpa [hx] using h)
      by_cases hpx : p x = true
      · simp [hpx, hpq x hpx]; omega
      · simp [hpx]; omega
theorem bound_listed {listed : Array Bool} {o : Oper} {j : Nat} (h1 : (o.after.all fun e => !Region.binds .any e || listed.getD e.on false) = true) (h2 : bindsOn o j = true) : listed.getD j false = true := by
  unfold bindsOn at h2
  rw [List.any_eq_true] at h2
  obtain ⟨e, he, h2⟩ := h2
  rw [Array.all_eq_true_iff_forall_mem] at h1
  have := h1 e (Array.mem_toList_iff.1 he)
  simp only [Bool.and_eq_true, beq_iff_eq] at h2
  simpa [h2.1, h2.2] using this
/-- A chain at a region's end: each operation bound behind all before it. -/
theorem awpAny_chain {m0 : Nat} (hc : PureOk hint ops) (htl : ∀ i o, ops[i]? = some o → m0 < i → bindsOn o (i - 1) = true) : ∀ {fuel : Nat} {listed : Array Bool} {s : Nat → AV} {H : AHeap}, listed.size = ops.size → ∀ m, m0 ≤ m → m ≤ ops.size →
    (∀ i, i < m → listed.getD i true = true) → (∀ i, m ≤ i → i < ops.size → listed.getD i false = false) → awpList P hint n ops Q (ops.toList.drop m) s H → ops.size - m ≤ fuel → awpAny P hint n ops Q fuel listed s H := by
  intro fuel
  induction fuel with
  | zero =>
    intro listed s H hsz m hm0 hm hall hno h hf
    have : m = ops.size := by omega
    subst this
    rw [List.drop_of_length_le (by simp)] at h
    refine ⟨?_, h⟩
    unfold Region.ready
    rw [List.filter_eq_nil_iff]
    intro i hi
    simp only [hall i (List.mem_range.1 hi), Bool.not_true, Bool.false_and, Bool.false_eq_true, not_false_eq_true]
  | succ fuel ih =>
    intro listed s H hsz m hm0 hm hall hno h hf
    rcases Nat.lt_or_ge m ops.size with hlt | hge
    · have hget : ops[m]? = some ops[m] := by simp [hlt]
      have hun : listed.getD m true = false := by
        have := hno m (Nat.le_refl _) hlt
        simpa [Array.getD, show m < listed.size by omega] using this
      have hd : ops.toList.drop m = ops[m] :: ops.toList.drop (m + 1) := by
        rw [List.drop_eq_getElem_cons (by simpa using hlt)]; simp
      rw [hd] at h
      refine ⟨fun hr => ?_, fun i hi => ?_⟩
      · exfalso
        have : m ∈ Region.ready .any ops listed := by
          unfold Region.ready
          rw [List.mem_filter]
          refine ⟨List.mem_range.2 hlt, ?_⟩
          simp only [hun, hget, Bool.not_false, Bool.true_and, Option.map_some, Option.getD_some]
          rw [Array.all_eq_true_iff_forall_mem]
          intro e he
          cases hbe : Region.binds .any e
          · simp
          have hl := hc.down m _ hget e he hbe
          have := hall e.on hl
          have : listed.getD e.on false = true := by simpa [Array.getD, show e.on < listed.size by omega] using this
          simp [this]
        rw [hr] at this
        simp at this
      · unfold Region.ready at hi
        rw [List.mem_filter] at hi
        obtain ⟨hi, hrd⟩ := hi
        have hi := List.mem_range.1 hi
        have hgeti : ops[i]? = some ops[i] := by simp [hi]
        simp only [hgeti, Option.map_some, Option.getD_some, Bool.and_eq_true, Bool.not_eq_true'] at hrd
        obtain ⟨hu, haft⟩ := hrd
        have him : i = m := by
          rcases Nat.lt_trichotomy i m with h1 | h1 | h1
          · rw [hall i h1] at hu; cases hu
          · exact h1
          · have := bound_listed haft (htl i _ hgeti (by omega))
            rw [hno (i - 1) (by omega) (by omega)] at this
            cases this
        subst him
        simp only [hget]
        have hset : ∀ j b, (listed.setIfInBounds i true).getD j b = if j = i then true else listed.getD j b := by
          intro j b
          simp only [Array.getD_eq_getD_getElem?, Array.getElem?_setIfInBounds]
          by_cases e : i = j
          · subst e; simp [hsz, hi]
          · rw [if_neg e, if_neg (Ne.symm e)]
        refine awpOp_mono (fun _ _ _ h => h) (fun s' H' h' => ?_) h
        refine ih (by simpa using hsz) (i + 1) (by omega) hi (fun j hj => ?_) (fun j hj hj2 => ?_) h' (by omega)
        · rw [hset]
          by_cases e : j = i
          · rw [if_pos e]
          · rw [if_neg e]; exact hall j (by omega)
        · rw [hset, if_neg (by omega)]
          exact hno j (by omega) hj2
    · have : m = ops.size := by omega
      subst this
      rw [List.drop_of_length_le (by simp)] at h
      refine ⟨fun _ => h, fun i hi => ?_⟩
      unfold Region.ready at hi
      rw [List.mem_filter] at hi
      obtain ⟨hi, hrd⟩ := hi
      rw [hall i (List.mem_range.1 hi)] at hrd
      simp at hrd
theorem reachL_listed {L : Nat → Bool} (hcl : ∀ j oj i, ops[j]? = some oj → L j = true → bindsOn oj i = true → L i = true) : ∀ (fuel : Nat) (i : Nat) (o : Oper), ops[i]? = some o →
    (∀ j, bindsOn o j = true → L j = true) → ∀ j, reachB ops fuel i j = true → L j = true
  | 0, i, o, ho, hb, j, h => by simp [reachB] at h
  | fuel + 1, i, o, ho, hb, j, h => by
    simp only [reachB, ho, Bool.or_eq_true, List.any_eq_true, Bool.and_eq_true] at h
    rcases h with h | ⟨k, _, h1, h2⟩
    · exact hb j h
    · have hk := hb k h1
      cases hok : ops[k]? with
      | none => cases fuel <;> simp [reachB, hok] at h2
      | some ok => exact reachL_listed hcl fuel k ok hok (fun j' hj' => hcl k ok j' hok hk hj') j h2
theorem reachB_listed {listed : Array Bool} (hcl : ∀ j oj i, ops[j]? = some oj → listed.getD j false = true → bindsOn oj i = true → listed.getD i false = true) (fuel : Nat) (i : Nat) (o : Oper) (ho : ops[i]? = some o)
    (hb : ∀ j, bindsOn o j = true → listed.getD j false = true) (j : Nat) (h : reachB ops fuel i j = true) : listed.getD j false = true := reachL_listed (L := fun c => listed.getD c false) hcl fuel i o ho hb j h
theorem awpAny_steps (hc : PureOk hint ops) (m : Nat) (hm : m ≤ ops.size) (htl : ∀ i o, ops[i]? = some o → (i = m → ∀ j, j < m → reachB ops 12 i j = true) ∧ (m < i → bindsOn o (i - 1) = true)) (s : Nat → AV) (rs : Nat → AV) (hs : ∀ i o, i < m → ops[i]? = some o → StepR P hint n ops H (stAt n ops s rs i) o (rs i)) (hQ : awpList P hint n ops Q (ops.toList.drop m) (stAt n ops s rs m) H) :
    ∀ (fuel : Nat) (listed : Array Bool) (s' : Nat → AV), listed.size = ops.size → (List.range ops.size).countP (fun j => !listed.getD j true) ≤ fuel →
      (∀ t j, dstAt ops j = some t → s' t = if listed.getD j false = true then (if t < n then rs j else .top) else s t) → (∀ t, (∀ j, dstAt ops j ≠ some t) → s' t = s t) →
      (∀ j oj i, ops[j]? = some oj → listed.getD j false = true → bindsOn oj i = true → listed.getD i false = true) → (∀ i, m ≤ i → i < ops.size → listed.getD i false = false) → awpAny P hint n ops Q fuel listed s' H := by
  have st_no : ∀ k t, (∀ j, j < k → dstAt ops j ≠ some t) → stAt n ops s rs k t = s t := by
    intro k t
    induction k with
    | zero => intro _; rfl
    | succ k ih =>
      intro h
      simp only [stAt]
      cases hd : dstAt ops k with
      | none => exact ih fun j hj => h j (by omega)
      | some d =>
        simp only [aput]
        have : t ≠ d := fun e => h k (by omega) (by rw [hd, e])
        rw [if_neg this]
        exact ih fun j hj => h j (by omega)
  have st_dst : ∀ k t j, dstAt ops j = some t → j < k → stAt n ops s rs k t = if t < n then rs j else .top := by
    intro k t j hj
    induction k with
    | zero => intro h; omega
    | succ k ih =>
      intro h
      simp only [stAt]
      by_cases e : j = k
      · subst e
        rw [hj]
        simp only [aput, if_pos]
      · have := ih (by omega)
        cases hd : dstAt ops k with
        | none => exact this
        | some d =>
          simp only [aput]
          have hne : t ≠ d := fun e' => e (hc.once j k t hj (by rw [hd, e']))
          rw [if_neg hne]
          exact this
  have bind_of : ∀ (listed : Array Bool) (o : Oper) (j : Nat), (o.after.all fun e => !Region.binds .any e || listed.getD e.on false) = true → bindsOn o j = true → listed.getD j false = true := by
    intro listed o j h1 h2
    unfold bindsOn at h2
    rw [List.any_eq_true] at h2
    obtain ⟨e, he, h2⟩ := h2
    rw [Array.all_eq_true_iff_forall_mem] at h1
    have := h1 e (Array.mem_toList_iff.1 he)
    simp only [Bool.and_eq_true, beq_iff_eq] at h2
    simpa [h2.1, h2.2] using this
  have fin : ∀ (listed : Array Bool) (s' : Nat → AV), (∀ i, i < m → listed.getD i true = true) → (∀ i, m ≤ i → i < ops.size → listed.getD i false = false) → listed.size = ops.size →
      (∀ t j, dstAt ops j = some t → s' t = if listed.getD j false = true then (if t < n then rs j else .top) else s t) → (∀ t, (∀ j, dstAt ops j ≠ some t) → s' t = s t) → s' = stAt n ops s rs m := by
    intro listed s' hall hno hsz h1 h2
    funext t
    by_cases hd : ∃ j, dstAt ops j = some t
    · obtain ⟨j, hj⟩ := hd
      have hjl := dstAt_lt hj
      rcases Nat.lt_or_ge j m with hjm | hjm
      · have : listed.getD j false = true := by
          have := hall j hjm
          simpa [Array.getD, show j < listed.size by omega] using this
        rw [h1 t j hj, if_pos this, st_dst _ t j hj hjm]
      · rw [h1 t j hj, if_neg (by simp [hno j hjm hjl]), st_no m t fun j' hj' hd' => by
          have := hc.once j' j t hd' hj
          omega]
    · have hd' : ∀ j, dstAt ops j ≠ some t := fun j hj => hd ⟨j, hj⟩
      rw [h2 t hd', st_no _ t fun j _ => hd' j]
  intro fuel
  induction fuel with
  | zero =>
    intro listed s' hsz hcnt h1 h2 hcl hno
    have hall : ∀ i, i < ops.size → listed.getD i true = true := by
      intro i hi
      have h0 : (List.range ops.size).countP (fun j => !listed.getD j true) = 0 := by omega
      rw [List.countP_eq_zero] at h0
      simpa using h0 i (List.mem_range.2 hi)
    have hs' := fin listed s' (fun i hi => hall i (by omega)) hno hsz h1 h2
    subst hs'
    exact awpAny_chain hc (fun i o ho hi => (htl i o ho).2 hi) hsz m (Nat.le_refl _) hm (fun i hi => hall i (by omega)) (fun i hi hi2 => hno i hi hi2) hQ (by
      rcases Nat.lt_or_ge m ops.size with h | h
      · have e1 := hall m h
        have e2 := hno m (Nat.le_refl _) h
        simp [Array.getD, show m < listed.size by omega] at e1 e2
        rw [e1] at e2
        cases e2
      · omega)
  | succ fuel ih =>
    intro listed s' hsz hcnt h1 h2 hcl hno
    by_cases hpre : ∀ i, i < m → listed.getD i true = true
    · have hs' := fin listed s' hpre hno hsz h1 h2
      subst hs'
      refine awpAny_chain hc (fun i o ho hi => (htl i o ho).2 hi) hsz m (Nat.le_refl _) hm hpre hno hQ ?_
      have hsub : (List.range ops.size).countP (fun j => decide (m ≤ j)) ≤ (List.range ops.size).countP (fun j => !listed.getD j true) := by
        refine List.countP_mono_left fun j hj hmj => ?_
        have hj := List.mem_range.1 hj
        have := hno j (by simpa using hmj) hj
        simp [Array.getD, show j < listed.size by omega] at this ⊢
        exact this
      have hcm : ∀ N, m ≤ N → (List.range N).countP (fun j => decide (m ≤ j)) = N - m := by
        intro N hN
        induction N with
        | zero => simp
        | succ N ihN =>
          rw [List.range_succ, List.countP_append, List.countP_singleton]
          by_cases e : m ≤ N
          · rw [ihN e]; simp [e]; omega
          · have e' : m = N + 1 := by omega
            have : (List.range N).countP (fun j => decide (m ≤ j)) = 0 := by
              rw [List.countP_eq_zero]
              intro j hj
              have := List.mem_range.1 hj
              simp; omega
            rw [this]; simp [e]; omega
      rw [hcm _ hm] at hsub
      omega
    have hex : ∃ i, i < m ∧ listed.getD i true = false ∧ ∀ j, j < i → listed.getD j true = true := by
      have : ∃ i, i < m ∧ listed.getD i true = false := by
        rcases Classical.not_forall.1 hpre with ⟨i, hi⟩
        rcases Classical.not_imp.1 hi with ⟨h1, h2⟩
        exact ⟨i, h1, by simpa using h2⟩
      obtain ⟨i, hi⟩ := this
      induction i using Nat.strongRecOn with
      | _ i ihi =>
        by_cases hj : ∃ j, j < i ∧ listed.getD j true = false
        · obtain ⟨j, hj1, hj2⟩ := hj
          exact ihi j hj1 ⟨by omega, hj2⟩
        · refine ⟨i, hi.1, hi.2, fun j hji => ?_⟩
          cases hq : listed.getD j true with
          | true => rfl
          | false => exact absurd ⟨j, hji, hq⟩ hj
    obtain ⟨i0, hi0, hu0, hb0⟩ := hex
    refine ⟨fun hr => ?_, fun i hi => ?_⟩
    · exfalso
      have hlt0 : i0 < ops.size := by omega
      have hget : ops[i0]? = some ops[i0] := by simp [hlt0]
      have : i0 ∈ Region.ready .any ops listed := by
        unfold Region.ready
        rw [List.mem_filter]
        refine ⟨List.mem_range.2 hlt0, ?_⟩
        simp only [hu0, hget, Bool.not_false, Bool.true_and, Option.map_some, Option.getD_some]
        rw [Array.all_eq_true_iff_forall_mem]
        intro e he
        cases hbe : Region.binds .any e
        · simp
        have hlt := hc.down i0 _ hget e he hbe
        have := hb0 e.on hlt
        have : listed.getD e.on false = true := by simpa [Array.getD, show e.on < listed.size by omega] using this
        simp [this]
      rw [hr] at this
      simp at this
    · unfold Region.ready at hi
      rw [List.mem_filter] at hi
      obtain ⟨hi, hrd⟩ := hi
      have hi := List.mem_range.1 hi
      have hget : ops[i]? = some ops[i] := by simp [hi]
      simp only [hget, Option.map_some, Option.getD_some, Bool.and_eq_true, Bool.not_eq_true'] at hrd
      obtain ⟨hun, haft⟩ := hrd
      simp only [hget]
      have hdst : dstAt ops i = (ops[i]).dst := by simp [dstAt, hget]
      have hun' : listed.getD i false = false := by simpa [Array.getD, show i < listed.size by omega] using hun
      have him : i < m := by
        rcases Nat.lt_or_ge i m with h | h
        · exact h
        · exfalso
          have hu0' : listed.getD i0 false = false := by simpa [Array.getD, show i0 < listed.size by omega] using hu0
          rcases Nat.lt_or_ge m i with h2 | h2
          · have := bind_of listed ops[i] (i - 1) haft ((htl i _ hget).2 h2)
            rw [hno (i - 1) (by omega) (by omega)] at this
            cases this
          · have him : i = m := by omega
            have := reachB_listed hcl 12 i _ hget (fun j hj => bind_of listed ops[i] j haft hj) i0 ((htl i _ hget).1 him i0 hi0)
            rw [this] at hu0'
            cases hu0'
      have agree : ∀ t j, dstAt ops j = some t → bindsOn ops[i] j = true → stAt n ops s rs i t = s' t := by
        intro t j hj hb
        have hl := bind_of listed ops[i] j haft hb
        have hlt : j < i := by
          unfold bindsOn at hb
          rw [List.any_eq_true] at hb
          obtain ⟨e, he, hb⟩ := hb
          simp only [Bool.and_eq_true, beq_iff_eq] at hb
          have := hc.down i _ hget e (Array.mem_toList_iff.1 he) hb.1
          omega
        rw [st_dst i t j hj hlt, h1 t j hj, if_pos hl]
      refine StepR.op ((hs i _ him hget).congr (fun t ht => ?_) fun j w hg d hd => agree d j hd (hc.guard i _ hget j w hg)) ?_
      · by_cases hd : ∃ j, dstAt ops j = some t
        · obtain ⟨j, hj⟩ := hd
          rcases hc.reads i _ hget t ht j hj with hb | ⟨oj, hoj, hb⟩
          · exact agree t j hj hb
          · have hnl : listed.getD j false = false := by
              cases hq : listed.getD j false with
              | false => rfl
              | true => rw [hcl j oj i hoj hq hb] at hun'; cases hun'
            have hlt : i < j := by
              unfold bindsOn at hb
              rw [List.any_eq_true] at hb
              obtain ⟨e, he, hb⟩ := hb
              simp only [Bool.and_eq_true, beq_iff_eq] at hb
              have := hc.down j _ hoj e (Array.mem_toList_iff.1 he) hb.1
              omega
            rw [h1 t j hj, if_neg (by simp [hnl]), st_no i t fun j' hj' hd' => by
              have := hc.once j' j t hd' hj
              omega]
        · have hd' : ∀ j, dstAt ops j ≠ some t := fun j hj => hd ⟨j, hj⟩
          rw [st_no i t fun j _ => hd' j, h2 t hd']
      · have hset : ∀ j b, (listed.setIfInBounds i true).getD j b = if j = i then true else listed.getD j b := by
          intro j b
          simp only [Array.getD_eq_getD_getElem?, Array.getElem?_setIfInBounds]
          by_cases e : i = j
          · subst e; simp [hsz, hi]
          · rw [if_neg e, if_neg (Ne.symm e)]
        refine ih _ _ (by simpa using hsz) ?_ ?_ ?_ ?_ ?_
        · have := countP_lt (p := fun j => !(listed.setIfInBounds i true).getD j true) (q := fun j => !listed.getD j true) (i := i) (fun j hj => by
            simp only [hset] at hj ⊢
            by_cases e : j = i
            · simp [e] at hj
            · simpa [e] using hj) (by simp [hset]) (by simp [hun]) (List.range ops.size) (List.mem_range.2 hi)
          omega
        · intro t j hj
          rw [hset]
          by_cases e : j = i
          · subst e
            rw [hdst] at hj
            rw [if_pos rfl, if_pos rfl, hj]
            simp only [aput, if_pos]
          · rw [if_neg e]
            cases hd : (ops[i]).dst with
            | none => exact h1 t j hj
            | some d =>
              simp only [aput]
              have : t ≠ d := fun e' => e (hc.once j i t hj (by rw [hdst, hd, e']))
              rw [if_neg this]
              exact h1 t j hj
        · intro t ht
          cases hd : (ops[i]).dst with
          | none => exact h2 t ht
          | some d =>
            simp only [aput]
            have : t ≠ d := fun e' => ht i (by rw [hdst, hd, e'])
            rw [if_neg this]
            exact h2 t ht
        · intro j oj i' hoj hlj hb
          rw [hset] at hlj ⊢
          by_cases e' : i' = i
          · rw [if_pos e']
          · rw [if_neg e']
            by_cases e : j = i
            · subst e
              rw [hget] at hoj
              cases hoj
              exact bind_of listed _ i' haft hb
            · rw [if_neg e] at hlj
              exact hcl j oj i' hoj hlj hb
        · intro j hj hj2
          rw [hset, if_neg (by omega)]
          exact hno j hj hj2
def tailCheck (ops : Array Oper) (m : Nat) : Bool := decide (m ≤ ops.size) && (List.range ops.size).all fun i => decide (i < m) || if i = m then (List.range m).all fun j => reachB ops 12 i j else match ops[i]? with
  | none => true
  | some o => bindsOn o (i - 1)
theorem tailCheck_ok {m : Nat} (h : tailCheck ops m = true) : m ≤ ops.size ∧ ∀ i o, ops[i]? = some o → (i = m → ∀ j, j < m → reachB ops 12 i j = true) ∧ (m < i → bindsOn o (i - 1) = true) := by
  unfold tailCheck at h
  simp only [Bool.and_eq_true, decide_eq_true_eq, List.all_eq_true] at h
  refine ⟨h.1, fun i o ho => ?_⟩
  have := h.2 i (List.mem_range.2 (Array.getElem?_eq_some_iff.1 ho).1)
  refine ⟨fun e j hj => ?_, fun hi => ?_⟩
  · subst e
    simp only [Nat.lt_irrefl, decide_false, Bool.false_or, if_true, List.all_eq_true] at this
    exact this j (List.mem_range.2 hj)
  · have h1 : ¬ i < m := by omega
    have h2 : ¬ i = m := by omega
    simpa only [h1, h2, decide_false, Bool.false_or, if_false, ho] using this
/-- A drawn region: m operations that leave the heap alone, then a chain. -/
theorem awp_drawC (m : Nat) {H0 : AHeap} {id : Nat} {s : Nat → AV} (hm : P.follows .mixedOrders = true) (hc : pureCheck hint ops = true) (ht : tailCheck ops m = true)
    (h : awpPure P hint n ops (KTail P hint n ops Q (ops.toList.drop m)) (ops.toList.take m) s H) : awp P hint n H0 (.region id ops true) Q s H := by
  obtain ⟨hms, htl⟩ := tailCheck_ok ht
  refine ⟨hm, ?_⟩
  obtain ⟨rs, _, h2, h3⟩ := awpPure_steps (pureCheck_ok hc).det m hms s (fun _ => .top) (ops.toList.take m) 0 rfl (Nat.zero_le _) h
  refine awpAny_steps (pureCheck_ok hc) m hms htl s rs (fun i o hi ho => h2 i o (Nat.zero_le _) hi ho) h3 ops.size (Array.replicate ops.size false) s (by simp) ?_ ?_ ?_ ?_ ?_
  · exact Nat.le_trans List.countP_le_length (by simp)
  · intro t j hj
    have hjl := dstAt_lt hj
    rw [if_neg (by simp [Array.getD, hjl])]
  · intro t _; rfl
  · intro j oj i hoj hl
    have hjl := (Array.getElem?_eq_some_iff.1 hoj).1
    simp [Array.getD, hjl] at hl
  · intro i hi hi2
    simp [Array.getD, hi2]
/-- A drawn region of operations that leave the heap alone: in the order of its text is enough. -/
theorem awp_draw {H0 : AHeap} {id : Nat} {s : Nat → AV} (hm : P.follows .mixedOrders = true) (hc : pureCheck hint ops = true) (h : awpPure P hint n ops Q ops.toList s H) : awp P hint n H0 (.region id ops true) Q s H := by
  refine awp_drawC ops.size hm hc ?_ ?_
  · unfold tailCheck
    simp only [Nat.le_refl, decide_true, Bool.true_and, List.all_eq_true]
    intro i hi
    simp [List.mem_range.1 hi]
  · have e1 : ops.toList.drop ops.size = [] := List.drop_of_length_le (by simp)
    have e2 : ops.toList.take ops.size = ops.toList := List.take_of_length_le (by simp)
    rw [e1, e2]
    exact awpPure_mono (Q := Q) (Q' := KTail P hint n ops Q []) (fun s H h => h) _ _ h
/-- Cut where the given list says. -/
theorem awp_drawK (m : Nat) {H0 : AHeap} {id : Nat} {s : Nat → AV} (hm : P.follows .mixedOrders = true) (hc : pureCheck hint ops = true) (ht : tailCheck ops m = true)
    (h : awpPureK P hint n ops Q m ops.toList s H) : awp P hint n H0 (.region id ops true) Q s H := awp_drawC m hm hc ht (by rw [← awpPureK_eq]; exact h)
end
section
variable (P : Program) (hint : Nat → Bool) (n : Nat) (ops : Array Oper) (Q : Post) (rest : List Oper) (s : Nat → AV) (H : AHeap)
def KPure (d : Option Tmp) (H0 : AHeap) : AV → AHeap → Prop := fun r H' => H' = H0 ∧ awpPure P hint n ops Q rest (aput n s d r) H0
def KNo : Value → AHeap → Prop := fun _ _ => False
theorem KPure_app (d : Option Tmp) (H0 : AHeap) (r : AV) : KPure P hint n ops Q rest s d H0 r H = (H = H0 ∧ awpPure P hint n ops Q rest (aput n s d r) H0) := rfl
theorem awpPure_nil : awpPure P hint n ops Q [] s H = Q .normal s H := rfl
theorem awpPure_none (d : Option Tmp) (op : Op) (ty : TypeId) (p : String) (af : Array Edge) : awpPure P hint n ops Q (⟨d, op, ty, p, af, none⟩ :: rest) s H = astep P hint s H ⟨d, op, ty, p, af, none⟩ (KPure P hint n ops Q rest s d H) KNo := rfl
theorem awpPure_guard (d : Option Tmp) (op : Op) (ty : TypeId) (p : String) (af : Array Edge) (j : Nat) (b : Bool) :
    awpPure P hint n ops Q (⟨d, op, ty, p, af, some (j, b)⟩ :: rest) s H = ob (ayield ops s n j b) fun b' => aite b' (astep P hint s H ⟨d, op, ty, p, af, some (j, b)⟩ (KPure P hint n ops Q rest s d H) KNo) (H = H ∧ awpPure P hint n ops Q rest (aput n s d (.tup [])) H) := by
  simp only [awpPure, awpOp, nf_id]
  cases ayield ops s n j b with
  | none => rfl
  | some b' => cases b' <;> rfl
def KPureK (m : Nat) (d : Option Tmp) (H0 : AHeap) : AV → AHeap → Prop := fun r H' => H' = H0 ∧ awpPureK P hint n ops Q m rest (aput n s d r) H0
theorem KPureK_app (m : Nat) (d : Option Tmp) (H0 : AHeap) (r : AV) : KPureK P hint n ops Q rest s m d H0 r H = (H = H0 ∧ awpPureK P hint n ops Q m rest (aput n s d r) H0) := rfl
theorem awpPureK_zero (l : List Oper) : awpPureK P hint n ops Q 0 l s H = awpList P hint n ops Q l s H := by cases l <;> rfl
theorem awpPureK_none (m : Nat) (d : Option Tmp) (op : Op) (ty : TypeId) (p : String) (af : Array Edge) : awpPureK P hint n ops Q (m + 1) (⟨d, op, ty, p, af, none⟩ :: rest) s H = astep P hint s H ⟨d, op, ty, p, af, none⟩ (KPureK P hint n ops Q rest s m d H) KNo := rfl
theorem awpPureK_mk (m : Nat) (l : List Oper) : awpPureK P hint n ops Q m l.toArray.toList s H = awpPureK P hint n ops Q m l s H := rfl
theorem awpPure_mk (l : List Oper) : awpPure P hint n ops Q l.toArray.toList s H = awpPure P hint n ops Q l s H := rfl
end
@[congr] theorem cg_pure {P : Program} {hint : Nat → Bool} {n : Nat} {ops : Array Oper} {Q : Post} {l : List Oper} {s : Nat → AV} {H H' : AHeap} (h : nf H = H') : awpPure P hint n ops Q l s H = awpPure P hint n ops Q l s H' := by rw [← h]; rfl
@[congr] theorem cg_KPure {P : Program} {hint : Nat → Bool} {n : Nat} {ops : Array Oper} {Q : Post} {rest : List Oper} {s : Nat → AV} {d : Option Tmp} {H0 H H' : AHeap} {r r' : AV} (g : nf r = r') (h : nf H = H') : KPure P hint n ops Q rest s d H0 r H = KPure P hint n ops Q rest s d H0 r' H' := by rw [← g, ← h]; rfl
@[congr] theorem cg_pureK {P : Program} {hint : Nat → Bool} {n : Nat} {ops : Array Oper} {Q : Post} {m : Nat} {l : List Oper} {s : Nat → AV} {H H' : AHeap} (h : nf H = H') : awpPureK P hint n ops Q m l s H = awpPureK P hint n ops Q m l s H' := by rw [← h]; rfl
@[congr] theorem cg_KPureK {P : Program} {hint : Nat → Bool} {n : Nat} {ops : Array Oper} {Q : Post} {rest : List Oper} {s : Nat → AV} {m : Nat} {d : Option Tmp} {H0 H H' : AHeap} {r r' : AV} (g : nf r = r') (h : nf H = H') : KPureK P hint n ops Q rest s m d H0 r H = KPureK P hint n ops Q rest s m d H0 r' H' := by rw [← g, ← h]; rfl
attribute [go_sem] KPureK_app awpPureK_zero awpPureK_none awpPureK_mk
attribute [go_sem] KPure_app awpPure_nil awpPure_none awpPure_guard awpPure_mk
end Go.Proofs.YtmbagpfmfiegkaaGreatAw
namespace Go.Proofs.YtmbagpfmfiegkaaGreat
open Go.Proofs.YtmbagpfmfiegkaaGreatAw Go.RowKit
set_option linter.unusedVariables false
abbrev iD (n : Int) : D := .v (.int .i64 n)
abbrev iA (n : Int) : AV := .d (.v (.int .i64 n))
abbrev bA (b : Bool) : AV := .d (.v (.bool b))
abbrev uA (n : Int) : AV := .d (.v (.int .u64 n))
abbrev sA (b : ByteArray) : AV := .d (.v (.string b))
theorem strTs : strT Tryz.prog 9 = true := by kernel_rfl
attribute [go_sem] strTs
end Go.Proofs.YtmbagpfmfiegkaaGreat
namespace Go.Proofs.YtmbagpfmfiegkaaGreatAw
def fproj (f : Field) : Bool × TypeId × Nat := (f.name != "_", f.type, f.offset)
def eqP (d : Nat) (xs ys : Array Value) : List (Bool × TypeId × Nat) → Sem Bool
  | [] => pure true
  | (true, t, off) :: fs => do
      let a ← part t xs off
      let b ← part t ys off
      let r ← Op.equalIn d t a b
      if (!r) = true then pure false else eqP d xs ys fs
  | (false, _, _) :: fs => eqP d xs ys fs
theorem eqP_eq (d : Nat) (xs ys : Array Value) : ∀ fs : List Field, Op.eqFields d xs ys fs = eqP d xs ys (fs.map fproj)
  | [] => rfl
  | f :: fs => by
    simp only [Op.eqFields, List.map_cons, fproj]
    rw [eqP_eq d xs ys fs]
    by_cases h : f.name = "_"
    · simp [h, eqP]
    · have hb : (f.name != "_") = true := by simp [h]
      rw [hb, if_pos h]; rfl
theorem PureBin.eqS {P : Program} {t : TypeId} {xs ys : Array Value} {fs : List (Bool × TypeId × Nat)} {r : Bool} (h1 : P.eqGuardType P.depth t = false) (h2 : P.underlying t = some (.struct (P.fieldsOf t))) (h3 : P.stoodInHeld t = false)
    (h4 : (P.fieldsOf t).toList.map fproj = fs) (h5 : ∀ w, (eqP 9999 xs ys fs).run P w = .ok r w) : PureBin P .eql t (.agg xs) (.agg ys) (.bool r) ∧ PureBin P .neq t (.agg xs) (.agg ys) (.bool !r) := by
  refine ⟨fun x y w => ?_, fun x y w => ?_⟩
  · rw [Sem.run_bind, run_eqGuard_agg _ _ _ _ _ _ _ h1]
    simp only [Result.andThen_ok, run_eql_struct]
    rw [run_equalIn_struct w 9999 t _ _ h2 h3, eqP_eq, h4, h5]
    rfl
  · rw [Sem.run_bind, run_eqGuard_agg _ _ _ _ _ _ _ h1]
    simp only [Result.andThen_ok, run_neq_struct]
    rw [run_equalIn_struct w 9999 t _ _ h2 h3, eqP_eq, h4, h5]
    rfl
theorem PureBin.inj {P : Program} {op : BinOp} {t : TypeId} {u v r r' : Value} (h : PureBin P op t u v r) (h' : PureBin P op t u v r') : r = r' := by
  have h1 := h (.const .nilIface) (.const .nilIface) default
  rw [h' (.const .nilIface) (.const .nilIface) default] at h1
  cases h1; rfl
theorem binK_agg {P : Program} {op : BinOp} {t : TypeId} {xs ys : Array Value} {r : Value} (h : PureBin P op t (.agg xs) (.agg ys) r) (K : Value → Prop) : binK P op t (.agg xs) (.agg ys) K = K r := by
  have : binK P op t (.agg xs) (.agg ys) K = ∃ r, PureBin P op t (.agg xs) (.agg ys) r ∧ K r := by unfold binK; rfl
  rw [this]
  exact propext ⟨fun ⟨r', h', k⟩ => by rw [h.inj h']; exact k, fun k => ⟨r, h, k⟩⟩
section
variable {P : Program} {w : World} {d : Nat} {t : TypeId} {off : Nat} {xs ys : Array Value} {fs : List (Bool × TypeId × Nat)} {r : Bool}
theorem part_one (hg : agB P t = some false) {v : Value} (h : xs[off]? = some v) : (part t xs off).run P w = .ok v w := by
  unfold part
  rw [Sem.run_bind, agB.run hg]
  simp [h]
theorem eqP_step {a b : Value} {q : Bool} (ha : (part t xs off).run P w = .ok a w) (hb : (part t ys off).run P w = .ok b w) (he : (Op.equalIn d t a b).run P w = .ok q w) (hr : (eqP d xs ys fs).run P w = .ok r w) : (eqP d xs ys ((true, t, off) :: fs)).run P w = .ok (q && r) w := by
  simp only [eqP, Sem.run_bind, ha, hb, he, Result.andThen_ok]
  cases q
  · simp
  · simpa using hr
theorem eqP_nil : (eqP d xs ys []).run P w = .ok true w := rfl
theorem eqP_int {k : IntKind} {a b : Int} (hu : UK P t = some k) (hg : agB P t = some false) (ha : xs[off]? = some (.int k a)) (hb : ys[off]? = some (.int k b)) (hr : (eqP (d + 1) xs ys fs).run P w = .ok r w) : (eqP (d + 1) xs ys ((true, t, off) :: fs)).run P w = .ok ((a == b) && r) w :=
  eqP_step (part_one hg ha) (part_one hg hb) (run_equalIn_int w d t k k a b (UK.get hu)) hr
theorem eqP_str {a b : ByteArray} (hu : P.underlying t = some .string) (hg : agB P t = some false) (ha : xs[off]? = some (.string a)) (hb : ys[off]? = some (.string b)) (hr : (eqP (d + 1) xs ys fs).run P w = .ok r w) : (eqP (d + 1) xs ys ((true, t, off) :: fs)).run P w = .ok ((a.toList == b.toList) && r) w :=
  eqP_step (part_one hg ha) (part_one hg hb) (run_equalIn_string w d t a b hu) hr
end
end Go.Proofs.YtmbagpfmfiegkaaGreatAw
namespace Go.Proofs.YtmbagpfmfiegkaaGreat
open Go.Proofs.YtmbagpfmfiegkaaGreatAw Go.RowKit
set_option linter.unusedVariables false
def sameV (k i : Int) (s : ByteArray) (k' i' : Int) (s' : ByteArray) : Bool := (k == k') && ((i == i') && ((s.toList == s'.toList) && true))
theorem eqP_val (w : World) (d : Nat) (k i : Int) (s : ByteArray) (k' i' : Int) (s' : ByteArray) : (eqP (d + 1) #[.int .i64 k, .int .i64 i, .string s] #[.int .i64 k', .int .i64 i', .string s'] [(true, 3, 0), (true, 2, 1), (true, 9, 2)]).run Tryz.prog w = .ok (sameV k i s k' i' s') w :=
  eqP_int K.UK3 K.agB3 rfl rfl (eqP_int K.UK2 K.agB2 rfl rfl (eqP_str K.US9 K.agB9 rfl rfl eqP_nil))
theorem pb_val (k i : Int) (s : ByteArray) (k' i' : Int) (s' : ByteArray) : PureBin Tryz.prog .eql 25 (.agg #[.int .i64 k, .int .i64 i, .string s]) (.agg #[.int .i64 k', .int .i64 i', .string s']) (.bool (sameV k i s k' i' s')) ∧
    PureBin Tryz.prog .neq 25 (.agg #[.int .i64 k, .int .i64 i, .string s]) (.agg #[.int .i64 k', .int .i64 i', .string s']) (.bool !(sameV k i s k' i' s')) :=
  PureBin.eqS (by kernel_rfl) (by kernel_rfl) (by kernel_rfl) (by kernel_rfl) fun w => eqP_val w 9998 k i s k' i' s'
theorem bk_eql_val (k i : Int) (s : ByteArray) (k' i' : Int) (s' : ByteArray) (K : Value → Prop) : binK Tryz.prog .eql 25 (.agg #[.int .i64 k, .int .i64 i, .string s]) (.agg #[.int .i64 k', .int .i64 i', .string s']) K = K (.bool (sameV k i s k' i' s')) := binK_agg (pb_val ..).1 K
attribute [go_sem] bk_eql_val
end Go.Proofs.YtmbagpfmfiegkaaGreat
namespace Go.Proofs.YtmbagpfmfiegkaaGreat
open Go.Proofs.YtmbagpfmfiegkaaGreatAw Go.RowKit
set_option linter.unusedVariables false
structure Val where
  kind : Int
  i : Int
  s : ByteArray
deriving DecidableEq
structure Atom where
  col : Int
  op : Int
  val : Val
deriving DecidableEq
def Val.enc (v : Val) : List D := [.v (.int .i64 v.kind), .v (.int .i64 v.i), .v (.string v.s)]
def Atom.enc (a : Atom) : List D := [.v (.int .i64 a.col), .v (.int .i64 a.op), .v (.int .i64 a.val.kind), .v (.int .i64 a.val.i), .v (.string a.val.s)]
theorem toList_inj {a b : ByteArray} (h : a.toList = b.toList) : a = b := by
  rw [ByteArray.toList_eq, ByteArray.toList_eq] at h
  obtain ⟨⟨x⟩⟩ := a
  obtain ⟨⟨y⟩⟩ := b
  simp_all
theorem sameV_eq (v w : Val) : sameV v.kind v.i v.s w.kind w.i w.s = decide (v = w) := by
  cases v with | mk k i s =>
  cases w with | mk k' i' s' =>
  rw [Bool.eq_iff_iff]
  simp only [sameV, Bool.and_true, Bool.and_eq_true, beq_iff_eq, decide_eq_true_eq, Val.mk.injEq]
  exact ⟨fun ⟨a, b, c⟩ => ⟨a, b, toList_inj c⟩, fun ⟨a, b, c⟩ => ⟨a, b, by rw [c]⟩⟩
end Go.Proofs.YtmbagpfmfiegkaaGreat
namespace Go.Proofs.YtmbagpfmfiegkaaGreat
open Go.Proofs.YtmbagpfmfiegkaaGreatAw Go.RowKit
set_option linter.unusedVariables false
set_option linter.unusedSimpArgs false
abbrev du (n : Nat) : AV := .d (.v (.int .u64 n))
theorem RAs.closed {H : AHeap} {φ : Phi} {N : Addr → Prop} {w : World} {vals : Array Value} (vs : List Value) (h : RAs H φ N w (vs.map fun v => .d (.v v)) vals) : vals = vs.toArray := by
  obtain ⟨hl, hh⟩ := h
  simp only [List.length_map] at hl
  apply Array.ext
  · simpa using hl.symm
  · intro i h1 h2
    have := hh i (by simpa using h2) h1
    simp only [List.getElem_map] at this
    simpa using this.closed
end Go.Proofs.YtmbagpfmfiegkaaGreat
namespace Go.Proofs.YtmbagpfmfiegkaaGreat
open Go.Proofs.YtmbagpfmfiegkaaGreatAw Go.RowKit
set_option linter.unusedVariables false
set_option linter.unusedSimpArgs false
/-- Which of two is ahead. -/
def ordI (less more : Bool) : Int := if less then -1 else if more then 1 else 0
def cmpI (a b : Int) : Int := ordI (decide (a < b)) (decide (b < a))
def lessS (a b : ByteArray) : Bool := Op.bytesLess a.toList b.toList
def cmpS (a b : ByteArray) : Int := ordI (lessS a b) (!(lessS a b || a.toList == b.toList))
def nanN (b : Nat) : Bool := decide (9218868437227405312 < b % 9223372036854775808)
def cleanN (b : Nat) : Nat := if nanN b then 9221120237041090560 else b
def keyN (b : Nat) : Nat := if 9223372036854775808 ≤ cleanN b then 18446744073709551615 - cleanN b else cleanN b + 9223372036854775808
def toU (n : Int) : Nat := (n % 18446744073709551616).toNat
def cmpF (a b : Nat) : Int := ordI (decide (keyN a < keyN b)) (decide (keyN b < keyN a))
def cmpV (a b : Val) : Int := if a.kind ≠ b.kind then cmpI a.kind b.kind else if a.kind = 1 then cmpI a.i b.i else if a.kind = 2 then cmpF (toU a.i) (toU b.i) else if a.kind = 3 then cmpS a.s b.s else 0
theorem toU_lt (n : Int) : toU n < 18446744073709551616 := by unfold toU; omega
theorem wrap_toU (n : Int) : IntKind.u64.wrap n = ((toU n : Nat) : Int) := by
  unfold toU
  rw [Int.toNat_of_nonneg (Int.emod_nonneg _ (by omega))]
  simp [IntKind.wrap, IntKind.signed, IntKind.bits]
theorem cleanN_lt (b : Nat) (h : b < 18446744073709551616) : cleanN b < 18446744073709551616 := by unfold cleanN; split <;> omega
theorem keyN_lt (b : Nat) (h : b < 18446744073709551616) : keyN b < 18446744073709551616 := by
  have := cleanN_lt b h
  unfold keyN; split <;> omega

set_option maxRecDepth 10000 in
theorem isNaN_int_does (a : Int) (H : AHeap) : Does Tryz.prog 144 [iA a] H (.ok (bA false)) H := by
  refine Does.of_awp (hint := (fun _ => false)) Tryz.func144 (by kernel_rfl) rfl [2] (by kernel_rfl) (by decide) (by simp [Tryz.ntmps144]) ?_
  rw [Tryz.ntmps144]
  simp (implicitDefEqProofs := false) only [↓reduceIte, go_sem, Nat.reduceLT, Nat.reduceEqDiff, reduceCtorEq, eq_self]
  refine AEnd.ret0 ?_
  simp (implicitDefEqProofs := false) only [↓reduceIte, go_sem, Nat.reduceLT, eq_self]
set_option maxRecDepth 10000 in
theorem isNaN_int64_does (a : Int) (H : AHeap) : Does Tryz.prog 145 [iA a] H (.ok (bA false)) H := by
  refine Does.of_awp (hint := (fun _ => false)) Tryz.func145 (by kernel_rfl) rfl [2] (by kernel_rfl) (by decide) (by simp [Tryz.ntmps145]) ?_
  rw [Tryz.ntmps145]
  simp (implicitDefEqProofs := false) only [↓reduceIte, go_sem, Nat.reduceLT, Nat.reduceEqDiff, reduceCtorEq, eq_self]
  refine AEnd.ret0 ?_
  simp (implicitDefEqProofs := false) only [↓reduceIte, go_sem, Nat.reduceLT, eq_self]
set_option maxRecDepth 10000 in
theorem isNaN_string_does (a : ByteArray) (H : AHeap) : Does Tryz.prog 146 [sA a] H (.ok (bA false)) H := by
  refine Does.of_awp (hint := (fun _ => false)) Tryz.func146 (by kernel_rfl) rfl [2] (by kernel_rfl) (by decide) (by simp [Tryz.ntmps146]) ?_
  rw [Tryz.ntmps146]
  simp (implicitDefEqProofs := false) only [↓reduceIte, go_sem, Nat.reduceLT, Nat.reduceEqDiff, reduceCtorEq, eq_self]
  refine AEnd.ret0 ?_
  simp (implicitDefEqProofs := false) only [↓reduceIte, go_sem, Nat.reduceLT, eq_self]
set_option maxRecDepth 10000 in
theorem cmp_int_does (a b : Int) (H : AHeap) : Does Tryz.prog 104 [iA a, iA b] H (.ok (iA (cmpI a b))) H := by
  refine Does.of_awp (hint := (fun _ => false)) Tryz.func104 (by kernel_rfl) rfl [4] (by kernel_rfl) (by decide) (by simp [Tryz.ntmps104]) ?_
  rw [Tryz.ntmps104]
  simp (implicitDefEqProofs := false) only [↓reduceIte, go_sem, Nat.reduceLT, Int.reduceNeg, reduceCtorEq, eq_self]
  refine KCall.ok (isNaN_int_does a H) ?_
  simp (implicitDefEqProofs := false) only [↓reduceIte, go_sem, Nat.reduceLT, Nat.reduceEqDiff, Int.reduceNeg, eq_self]
  refine KCall.ok (isNaN_int_does b H) ?_
  simp (implicitDefEqProofs := false) only [↓reduceIte, go_sem, Nat.reduceLT, Nat.reduceEqDiff, Int.reduceNeg, reduceCtorEq, eq_self]
  by_cases h : a < b
  · refine awp_T (by simp (implicitDefEqProofs := false) only [go_sem, eq_self, h]) ?_
    simp (implicitDefEqProofs := false) only [go_sem, Int.reduceNeg]
    refine AEnd.ret0 ?_
    simp (implicitDefEqProofs := false) only [↓reduceIte, go_sem, Nat.reduceLT, Int.reduceNeg, eq_self, cmpI, ordI, h]
  · refine awp_F (by simp (implicitDefEqProofs := false) only [go_sem, eq_self, h]) ?_
    simp (implicitDefEqProofs := false) only [↓reduceIte, go_sem, Nat.reduceLT, Nat.reduceEqDiff, reduceCtorEq, eq_self]
    by_cases h2 : b < a
    · refine awp_T (by simp (implicitDefEqProofs := false) only [go_sem, eq_self, h2]) ?_
      simp (implicitDefEqProofs := false) only [go_sem]
      refine AEnd.ret0 ?_
      simp (implicitDefEqProofs := false) only [↓reduceIte, go_sem, Nat.reduceLT, reduceCtorEq, eq_self, cmpI, ordI, h, h2]
    · refine awp_F (by simp (implicitDefEqProofs := false) only [go_sem, eq_self, h2]) ?_
      simp (implicitDefEqProofs := false) only [go_sem]
      refine AEnd.ret0 ?_
      simp (implicitDefEqProofs := false) only [↓reduceIte, go_sem, Nat.reduceLT, reduceCtorEq, eq_self, cmpI, ordI, h, h2]
set_option maxRecDepth 10000 in
theorem cmp_int64_does (a b : Int) (H : AHeap) : Does Tryz.prog 105 [iA a, iA b] H (.ok (iA (cmpI a b))) H := by
  refine Does.of_awp (hint := (fun _ => false)) Tryz.func105 (by kernel_rfl) rfl [4] (by kernel_rfl) (by decide) (by simp [Tryz.ntmps105]) ?_
  rw [Tryz.ntmps105]
  simp (implicitDefEqProofs := false) only [↓reduceIte, go_sem, Nat.reduceLT, Int.reduceNeg, reduceCtorEq, eq_self]
  refine KCall.ok (isNaN_int64_does a H) ?_
  simp (implicitDefEqProofs := false) only [↓reduceIte, go_sem, Nat.reduceLT, Nat.reduceEqDiff, Int.reduceNeg, eq_self]
  refine KCall.ok (isNaN_int64_does b H) ?_
  simp (implicitDefEqProofs := false) only [↓reduceIte, go_sem, Nat.reduceLT, Nat.reduceEqDiff, Int.reduceNeg, reduceCtorEq, eq_self]
  by_cases h : a < b
  · refine awp_T (by simp (implicitDefEqProofs := false) only [go_sem, eq_self, h]) ?_
    simp (implicitDefEqProofs := false) only [go_sem, Int.reduceNeg]
    refine AEnd.ret0 ?_
    simp (implicitDefEqProofs := false) only [↓reduceIte, go_sem, Nat.reduceLT, Int.reduceNeg, eq_self, cmpI, ordI, h]
  · refine awp_F (by simp (implicitDefEqProofs := false) only [go_sem, eq_self, h]) ?_
    simp (implicitDefEqProofs := false) only [↓reduceIte, go_sem, Nat.reduceLT, Nat.reduceEqDiff, reduceCtorEq, eq_self]
    by_cases h2 : b < a
    · refine awp_T (by simp (implicitDefEqProofs := false) only [go_sem, eq_self, h2]) ?_
      simp (implicitDefEqProofs := false) only [go_sem]
      refine AEnd.ret0 ?_
      simp (implicitDefEqProofs := false) only [↓reduceIte, go_sem, Nat.reduceLT, reduceCtorEq, eq_self, cmpI, ordI, h, h2]
    · refine awp_F (by simp (implicitDefEqProofs := false) only [go_sem, eq_self, h2]) ?_
      simp (implicitDefEqProofs := false) only [go_sem]
      refine AEnd.ret0 ?_
      simp (implicitDefEqProofs := false) only [↓reduceIte, go_sem, Nat.reduceLT, reduceCtorEq, eq_self, cmpI, ordI, h, h2]
set_option maxRecDepth 10000 in
theorem cmp_string_does (a b : ByteArray) (H : AHeap) : Does Tryz.prog 107 [sA a, sA b] H (.ok (iA (cmpS a b))) H := by
  refine Does.of_awp (hint := (fun _ => false)) Tryz.func107 (by kernel_rfl) rfl [4] (by kernel_rfl) (by decide) (by simp [Tryz.ntmps107]) ?_
  rw [Tryz.ntmps107]
  simp (implicitDefEqProofs := false) only [↓reduceIte, go_sem, Nat.reduceLT, Int.reduceNeg, reduceCtorEq, eq_self]
  refine KCall.ok (isNaN_string_does a H) ?_
  simp (implicitDefEqProofs := false) only [↓reduceIte, go_sem, Nat.reduceLT, Nat.reduceEqDiff, Int.reduceNeg, eq_self]
  refine KCall.ok (isNaN_string_does b H) ?_
  simp (implicitDefEqProofs := false) only [↓reduceIte, go_sem, Nat.reduceLT, Nat.reduceEqDiff, Int.reduceNeg, reduceCtorEq, eq_self]
  cases h : Op.bytesLess a.toList b.toList with
  | true =>
    refine awp_T (by simp (implicitDefEqProofs := false) only [go_sem, eq_self]) ?_
    simp (implicitDefEqProofs := false) only [go_sem, Int.reduceNeg]
    refine AEnd.ret0 ?_
    simp (implicitDefEqProofs := false) only [↓reduceIte, go_sem, Nat.reduceLT, Int.reduceNeg, eq_self, cmpS, ordI, lessS, h]
  | false =>
    refine awp_F (by simp (implicitDefEqProofs := false) only [go_sem, eq_self]) ?_
    simp (implicitDefEqProofs := false) only [↓reduceIte, go_sem, Nat.reduceLT, Nat.reduceEqDiff, reduceCtorEq, eq_self, h]
    cases h2 : (a.toList == b.toList) with
    | false =>
      refine awp_T (by simp (implicitDefEqProofs := false) only [go_sem, eq_self]) ?_
      simp (implicitDefEqProofs := false) only [go_sem]
      refine AEnd.ret0 ?_
      simp (implicitDefEqProofs := false) only [↓reduceIte, go_sem, Nat.reduceLT, reduceCtorEq, eq_self, cmpS, ordI, lessS, h, h2]
    | true =>
      refine awp_F (by simp (implicitDefEqProofs := false) only [go_sem, eq_self]) ?_
      simp (implicitDefEqProofs := false) only [go_sem]
      refine AEnd.ret0 ?_
      simp (implicitDefEqProofs := false) only [↓reduceIte, go_sem, Nat.reduceLT, reduceCtorEq, eq_self, cmpS, ordI, lessS, h, h2]
theorem order_self (b : Nat) (hb : b < 18446744073709551616) : (FloatKind.f64.format.order b b != some .eq) = nanN b := by
  have key : ∀ d : Ieee.Datum, (d.order d != some .eq) = d.isNaN := by
    intro d
    cases d with
    | nan s f => rfl
    | infinity s => simp [Ieee.Datum.order, Ieee.Datum.isNaN]
    | number s m i => simp [Ieee.Datum.order, Ieee.Datum.isNaN]
  have h1 : (FloatKind.f64.format.order b b != some .eq) = (FloatKind.f64.format.read b).isNaN := key _
  rw [h1]
  have hs : FloatKind.f64.format.signWeight = 9223372036854775808 := by decide
  have hb' : FloatKind.f64.format.binade = 4503599627370496 := by decide
  have hi : FloatKind.f64.format.infRung = 9218868437227405312 := by decide
  unfold Ieee.Format.read nanN
  rw [hs, hb', hi]
  generalize b % 9223372036854775808 = r
  by_cases h1 : r < 4503599627370496
  · simp only [h1, if_true, Ieee.Datum.isNaN]; simp; omega
  · by_cases h2 : r < 9218868437227405312
    · simp only [h1, h2, if_true, if_false, Ieee.Datum.isNaN]; simp; omega
    · by_cases h3 : r = 9218868437227405312
      · subst h3; simp [Ieee.Datum.isNaN]
      · simp only [h1, h2, h3, if_false, Ieee.Datum.isNaN]; simp; omega
def frombitsEntry : Array Value → Sem Value := Extern.MathFloatBits.float64frombits
theorem frombits_does (n : Nat) (H : AHeap) : Does Tryz.prog 143 [du n] H (.ok (.d (.v (.float .f64 n)))) H := by
  intro φ N w vals hR hA
  have hv := RAs.closed [.int .u64 (n : Int)] hA
  subst hv
  refine .inr ⟨.float .f64 n, w, ?_, φ, N, hR, Since.refl, .d (.v _ rfl)⟩
  rw [run_callFunc_extern (e := frombitsEntry) Tryz.func143 (by kernel_rfl) (by kernel_rfl) (by kernel_rfl) (by kernel_rfl)]
  rfl
set_option maxRecDepth 10000 in
theorem fclean_does (b : Nat) (hb : b < 18446744073709551616) (H : AHeap) : Does Tryz.prog 102 [du b] H (.ok (du (cleanN b))) H := by
  refine Does.of_awp (hint := (fun _ => false)) Tryz.func102 (by kernel_rfl) rfl [2] (by kernel_rfl) (by decide) (by simp [Tryz.ntmps102]) ?_
  rw [Tryz.ntmps102]
  simp (implicitDefEqProofs := false) only [↓reduceIte, go_sem, Nat.reduceLT, reduceCtorEq, eq_self]
  refine KCall.ok (frombits_does b H) ?_
  simp (implicitDefEqProofs := false) only [↓reduceIte, go_sem, Nat.reduceLT, Nat.reduceEqDiff, eq_self, order_self b hb]
  cases h : nanN b with
  | true =>
    refine awp_T (by simp (implicitDefEqProofs := false) only [go_sem, eq_self]) ?_
    simp (implicitDefEqProofs := false) only [go_sem]
    refine AEnd.ret0 ?_
    simp (implicitDefEqProofs := false) only [↓reduceIte, go_sem, Nat.reduceLT, eq_self, cleanN, h, du]
  | false =>
    refine awp_F (by simp (implicitDefEqProofs := false) only [go_sem, eq_self]) ?_
    simp (implicitDefEqProofs := false) only [↓reduceIte, go_sem, Nat.reduceLT, reduceCtorEq, eq_self]
    refine AEnd.ret0 ?_
    simp (implicitDefEqProofs := false) only [↓reduceIte, go_sem, Nat.reduceLT, eq_self, cleanN, h, Bool.false_eq_true]
theorem orTop (c : Nat) (h : c < 9223372036854775808) : IntKind.u64.wrap (orI .u64 (c : Int) 9223372036854775808) = ((c + 9223372036854775808 : Nat) : Int) := by
  have e := bits_or_u64_nat c 9223372036854775808 (by omega) (by omega)
  have : c ||| 9223372036854775808 = c + 9223372036854775808 := by
    have := Nat.two_pow_add_eq_or_of_lt (i := 63) (b := c) (by omega) 1
    rw [Nat.or_comm]
    simpa [Nat.add_comm] using this.symm
  rw [this] at e
  exact e
theorem notU (c : Nat) (h : c < 18446744073709551616) : IntKind.u64.wrap (notI .u64 (c : Int)) = ((18446744073709551615 - c : Nat) : Int) := by
  have e := bits_xor_u64_nat 18446744073709551615 c (by omega) h
  have : 18446744073709551615 ^^^ c = 18446744073709551615 - c := by
    rw [Nat.xor_comm]
    have := Nat.testBit_two_pow_sub_succ (x := c) (n := 64) h
    apply Nat.eq_of_testBit_eq
    intro i
    rw [Nat.testBit_xor]
    have h2 := this i
    rw [show 2 ^ 64 - (c + 1) = 18446744073709551615 - c from by omega] at h2
    rw [h2]
    have h3 : (18446744073709551615 : Nat).testBit i = decide (i < 64) := by
      have := Nat.testBit_two_pow_sub_one 64 i
      simpa using this
    rw [h3]
    by_cases hi : i < 64
    · simp [hi]
    · have h5 : 2 ^ 64 ≤ 2 ^ i := Nat.pow_le_pow_right (by omega) (by omega)
      have : c.testBit i = false := Nat.testBit_lt_two_pow (by omega)
      simp [hi, this]
  rw [this] at e
  exact e
set_option maxRecDepth 10000 in
theorem fkey_does (b : Nat) (hb : b < 18446744073709551616) (H : AHeap) : Does Tryz.prog 65 [du b] H (.ok (du (keyN b))) H := by
  have hc := cleanN_lt b hb
  have k1 := fclean_does b hb H
  unfold keyN
  generalize cleanN b = c at hc k1 ⊢
  refine Does.of_awp (hint := (fun _ => false)) Tryz.func65 (by kernel_rfl) rfl [2] (by kernel_rfl) (by decide) (by simp [Tryz.ntmps65]) ?_
  rw [Tryz.ntmps65]
  simp (implicitDefEqProofs := false) only [↓reduceIte, go_sem, Nat.reduceLT, reduceCtorEq, eq_self]
  refine KCall.ok k1 ?_
  simp (implicitDefEqProofs := false) only [↓reduceIte, go_sem, Nat.reduceLT, eq_self]
  by_cases h : 9223372036854775808 ≤ c
  · simp (implicitDefEqProofs := false) only [↓reduceIte, go_sem, Nat.reduceLT, reduceCtorEq, eq_self, show (9223372036854775808 : Int) ≤ c from by omega, notU c hc]
    refine AEnd.ret0 ?_
    simp (implicitDefEqProofs := false) only [↓reduceIte, go_sem, Nat.reduceLT, eq_self, h, du]
  · simp (implicitDefEqProofs := false) only [↓reduceIte, go_sem, Nat.reduceLT, reduceCtorEq, eq_self, show ¬ (9223372036854775808 : Int) ≤ c from by omega, orTop c (by omega)]
    refine AEnd.ret0 ?_
    simp (implicitDefEqProofs := false) only [↓reduceIte, go_sem, Nat.reduceLT, eq_self, h, du]
set_option maxRecDepth 10000 in
theorem fcmp_does (a b : Nat) (ha : a < 18446744073709551616) (hb : b < 18446744073709551616) (H : AHeap) : Does Tryz.prog 106 [du a, du b] H (.ok (iA (cmpF a b))) H := by
  have k1 := fkey_does a ha H
  have k2 := fkey_does b hb H
  unfold cmpF
  generalize keyN a = x at k1 ⊢
  generalize keyN b = y at k2 ⊢
  refine Does.of_awp (hint := (fun _ => false)) Tryz.func106 (by kernel_rfl) rfl [4] (by kernel_rfl) (by decide) (by simp [Tryz.ntmps106]) ?_
  rw [Tryz.ntmps106]
  simp (implicitDefEqProofs := false) only [↓reduceIte, go_sem, Nat.reduceLT, Int.reduceNeg, reduceCtorEq, eq_self]
  refine KCall.ok k1 ?_
  simp (implicitDefEqProofs := false) only [↓reduceIte, go_sem, Nat.reduceLT, Nat.reduceEqDiff, eq_self]
  refine KCall.ok k2 ?_
  simp (implicitDefEqProofs := false) only [↓reduceIte, go_sem, Nat.reduceLT, Nat.reduceEqDiff, Int.reduceNeg, eq_self]
  by_cases h : x < y
  · refine awp_T (by simp (implicitDefEqProofs := false) only [go_sem, eq_self, h]) ?_
    simp (implicitDefEqProofs := false) only [go_sem, Int.reduceNeg]
    refine AEnd.ret0 ?_
    simp (implicitDefEqProofs := false) only [↓reduceIte, go_sem, Nat.reduceLT, Int.reduceNeg, eq_self, ordI, h]
  · refine awp_F (by simp (implicitDefEqProofs := false) only [go_sem, eq_self, h]) ?_
    simp (implicitDefEqProofs := false) only [↓reduceIte, go_sem, Nat.reduceLT, Nat.reduceEqDiff, eq_self]
    by_cases h2 : y < x
    · refine awp_T (by simp (implicitDefEqProofs := false) only [go_sem, eq_self, h2]) ?_
      simp (implicitDefEqProofs := false) only [go_sem]
      refine AEnd.ret0 ?_
      simp (implicitDefEqProofs := false) only [↓reduceIte, go_sem, Nat.reduceLT, reduceCtorEq, eq_self, ordI, h, h2]
    · refine awp_F (by simp (implicitDefEqProofs := false) only [go_sem, eq_self, h2]) ?_
      simp (implicitDefEqProofs := false) only [go_sem]
      refine AEnd.ret0 ?_
      simp (implicitDefEqProofs := false) only [↓reduceIte, go_sem, Nat.reduceLT, reduceCtorEq, eq_self, ordI, h, h2]
/-- A value as an argument. -/
abbrev Val.av (v : Val) : AV := .agg [iA v.kind, iA v.i, sA v.s]
set_option maxRecDepth 10000 in
set_option maxHeartbeats 1000000 in
theorem vcmp_does (a b : Val) (H : AHeap) : Does Tryz.prog 63 [a.av, b.av] H (.ok (iA (cmpV a b))) H := by
  unfold cmpV
  refine Does.of_awp (hint := (fun _ => false)) Tryz.func63 (by kernel_rfl) rfl [4] (by kernel_rfl) (by decide) (by simp [Tryz.ntmps63]) ?_
  rw [Tryz.ntmps63]
  simp (implicitDefEqProofs := false) only [↓reduceIte, go_sem, oread, Nat.reduceAdd, Nat.reduceLT, Nat.reduceLeDiff, Nat.reduceEqDiff, eq_self]
  by_cases h : a.kind = b.kind
  · refine awp_F (by simp (implicitDefEqProofs := false) only [go_sem, eq_self, h]) ?_
    simp (implicitDefEqProofs := false) only [↓reduceIte, go_sem, oread, Nat.reduceAdd, Nat.reduceLT, Nat.reduceLeDiff, Nat.reduceEqDiff, eq_self]
    by_cases h1 : a.kind = 1
    · refine awp_T (by simp (implicitDefEqProofs := false) only [go_sem, eq_self, h1]) ?_
      simp (implicitDefEqProofs := false) only [↓reduceIte, go_sem, oread, Nat.reduceAdd, Nat.reduceLT, Nat.reduceLeDiff, Nat.reduceEqDiff, eq_self]
      refine KCall.ok (cmp_int64_does _ _ _) ?_
      simp (implicitDefEqProofs := false) only [↓reduceIte, go_sem, Nat.reduceLT, eq_self]
      refine AEnd.ret ?_
      simp (implicitDefEqProofs := false) only [↓reduceIte, go_sem, Nat.reduceLT, eq_self, h1, ← h]
    · refine awp_F (by simp (implicitDefEqProofs := false) only [go_sem, eq_self, h1]) ?_
      simp (implicitDefEqProofs := false) only [↓reduceIte, go_sem, Nat.reduceLT, Nat.reduceEqDiff, eq_self]
      by_cases h2 : a.kind = 2
      · refine awp_T (by simp (implicitDefEqProofs := false) only [go_sem, eq_self, h2]) ?_
        simp (implicitDefEqProofs := false) only [↓reduceIte, go_sem, oread, Nat.reduceAdd, Nat.reduceLT, Nat.reduceLeDiff, Nat.reduceEqDiff, eq_self, wrap_toU]
        refine KCall.ok (fcmp_does _ _ (toU_lt _) (toU_lt _) _) ?_
        simp (implicitDefEqProofs := false) only [↓reduceIte, go_sem, Nat.reduceLT, eq_self]
        refine AEnd.ret ?_
        simp (implicitDefEqProofs := false) only [↓reduceIte, go_sem, Nat.reduceLT, Int.reduceEq, eq_self, h2, ← h]
      · refine awp_F (by simp (implicitDefEqProofs := false) only [go_sem, eq_self, h2]) ?_
        simp (implicitDefEqProofs := false) only [↓reduceIte, go_sem, Nat.reduceLT, Nat.reduceEqDiff, eq_self]
        by_cases h3 : a.kind = 3
        · refine awp_T (by simp (implicitDefEqProofs := false) only [go_sem, eq_self, h3]) ?_
          simp (implicitDefEqProofs := false) only [↓reduceIte, go_sem, oread, Nat.reduceAdd, Nat.reduceLT, Nat.reduceEqDiff, eq_self]
          refine KCall.ok (cmp_string_does _ _ _) ?_
          simp (implicitDefEqProofs := false) only [↓reduceIte, go_sem, Nat.reduceLT, eq_self]
          refine AEnd.ret ?_
          simp (implicitDefEqProofs := false) only [↓reduceIte, go_sem, Nat.reduceLT, Int.reduceEq, eq_self, h3, ← h]
        · refine awp_F (by simp (implicitDefEqProofs := false) only [go_sem, eq_self, h3]) ?_
          simp (implicitDefEqProofs := false) only [go_sem]
          refine AEnd.ret ?_
          simp (implicitDefEqProofs := false) only [↓reduceIte, go_sem, Nat.reduceLT, eq_self, h1, h2, h3, ← h]
  · refine awp_T (by simp (implicitDefEqProofs := false) only [go_sem, eq_self, h]) ?_
    simp (implicitDefEqProofs := false) only [↓reduceIte, go_sem, oread, Nat.reduceAdd, Nat.reduceLT, Nat.reduceLeDiff, Nat.reduceEqDiff, eq_self]
    refine KCall.ok (cmp_int_does _ _ _) ?_
    simp (implicitDefEqProofs := false) only [↓reduceIte, go_sem, Nat.reduceLT, eq_self]
    refine AEnd.ret ?_
    simp (implicitDefEqProofs := false) only [↓reduceIte, go_sem, Nat.reduceLT, eq_self, h]
end Go.Proofs.YtmbagpfmfiegkaaGreat
namespace Go.Proofs.YtmbagpfmfiegkaaGreatAw
open Go.RowKit
set_option linter.unusedVariables false
set_option linter.unusedSimpArgs false
def resAV (P : Program) (H : AHeap) (s : Nat → AV) : ResultVar → Option AV
  | .tmp t => some (s t)
  | .cell a t => (agB P t).bind fun b => if b = true then (TI P t).bind fun z => (aread H z.2.1 (s a)).map .agg else as1 (aread H 1 (s a))
def resAll (P : Program) (H : AHeap) (s : Nat → AV) : List ResultVar → Option (List AV)
  | [] => some []
  | r :: rs => (resAV P H s r).bind fun x => (resAll P H s rs).map (x :: ·)
def AEndC (P : Program) (rs : List ResultVar) (H0 : AHeap) (res : ARes) (H' : AHeap) : Post := fun e s H =>
  match e with
  | .normal | .ret => ∃ avs s', resAll P H s rs = some avs ∧ Weak H0 (fun t => avs.getD t .top) H s' H' ∧ res = .ok (ares (List.range avs.length) s')
  | .panic v => ∃ s', Weak H0 s H s' H' ∧ res = .panic v
  | _ => False
section
variable {P : Program} {H : AHeap} {φ : Phi} {N : Addr → Prop} {w : World} {s : Nat → AV} {a : Act}
theorem loadVar_agg (hR : Rel H φ N w) {x : AV} {v : Value} (hx : RA H φ N w x v) {t : TypeId} (hg : agB P t = some true) {z : Value} {k b : Nat} (hi : TI P t = some (z, k, b)) {cs : List AV} (h : aread H k x = some cs) :
    ∃ ad u, v = .pointer (some ad) ∧ (loadVar t ad).run P w = .ok u w ∧ RA H φ N w (.agg cs) u := by
  obtain ⟨hl, ad, hv, hh⟩ := aread_ok hR hx h
  let f : Nat → Value := fun t => if ht : t < cs.length then (hh t ht).choose else undef
  have hf : ∀ t (ht : t < cs.length), w.cell? (ad.add t) = some (f t) ∧ RA H φ N w (cs[t]) (f t) := fun t ht => by
    simp only [f, ht, dif_pos]; exact (hh t ht).choose_spec
  have hrun := run_loadCells (P := P) w ad k f fun j hj => (hf j (by omega)).1
  refine ⟨ad, .agg ((List.range k).map f).toArray, hv, ?_, .agg _ _ (by simp [hl]) fun i h1 h2 => ?_⟩
  · simp only [loadVar, Sem.run_bind, agB.run hg, Result.andThen_ok, if_true, TI.sizeOf hi, hrun, Sem.run_pure]
  · simp only [List.getElem_toArray, List.getElem_map, List.getElem_range]
    exact (hf i h1).2
theorem loadVar_one (hR : Rel H φ N w) {x : AV} {v : Value} (hx : RA H φ N w x v) {t : TypeId} (hg : agB P t = some false) {c : AV} (h : aread H 1 x = some [c]) :
    ∃ ad u, v = .pointer (some ad) ∧ (loadVar t ad).run P w = .ok u w ∧ RA H φ N w c u := by
  obtain ⟨hl, ad, hv, hh⟩ := aread_ok hR hx h
  obtain ⟨u, hu, hr⟩ := hh 0 (by simp)
  have hu' : w.cell? ad = some u := by simpa [Addr.add] using hu
  exact ⟨ad, u, hv, by simp only [loadVar, Sem.run_bind, agB.run hg, Result.andThen_ok, Bool.false_eq_true, if_false, run_load, hu'], hr⟩
theorem resAV_ok (hR : Rel H φ N w) (hT : TRel H φ N w s a) {r : ResultVar} {x : AV} (h : resAV P H s r = some x) :
    ∃ u, (match r with | .tmp t => pure (a.tmps.getD t undef) | .cell b t => do loadVar t (← asAddr (a.tmps.getD b undef)) : Sem Value).run P w = .ok u w ∧ RA H φ N w x u := by
  cases r with
  | tmp t => cases h; exact ⟨_, rfl, hT t⟩
  | cell b t =>
    simp only [resAV] at h
    obtain ⟨g, hg, h⟩ := Option.bind_eq_some_iff.1 h
    cases g with
    | true =>
      rw [if_pos rfl] at h
      obtain ⟨⟨z, k, bb⟩, hz, h⟩ := Option.bind_eq_some_iff.1 h
      obtain ⟨cs, hc, rfl⟩ := Option.map_eq_some_iff.1 h
      obtain ⟨ad, u, hv, hrun, hu⟩ := loadVar_agg hR (hT b) hg hz hc
      exact ⟨u, by simp only [hv, Sem.run_bind, asAddr, Sem.run_pure, Result.andThen_ok, hrun], hu⟩
    | false =>
      rw [if_neg (by simp)] at h
      have hc : aread H 1 (s b) = some [x] := by
        revert h
        cases aread H 1 (s b) with
        | none => intro h; cases h
        | some l => rcases l with _ | ⟨c, _ | ⟨d, l⟩⟩ <;> intro h <;> cases h; rfl
      obtain ⟨ad, u, hv, hrun, hu⟩ := loadVar_one hR (hT b) hg hc
      exact ⟨u, by simp only [hv, Sem.run_bind, asAddr, Sem.run_pure, Result.andThen_ok, hrun], hu⟩
theorem resAll_ok (hR : Rel H φ N w) (hT : TRel H φ N w s a) : ∀ {rs : List ResultVar} {xs : List AV}, resAll P H s rs = some xs →
    ∃ us : List Value, (rs.mapM fun r => (match r with | .tmp t => pure (a.tmps.getD t undef) | .cell b t => do loadVar t (← asAddr (a.tmps.getD b undef)) : Sem Value)).run P w = .ok us w ∧ xs.length = us.length ∧ ∀ i (h1 : i < xs.length) (h2 : i < us.length), RA H φ N w (xs[i]) (us[i])
  | [], xs, h => by cases h; exact ⟨[], rfl, rfl, fun i h1 => by simp at h1⟩
  | r :: rs, xs, h => by
    simp only [resAll] at h
    obtain ⟨x, hx, h⟩ := Option.bind_eq_some_iff.1 h
    obtain ⟨ys, hy, rfl⟩ := Option.map_eq_some_iff.1 h
    obtain ⟨u, hu, ru⟩ := resAV_ok hR hT hx
    obtain ⟨us, hus, hl, rus⟩ := resAll_ok hR hT hy
    refine ⟨u :: us, ?_, by simp [hl], fun i h1 h2 => ?_⟩
    · rw [List.mapM_cons, Sem.run_bind, hu]
      simp only [Result.andThen_ok, Sem.run_bind, hus, Sem.run_pure]
    · cases i with
      | zero => exact ru
      | succ i => simpa using rus i (by simpa using h1) (by simpa using h2)
theorem results_run {fn : Func} {us : List Value} {tmps : Array Value} (h : (fn.results.toList.mapM fun r => (match r with | .tmp t => pure (tmps.getD t undef) | .cell b t => do loadVar t (← asAddr (tmps.getD b undef)) : Sem Value)).run P w = .ok us w) :
    (results fn tmps).run P w = .ok (match us with | [u] => u | l => .tuple l.toArray) w := by
  unfold results
  rw [Sem.run_bind, Array.mapM_eq_mapM_toList, Sem.run_map]
  refine (congrArg (fun r => (Result.andThen r fun a w' => Result.ok (List.toArray a) w').andThen fun vs w' => Sem.run P (pure (if h : vs.size = 1 then vs[0] else .tuple vs)) w') (Eq.trans ?_ h)).trans ?_
  · congr 1
  · simp only [Result.andThen_ok, Sem.run_pure]
    match us with
    | [] => rfl
    | [u] => rfl
    | u :: v :: l => simp
theorem ares_many (l : List Tmp) (h : l.length ≠ 1) (s : Nat → AV) : ares l s = .tup (l.map s) := by
  rcases l with _ | ⟨a, _ | ⟨b, l⟩⟩
  · rfl
  · exact absurd rfl h
  · rfl
/-- The contract of a function out of its body, where results may lie in memory. -/
theorem Does.of_awpC {hint : Nat → Bool} {f : FuncId} {fn : Func} {body : Code} (hf : P.funcs[f]? = some fn) (hn : (fn.name == "runtime.NumGoroutine") = false) (hb : fn.body = some body) (rs : List ResultVar) (hr : fn.results.toList = rs)
    {args : List AV} {H : AHeap} {res : ARes} {H' : AHeap} (ha : args.length ≤ fn.ntmps) (h : awp P hint fn.ntmps H body (AEndC P rs H res H') (ainit args) H) : Does P f args H res H' := by
  intro φ N w vals hR hA
  refine .inl ⟨enter_run hf hn (by rw [hb]; rfl) vals w, calls_of_awp hf hb ha h hR hA ?_⟩
  intro ax s' H1 φ1 N1 tmps w' hI1 hq
  have fin : (∃ avs s'', resAll P H1 s' rs = some avs ∧ Weak H (fun t => avs.getD t .top) H1 s'' H' ∧ res = .ok (ares (List.range avs.length) s'')) → ∃ v, (results fn tmps).run P w' = .ok v w' ∧ ∃ φ' N', Rel H' φ' N' w' ∧ Since H φ N w H' φ' N' w' ∧ REnd H' φ' N' w' res (.returned v) := by
    rintro ⟨avs, s'', hav, hW, rfl⟩
    obtain ⟨us, hus, hl, hru⟩ := resAll_ok hI1.rel hI1.tmps hav
    have hI2 : Inv H φ N w us.length ⟨true, []⟩ (fun t => avs.getD t .top) H1 φ1 N1 { tmps := us.toArray, defers := [] } w' := by
      refine ⟨hI1.rel, fun t => ?_, hI1.since, by simp, DefS.refl⟩
      by_cases ht : t < avs.length
      · have e1 : avs.getD t .top = avs[t] := by simp [List.getD, ht]
        have e2 : (us.toArray : Array Value).getD t undef = us[t]'(by omega) := by
          rw [Array.getD_eq_getD_getElem?]; simp [show t < us.length by omega]
        simp only [e1, e2]
        exact hru t ht (by omega)
      · have e1 : avs.getD t .top = .top := by simp [List.getD, List.getElem?_eq_none (Nat.le_of_not_lt ht)]
        simp only [e1]
        exact .top _
    obtain ⟨φ2, N2, hI3⟩ := hW.ok hR hI2
    refine ⟨_, results_run (by rw [hr]; exact hus), φ2, N2, hI3.rel, hI3.since, ?_⟩
    have at_ : ∀ t, RA H' φ2 N2 w' (s'' t) ((us.toArray : Array Value).getD t undef) := hI3.tmps
    show RA H' φ2 N2 w' (ares (List.range avs.length) s'') _
    match us, hl with
    | [], hl =>
      have : avs = [] := List.eq_nil_of_length_eq_zero hl
      subst this
      exact .tup _ _ rfl fun i h1 => by simp at h1
    | [u], hl =>
      have : avs.length = 1 := hl
      rw [this]
      exact at_ 0
    | u :: v :: l, hl =>
      have e : ares (List.range avs.length) s'' = .tup ((List.range avs.length).map s'') := by
        exact ares_many _ (by simp [hl]) s''
      rw [e]
      refine .tup _ _ (by simp [hl]) fun i h1 h2 => ?_
      have := at_ i
      rw [Array.getD_eq_getD_getElem?] at this
      simp only [List.size_toArray] at h2
      rw [List.getElem?_toArray, List.getElem?_eq_getElem h2] at this
      simpa using this
  cases ax with
  | normal => exact fin hq
  | ret => exact fin hq
  | exit i => exact hq.elim
  | panic v =>
    obtain ⟨s'', hW, rfl⟩ := hq
    obtain ⟨φ2, N2, hI2⟩ := hW.ok hR hI1
    exact ⟨φ2, N2, hI2.rel, hI2.since, rfl⟩
theorem AEndC.ret {rs : List ResultVar} {H T : AHeap} {s : Nat → AV} {r : AV} (h : ob (resAll P (H ++ T) s rs) fun avs => r = ares (List.range avs.length) fun t => frz (H ++ T) H.length (avs.getD t .top)) : AEndC P rs H (.ok r) H .ret s (H ++ T) := by
  cases e : resAll P (H ++ T) s rs with
  | none => rw [e] at h; exact h.elim
  | some avs =>
    rw [e] at h
    exact ⟨avs, _, e, Weak.drop H T _, by rw [show r = _ from h]⟩
end
end Go.Proofs.YtmbagpfmfiegkaaGreatAw
namespace Go.Proofs.YtmbagpfmfiegkaaGreatAw
open Go.RowKit
set_option linter.unusedVariables false
set_option linter.unusedSimpArgs false
theorem Rel.freeze {H : AHeap} {φ : Phi} {N : Addr → Prop} {w : World} {id k ver : Nat} {e : TypeId} {es : List (List D)} (hR : Rel H φ N w) (ho : H[id]? = some (.arr e k ver es)) :
    ∃ φ' N', Rel (H.set id (.arr e k (ver + 1) [])) φ' N' w ∧ Since H φ N w (H.set id (.arr e k (ver + 1) [])) φ' N' w ∧
      ∀ off len v, RA H φ N w (.sl id ver off len) v → RA (H.set id (.arr e k (ver + 1) [])) φ' N' w (.d (.list false ((es.drop off).take len))) v := by
  have hid : id < H.length := len_of_get ho
  have hobj := hR.obj id _ ho
  cases hobj with
  | arr _ _ _ _ hk hes hbl =>
  let φ' : Phi := fun j => if j = id then none else φ j
  let N' : Addr → Prop := fun a => N a ∨ ∃ B c, φ id = some (B, c) ∧ a.block = B ∧ a.spot = none ∧ a.off < es.length * k
  have hφ : ∀ j, j ≠ id → φ' j = φ j := fun j hj => if_neg hj
  have hφi : φ' id = none := if_pos rfl
  have hS : Since H φ N w (H.set id (.arr e k (ver + 1) [])) φ' N' w := by
    refine ⟨by simp, rfl, rfl, rfl, Nat.le_refl _, fun _ _ _ => rfl, fun j B c hj hp _ => ?_, fun _ h => .inl h, fun j o hj => ?_, fun a h => ?_⟩
    · by_cases hji : j = id
      · subst hji; rw [hφi] at hp; cases hp
      · rw [hφ j hji] at hp
        exact ⟨j, c, by simpa using hj, hp⟩
    · by_cases hji : j = id
      · subst hji
        rw [ho] at hj; cases hj
        refine ⟨.arr e k (ver + 1) [], by simp [hid], rfl, Nat.le_succ _, fun h => ?_, fun kk es' h => by cases h⟩
        simp only [AObj.ver] at h
        omega
      · refine ⟨o, by rw [List.getElem?_set_ne (Ne.symm hji)]; exact hj, rfl, Nat.le_refl _, fun _ => ⟨hφ j hji, Nat.le_refl _⟩, fun kk es' h => ⟨hφ j hji, es', h⟩⟩
    · rcases h with h | ⟨B, c, hp, h, _⟩
      · exact .inl h
      · exact .inr (.inr ⟨id, c, hid, by rw [h]; exact hp⟩)
  refine ⟨φ', N', ⟨fun j o hj => ?_, fun i j B c c' hi hj hpi hpj => ?_, fun a ha => ?_, fun a j B c ha hj hp => ?_⟩, hS, fun off len v hv => ?_⟩
  · by_cases hji : j = id
    · subst hji
      simp [hid] at hj
      subst hj
      exact .arr e k (ver + 1) [] hk (fun c hc => by simp at hc) (.inl ⟨hφi, rfl⟩)
    · rw [List.getElem?_set_ne (Ne.symm hji)] at hj
      exact (hR.obj j o hj).keep hR hS (hφ j hji) fun _ _ _ => rfl
  · have hi' : i ≠ id := fun h => by subst h; rw [hφi] at hpi; cases hpi
    have hj' : j ≠ id := fun h => by subst h; rw [hφi] at hpj; cases hpj
    rw [hφ i hi'] at hpi
    rw [hφ j hj'] at hpj
    exact hR.inj i j B c c' (by simpa using hi) (by simpa using hj) hpi hpj
  · rcases ha with ha | ⟨B, c, hB, h1, h2, h3⟩
    · exact hR.live a ha
    · rcases hbl with ⟨g0, _⟩ | ⟨B', cap, cur, g1, g2, g3, g4, g5, g6⟩
      · rw [g0] at hB; cases hB
      · rw [g1] at hB; cases hB
        have hlt : a.off < cur.size := by have := Nat.mul_le_mul_right k g3; omega
        refine ⟨cur[a.off], ?_⟩
        simp [World.cell?, h1, g2, h2, hlt]
  · have hj' : j ≠ id := fun h => by subst h; rw [hφi] at hp; cases hp
    rw [hφ j hj'] at hp
    have hj2 : j < H.length := by simpa using hj
    rcases ha with ha | ⟨B0, c0, hB, h1, _⟩
    · exact hR.apart a j B c ha hj2 hp
    · intro hab
      have : B0 = B := h1.symm.trans hab
      subst this
      exact hj' (hR.inj j id B0 c c0 hj2 hid hp hB)
  · cases hv with
    | sl _ _ _ _ A l m' o ho' hv' hp =>
    rw [ho] at ho'; cases ho'
    obtain ⟨rfl, h1, h2⟩ := hp rfl
    simp only [AObj.len] at h1
    by_cases hl0 : l = 0
    · subst hl0
      simp only [List.take_zero]
      exact .d (.nil _ _ (by rcases h2 with ⟨_, _, _, rfl⟩ | ⟨B, c, _, _, rfl, _⟩; exact fun _ => rfl; exact fun h => by cases h))
    rcases h2 with ⟨_, h3, _⟩ | ⟨B, c, h3, h4, rfl, rfl⟩
    · omega
    rcases hbl with ⟨g0, _⟩ | ⟨B', cap, cur, g1, g2, g3, g4, g5, g6⟩
    · rw [g0] at h3; cases h3
    have hφ3 := h3
    obtain ⟨e1, e2⟩ := Prod.mk.inj (Option.some.inj (g1.symm.trans h3))
    subst e1 e2
    have hel : ((es.drop off).take l).length = l := by simp; omega
    have key := RD.list (N := N') (w := w) false ((es.drop off).take l) ⟨B', off * k, none⟩ (cap - off) k (fun i j => cur.getD ((off + i) * k + j) undef) (by rw [hel]; omega)
      (fun e he => hes e (List.mem_of_mem_drop (List.mem_of_mem_take he))) (fun i j hi hj => by
        rw [hel] at hi
        have hlt : (off + i) * k + j < es.length * k := place_lt hj (by omega)
        have hlt2 : (off + i) * k + j < cur.size := by have := Nat.mul_le_mul_right k g3; omega
        have hpos : off * k + (i * k + j) = (off + i) * k + j := by rw [Nat.add_mul]; omega
        rw [add_plain, hpos]
        refine ⟨.inr ⟨B', cap, hφ3, rfl, rfl, hlt⟩, ?_⟩
        simp [World.cell?, g2, Array.getD, hlt2]) (fun i hi j hj => by
        rw [hel] at hi
        simp only [List.getElem_take, List.getElem_drop] at hj ⊢
        obtain ⟨u, hu, hd⟩ := g6 (off + i) (by omega) j hj
        have hget : cur.getD ((off + i) * k + j) undef = u := by
          rw [Array.getD_eq_getD_getElem?, hu]; rfl
        simp only [hget]
        exact hd.since hR hS)
    rw [hel] at key
    exact .d key
/-- What is handed on never changes again: its owner has an empty array of a later version. -/
theorem Does.freeze {P : Program} {f : FuncId} (pre : List AV) {post : List AV} {id k ver off len : Nat} {e : TypeId} {es : List (List D)} {H H' : AHeap} {res : ARes} (ho : H[id]? = some (.arr e k ver es))
    (h : Does P f (pre ++ .d (.list false ((es.drop off).take len)) :: post) (H.set id (.arr e k (ver + 1) [])) res H') : Does P f (pre ++ .sl id ver off len :: post) H res H' := by
  intro φ N w vals hR hA
  obtain ⟨φ1, N1, hR1, hS1, hv⟩ := hR.freeze ho
  have hA1 : RAs (H.set id (.arr e k (ver + 1) [])) φ1 N1 w (pre ++ .d (.list false ((es.drop off).take len)) :: post) vals := by
    refine ⟨by rw [← hA.1]; simp, fun i h1 h2 => ?_⟩
    have h3 := hA.2 i (by simpa using h1) h2
    by_cases hi : i = pre.length
    · subst hi
      simp only [List.getElem_append_right (Nat.le_refl _), Nat.sub_self, List.getElem_cons_zero] at h3 ⊢
      exact hv off len _ h3
    · rcases Nat.lt_or_ge i pre.length with hlt | hge
      · rw [List.getElem_append_left hlt] at h3 ⊢
        exact h3.since hR hS1
      · rw [List.getElem_append_right hge] at h3 ⊢
        obtain ⟨j, hj⟩ : ∃ j, i - pre.length = j + 1 := ⟨i - pre.length - 1, by omega⟩
        simp only [hj, List.getElem_cons_succ] at h3 ⊢
        exact h3.since hR hS1
  have h4 := h φ1 N1 w vals hR1 hA1
  have go : ∀ e' w', (∃ φ' N', Rel H' φ' N' w' ∧ Since (H.set id (.arr e k (ver + 1) [])) φ1 N1 w H' φ' N' w' ∧ REnd H' φ' N' w' res e') → ∃ φ' N', Rel H' φ' N' w' ∧ Since H φ N w H' φ' N' w' ∧ REnd H' φ' N' w' res e' := by
    rintro e' w' ⟨φ', N', hR', hS', hE⟩
    exact ⟨φ', N', hR', hS1.trans hS', hE⟩
  rcases h4 with ⟨h5, h6⟩ | ⟨v, w', h5, h6⟩
  · exact .inl ⟨h5, h6.mono go⟩
  · exact .inr ⟨v, w', h5, go _ _ h6⟩
theorem KCall.frz {P : Program} {f : FuncId} (pre : List AV) {post : List AV} {id k ver off len : Nat} {e : TypeId} {es : List (List D)} {H H' : AHeap} {K : AV → AHeap → Prop} {KP : Value → AHeap → Prop} {r : AV} (ho : H[id]? = some (.arr e k ver es))
    (h : Does P f (pre ++ .d (.list false ((es.drop off).take len)) :: post) (H.set id (.arr e k (ver + 1) [])) (.ok r) H') (hk : K r H') : KCall P f (pre ++ .sl id ver off len :: post) H K KP := KCall.ok (Does.freeze pre ho h) hk
end Go.Proofs.YtmbagpfmfiegkaaGreatAw
namespace Go.Proofs.YtmbagpfmfiegkaaGreatAw
open Go.RowKit
set_option linter.unusedVariables false
set_option linter.unusedSimpArgs false
/-- The old objects are still there, but for those that are left out ('dead'). -/
def Ext (B H : AHeap) : Prop := ∀ (id : Nat) (o : AObj), B[id]? = some o → o.live = true → H[id]? = some o
theorem Ext.refl (B : AHeap) : Ext B B := fun _ _ h _ => h
theorem Ext.app (B T : AHeap) : Ext B (B ++ T) := fun id o h _ => by rw [List.getElem?_append_left (len_of_get h)]; exact h
/-- Object by object. -/
def ExtL : AHeap → AHeap → Prop
  | [], _ => True
  | o :: os, o' :: os' => (o.live = true → o' = o) ∧ ExtL os os'
  | _ :: _, [] => False
theorem ExtL.get : ∀ {B T : AHeap}, ExtL B T → ∀ (i : Nat) (o : AObj), B[i]? = some o → o.live = true → T[i]? = some o
  | [], _, _, i, o, h, _ => by simp at h
  | b :: B, [], h, i, o, _, _ => h.elim
  | b :: B, t :: T, h, 0, o, ho, hl => by
    simp only [List.getElem?_cons_zero, Option.some.injEq] at ho ⊢
    subst ho
    exact h.1 hl
  | b :: B, t :: T, h, i + 1, o, ho, hl => by
    rw [List.getElem?_cons_succ] at ho ⊢
    exact ExtL.get h.2 i o ho hl
theorem Ext.objs (H : AHeap) {B T : AHeap} (h : ExtL B T) : Ext (H ++ B) (H ++ T) := fun i o ho hl => by
  rcases Nat.lt_or_ge i H.length with hi | hi
  · rw [List.getElem?_append_left hi] at ho ⊢; exact ho
  · rw [List.getElem?_append_right hi] at ho ⊢; exact h.get _ o ho hl
/-- What does not look at the heap at all. -/
def hfree (hint : Bool) : Op → Bool
  | .move _ | .assign _ | .pick .. | .build .. | .field .. | .index .. | .unOp .. | .convert .. | .extract .. | .sliceToArrayPointer .. | .makeInterface .. => true
  | .makeFunc (.func _) _ _ => true
  | .buildSlice .. => !hint
  | .binOp op _ _ _ _ => (match op with | .eql | .neq => false | _ => true)
  | _ => false
theorem hfree_eq {P : Program} {s : Nat → AV} {H H2 : AHeap} {hint : Bool} {op : Op} {K : AV → AHeap → Prop} (h : hfree hint op = true) : aop P s H hint op K = aop P s H2 hint op fun r _ => K r H := by
  by_cases hb : ∃ o t x y t', op = .binOp o t x y t'
  · obtain ⟨o, t, x, y, t', rfl⟩ := hb
    cases o <;> first | (unfold aop; simp only [nilCmp, Bool.false_and, Bool.false_eq_true, false_and]; done) | (cases h; done)
  cases op <;> first | rfl | cases h | (exact absurd ⟨_, _, _, _, _, rfl⟩ hb) | skip
  · cases hint
    · unfold aop
      rfl
    · cases h
  · rename_i f _ _
    cases f <;> first | rfl | cases h
theorem oread_ext {B H : AHeap} (hE : Ext B H) {id ver i j n : Nat} {cs : List AV} (h : oread B id ver i j n = some cs) : oread H id ver i j n = some cs := by
  unfold oread at h ⊢
  cases hb : B[id]? with
  | none => rw [hb] at h; cases h
  | some o =>
    rw [hb] at h
    have hl : o.live = true := by cases o <;> first | rfl | cases h
    rw [hE id o hb hl]; exact h
theorem aread_ext {B H : AHeap} (hE : Ext B H) {n : Nat} {x : AV} {cs : List AV} (h : aread B n x = some cs) : aread H n x = some cs := by
  cases x with
  | ptr id ver i j => exact oread_ext hE h
  | iptr => exact h
  | _ => cases h
def isLoad : Op → Bool
  | .load .. => true
  | .fieldAddr .. => true
  | .slice _ _ _ _ none => true
  | _ => false
theorem aslice_ext {B H : AHeap} (hE : Ext B H) {k : Nat} {lo : Option Int} {hi : Nat → Option Int} {x : AV} {K : AV → AHeap → Prop} {r : AV} (h : aslice B k lo hi (fun r' _ => r' = r) x) (hk : K r H) : aslice H k lo hi K x := by
  cases x with
  | d u =>
    cases u with
    | v _ => exact h.elim
    | list nn es =>
      simp only [aslice] at h ⊢
      refine ⟨h.1, ?_⟩
      replace h := h.2
      cases lo with
      | none => exact h
      | some l =>
        cases hq : hi es.length with
        | none => rw [hq] at h; exact h
        | some m => rw [hq] at h; exact ⟨h.1, h.2.1, h.2.2.1, by rw [h.2.2.2]; exact hk⟩
  | sl id ver off len =>
    simp only [aslice] at h ⊢
    cases ho : B[id]? with
    | none => rw [ho] at h; exact h.elim
    | some o =>
      rw [ho] at h
      cases lo with
      | none => exact h.elim
      | some l =>
        cases hq : hi len with
        | none => rw [hq] at h; exact h.elim
        | some m =>
          rw [hq] at h
          rw [hE id o ho h.1.2.2]
          exact ⟨h.1, h.2.1, h.2.2.1, h.2.2.2.1, h.2.2.2.2.1, by rw [h.2.2.2.2.2]; exact hk⟩
  | _ => exact h.elim
theorem fresh_ext {B H : AHeap} (hE : Ext B H) {x : AV} (h : fresh B x = true) : fresh H x = true := by
  cases x with
  | ptr id ver i j =>
    rw [fresh_ptr] at h ⊢
    cases hb : B[id]? with
    | none => rw [hb] at h; cases h
    | some o =>
      rw [hb] at h
      rw [hE id o hb (by simp only [Bool.and_eq_true] at h; exact h.2)]
      exact h
  | _ => rfl
theorem load_ext {P : Program} {s : Nat → AV} {B H : AHeap} {hint : Bool} {op : Op} (hl : isLoad op = true) (hE : Ext B H) {K : AV → AHeap → Prop} {r : AV}
    (h : aop P s B hint op fun r' _ => r' = r) (hk : K r H) : aop P s H hint op K := by
  by_cases hfa : ∃ t x f, op = .fieldAddr t x f
  · obtain ⟨t, x, f, rfl⟩ := hfa
    unfold aop at h ⊢
    simp only at h ⊢
    cases hf : FO P t f with
    | none => rw [hf] at h; exact h
    | some of =>
      rw [hf] at h
      simp only at h ⊢
      cases hi : TI P of.2 with
      | none => rw [hi] at h; exact h
      | some z =>
        rw [hi] at h
        obtain ⟨h1, h2, h⟩ := h
        refine ⟨h1, fresh_ext hE h2, ?_⟩
        cases ha : amove of.1 (aeval s x) with
        | none => rw [ha] at h; exact h
        | some y => rw [ha] at h; rw [show y = r from h]; exact hk
  cases op <;> first | (exact absurd ⟨_, _, _, rfl⟩ hfa) | cases hl | skip
  rotate_left
  · rename_i t x lo hi mx
    cases mx with
    | some _ => cases hl
    | none =>
    unfold aop at h ⊢
    simp only at h ⊢
    cases he : SE P t with
    | none =>
      rw [he] at h
      simp only at h ⊢
      cases hae : AE P t with
      | some ne =>
        rw [hae] at h
        simp only at h ⊢
        obtain ⟨h1, h⟩ := h
        refine ⟨h1, ?_⟩
        cases hi2 : TI P ne.2 with
        | none => rw [hi2] at h; exact h
        | some z =>
          rw [hi2] at h
          obtain ⟨h2, h⟩ := h
          refine ⟨h2, ?_⟩
          generalize aeval s x = v at *
          cases v with
          | iptr ds => exact ⟨h.1, by rw [show (AV.d (.list true (ds.map fun d => [d]))) = r from h.2]; exact hk⟩
          | _ => exact h.elim
      | none =>
      rw [hae] at h
      obtain ⟨hu, h⟩ := h
      refine ⟨hu, ?_⟩
      split at h
      · rename_i c hc
        split at h
        · rename_i l m hl hm
          first
            | exact ⟨h.1, h.2.1, h.2.2.1, by rw [h.2.2.2]; exact hk⟩
            | (rw [hl, hm]; exact ⟨h.1, h.2.1, h.2.2.1, by rw [h.2.2.2]; exact hk⟩)
        · exact h.elim
      · exact h.elim
    | some e =>
      rw [he] at h
      simp only at h ⊢
      cases hi2 : TI P e with
      | none => rw [hi2] at h; exact h
      | some z =>
        rw [hi2] at h
        obtain ⟨z, k, b⟩ := z
        exact aslice_ext hE h hk
  rename_i t x
  unfold aop at h ⊢
  simp only at h ⊢
  cases hg : agB P t with
  | none => rw [hg] at h; exact h
  | some b =>
    rw [hg] at h
    cases b with
    | true =>
      simp only at h ⊢
      split at h
      · split at h
        · rename_i cs hr
          rw [aread_ext hE hr]
          subst h
          exact hk
        · exact h.elim
      · exact h.elim
    | false =>
      simp only at h ⊢
      split at h
      · rename_i c hr
        rw [aread_ext hE hr]
        subst h
        exact hk
      · exact h.elim
/-- May float: the heap's changes do not concern it. -/
def floats (hint : Nat → Bool) (first : Bool) (o : Oper) : Bool := hfree (match o.dst with | some d => hint d | none => false) o.op || (first && isLoad o.op)
section
variable (P : Program) (hint : Nat → Bool) (n : Nat) (ops : Array Oper)
def StepT (H : AHeap) (s : Nat → AV) (o : Oper) (r : AV) (H' : AHeap) : Prop := match o.guard with
  | none => ∀ K KP, K r H' → astep P hint s H o K KP
  | some (j, want) => ∃ b, ayield ops s n j want = some b ∧ if b = true then ∀ K KP, K r H' → astep P hint s H o K KP else r = .tup [] ∧ H' = H
end
section
variable {P : Program} {hint : Nat → Bool} {n : Nat} {ops : Array Oper} {Q : Post}
theorem StepT.op {H H' : AHeap} {s : Nat → AV} {o : Oper} {r : AV} (h : StepT P hint n ops H s o r H') {K : (Nat → AV) → AHeap → Prop} (hk : K (aput n s o.dst r) H') : awpOp P hint n ops Q o K s H := by
  unfold StepT at h
  unfold awpOp
  split at h
  · rename_i hg
    simp only [hg]
    exact h (fun r H' => K (aput n s o.dst r) H') _ hk
  · rename_i j want hg
    obtain ⟨b, hb, h⟩ := h
    simp only [hg, hb]
    split at h
    · rw [if_pos (by assumption)]; exact h (fun r H' => K (aput n s o.dst r) H') _ hk
    · rw [if_neg (by assumption)]; rw [h.1, h.2] at hk; exact hk
theorem StepT.congr {H H' : AHeap} {s s' : Nat → AV} {o : Oper} {r : AV} (h : StepT P hint n ops H s o r H') (h1 : ∀ t ∈ opTmps o, s t = s' t) (h2 : ∀ j w, o.guard = some (j, w) → ∀ d, dstAt ops j = some d → s d = s' d) : StepT P hint n ops H s' o r H' := by
  unfold StepT at h ⊢
  split at h
  · rename_i hg
    try simp only [hg]
    intro K KP hk
    rw [← astep_congr h1]
    exact h K KP hk
  · rename_i j want hg
    try simp only [hg]
    obtain ⟨b, hb, h⟩ := h
    refine ⟨b, ?_, ?_⟩
    · rw [← hb]
      unfold ayield
      have := h2 j want hg
      unfold dstAt at this
      cases hd : (ops[j]?).bind (·.dst) with
      | none => rfl
      | some d => simp only [this d hd]
    · split at h
      · rw [if_pos (by assumption)]
        intro K KP hk
        rw [← astep_congr h1]
        exact h K KP hk
      · rw [if_neg (by assumption)]; exact h
/-- All orders of a region: what is known of the heap by what has been done. -/
theorem awpAny_rel (hc : PureOk hint ops) (m : Nat) (hm : m ≤ ops.size) (htl : ∀ i o, ops[i]? = some o → (i = m → ∀ j, j < m → reachB ops 12 i j = true) ∧ (m < i → bindsOn o (i - 1) = true)) (s : Nat → AV) (rs : Nat → AV) (HR : (Nat → Bool) → AHeap → Prop)
    (hHR : ∀ L L' H, (∀ i, i < m → L i = L' i) → HR L H → HR L' H)
    (hstep : ∀ (L : Nat → Bool) (H : AHeap) i o, HR L H → i < m → ops[i]? = some o → L i = false → (∀ j oj i', ops[j]? = some oj → L j = true → bindsOn oj i' = true → L i' = true) → (∀ j, bindsOn o j = true → L j = true) →
      ∃ H', StepT P hint n ops H (stAt n ops s rs i) o (rs i) H' ∧ HR (fun j => if j = i then true else L j) H')
    (hQ : ∀ L H, (∀ i, i < m → L i = true) → HR L H → awpList P hint n ops Q (ops.toList.drop m) (stAt n ops s rs m) H) :
    ∀ (fuel : Nat) (listed : Array Bool) (s' : Nat → AV) (H : AHeap), listed.size = ops.size → (List.range ops.size).countP (fun j => !listed.getD j true) ≤ fuel →
      (∀ t j, dstAt ops j = some t → s' t = if listed.getD j false = true then (if t < n then rs j else .top) else s t) → (∀ t, (∀ j, dstAt ops j ≠ some t) → s' t = s t) →
      (∀ j oj i, ops[j]? = some oj → listed.getD j false = true → bindsOn oj i = true → listed.getD i false = true) → (∀ i, m ≤ i → i < ops.size → listed.getD i false = false) →
      HR (fun c => listed.getD c false) H → awpAny P hint n ops Q fuel listed s' H := by
  have st_no : ∀ k t, (∀ j, j < k → dstAt ops j ≠ some t) → stAt n ops s rs k t = s t := by
    intro k t
    induction k with
    | zero => intro _; rfl
    | succ k ih =>
      intro h
      simp only [stAt]
      cases hd : dstAt ops k with
      | none => exact ih fun j hj => h j (by omega)
      | some d =>
        simp only [aput]
        have : t ≠ d := fun e => h k (by omega) (by rw [hd, e])
        rw [if_neg this]
        exact ih fun j hj => h j (by omega)
  have st_dst : ∀ k t j, dstAt ops j = some t → j < k → stAt n ops s rs k t = if t < n then rs j else .top := by
    intro k t j hj
    induction k with
    | zero => intro h; omega
    | succ k ih =>
      intro h
      simp only [stAt]
      by_cases e : j = k
      · subst e
        rw [hj]
        simp only [aput, if_pos]
      · have := ih (by omega)
        cases hd : dstAt ops k with
        | none => exact this
        | some d =>
          simp only [aput]
          have hne : t ≠ d := fun e' => e (hc.once j k t hj (by rw [hd, e']))
          rw [if_neg hne]
          exact this
  have bind_of : ∀ (listed : Array Bool) (o : Oper) (j : Nat), (o.after.all fun e => !Region.binds .any e || listed.getD e.on false) = true → bindsOn o j = true → listed.getD j false = true := by
    intro listed o j h1 h2
    unfold bindsOn at h2
    rw [List.any_eq_true] at h2
    obtain ⟨e, he, h2⟩ := h2
    rw [Array.all_eq_true_iff_forall_mem] at h1
    have := h1 e (Array.mem_toList_iff.1 he)
    simp only [Bool.and_eq_true, beq_iff_eq] at h2
    simpa [h2.1, h2.2] using this
  have fin : ∀ (listed : Array Bool) (s' : Nat → AV), (∀ i, i < m → listed.getD i true = true) → (∀ i, m ≤ i → i < ops.size → listed.getD i false = false) → listed.size = ops.size →
      (∀ t j, dstAt ops j = some t → s' t = if listed.getD j false = true then (if t < n then rs j else .top) else s t) → (∀ t, (∀ j, dstAt ops j ≠ some t) → s' t = s t) → s' = stAt n ops s rs m := by
    intro listed s' hall hno hsz h1 h2
    funext t
    by_cases hd : ∃ j, dstAt ops j = some t
    · obtain ⟨j, hj⟩ := hd
      have hjl := dstAt_lt hj
      rcases Nat.lt_or_ge j m with hjm | hjm
      · have : listed.getD j false = true := by
          have := hall j hjm
          simpa [Array.getD, show j < listed.size by omega] using this
        rw [h1 t j hj, if_pos this, st_dst _ t j hj hjm]
      · rw [h1 t j hj, if_neg (by simp [hno j hjm hjl]), st_no m t fun j' hj' hd' => by
          have := hc.once j' j t hd' hj
          omega]
    · have hd' : ∀ j, dstAt ops j ≠ some t := fun j hj => hd ⟨j, hj⟩
      rw [h2 t hd', st_no _ t fun j _ => hd' j]
  intro fuel
  induction fuel with
  | zero =>
    intro listed s' H hsz hcnt h1 h2 hcl hno hq
    have hall : ∀ i, i < ops.size → listed.getD i true = true := by
      intro i hi
      have h0 : (List.range ops.size).countP (fun j => !listed.getD j true) = 0 := by omega
      rw [List.countP_eq_zero] at h0
      simpa using h0 i (List.mem_range.2 hi)
    have hs' := fin listed s' (fun i hi => hall i (by omega)) hno hsz h1 h2
    subst hs'
    have hQ := hQ _ H (fun i hi => by have := hall i (by omega); simpa [Array.getD, show i < listed.size by omega] using this) hq
    exact awpAny_chain hc (fun i o ho hi => (htl i o ho).2 hi) hsz m (Nat.le_refl _) hm (fun i hi => hall i (by omega)) (fun i hi hi2 => hno i hi hi2) hQ (by
      rcases Nat.lt_or_ge m ops.size with h | h
      · have e1 := hall m h
        have e2 := hno m (Nat.le_refl _) h
        simp [Array.getD, show m < listed.size by omega] at e1 e2
        rw [e1] at e2
        cases e2
      · omega)
  | succ fuel ih =>
    intro listed s' H hsz hcnt h1 h2 hcl hno hq
    by_cases hpre : ∀ i, i < m → listed.getD i true = true
    · have hs' := fin listed s' hpre hno hsz h1 h2
      subst hs'
      have hQ := hQ _ H (fun i hi => by have := hpre i hi; simpa [Array.getD, show i < listed.size by omega] using this) hq
      refine awpAny_chain hc (fun i o ho hi => (htl i o ho).2 hi) hsz m (Nat.le_refl _) hm hpre hno hQ ?_
      have hsub : (List.range ops.size).countP (fun j => decide (m ≤ j)) ≤ (List.range ops.size).countP (fun j => !listed.getD j true) := by
        refine List.countP_mono_left fun j hj hmj => ?_
        have hj := List.mem_range.1 hj
        have := hno j (by simpa using hmj) hj
        simp [Array.getD, show j < listed.size by omega] at this ⊢
        exact this
      have hcm : ∀ N, m ≤ N → (List.range N).countP (fun j => decide (m ≤ j)) = N - m := by
        intro N hN
        induction N with
        | zero => simp
        | succ N ihN =>
          rw [List.range_succ, List.countP_append, List.countP_singleton]
          by_cases e : m ≤ N
          · rw [ihN e]; simp [e]; omega
          · have e' : m = N + 1 := by omega
            have : (List.range N).countP (fun j => decide (m ≤ j)) = 0 := by
              rw [List.countP_eq_zero]
              intro j hj
              have := List.mem_range.1 hj
              simp; omega
            rw [this]; simp [e]; omega
      rw [hcm _ hm] at hsub
      omega
    have hex : ∃ i, i < m ∧ listed.getD i true = false ∧ ∀ j, j < i → listed.getD j true = true := by
      have : ∃ i, i < m ∧ listed.getD i true = false := by
        rcases Classical.not_forall.1 hpre with ⟨i, hi⟩
        rcases Classical.not_imp.1 hi with ⟨h1, h2⟩
        exact ⟨i, h1, by simpa using h2⟩
      obtain ⟨i, hi⟩ := this
      induction i using Nat.strongRecOn with
      | _ i ihi =>
        by_cases hj : ∃ j, j < i ∧ listed.getD j true = false
        · obtain ⟨j, hj1, hj2⟩ := hj
          exact ihi j hj1 ⟨by omega, hj2⟩
        · refine ⟨i, hi.1, hi.2, fun j hji => ?_⟩
          cases hq : listed.getD j true with
          | true => rfl
          | false => exact absurd ⟨j, hji, hq⟩ hj
    obtain ⟨i0, hi0, hu0, hb0⟩ := hex
    refine ⟨fun hr => ?_, fun i hi => ?_⟩
    · exfalso
      have hlt0 : i0 < ops.size := by omega
      have hget : ops[i0]? = some ops[i0] := by simp [hlt0]
      have : i0 ∈ Region.ready .any ops listed := by
        unfold Region.ready
        rw [List.mem_filter]
        refine ⟨List.mem_range.2 hlt0, ?_⟩
        simp only [hu0, hget, Bool.not_false, Bool.true_and, Option.map_some, Option.getD_some]
        rw [Array.all_eq_true_iff_forall_mem]
        intro e he
        cases hbe : Region.binds .any e
        · simp
        have hlt := hc.down i0 _ hget e he hbe
        have := hb0 e.on hlt
        have : listed.getD e.on false = true := by simpa [Array.getD, show e.on < listed.size by omega] using this
        simp [this]
      rw [hr] at this
      simp at this
    · unfold Region.ready at hi
      rw [List.mem_filter] at hi
      obtain ⟨hi, hrd⟩ := hi
      have hi := List.mem_range.1 hi
      have hget : ops[i]? = some ops[i] := by simp [hi]
      simp only [hget, Option.map_some, Option.getD_some, Bool.and_eq_true, Bool.not_eq_true'] at hrd
      obtain ⟨hun, haft⟩ := hrd
      simp only [hget]
      have hdst : dstAt ops i = (ops[i]).dst := by simp [dstAt, hget]
      have hun' : listed.getD i false = false := by simpa [Array.getD, show i < listed.size by omega] using hun
      have him : i < m := by
        rcases Nat.lt_or_ge i m with h | h
        · exact h
        · exfalso
          have hu0' : listed.getD i0 false = false := by simpa [Array.getD, show i0 < listed.size by omega] using hu0
          rcases Nat.lt_or_ge m i with h2 | h2
          · have := bind_of listed ops[i] (i - 1) haft ((htl i _ hget).2 h2)
            rw [hno (i - 1) (by omega) (by omega)] at this
            cases this
          · have him : i = m := by omega
            have := reachB_listed hcl 12 i _ hget (fun j hj => bind_of listed ops[i] j haft hj) i0 ((htl i _ hget).1 him i0 hi0)
            rw [this] at hu0'
            cases hu0'
      have agree : ∀ t j, dstAt ops j = some t → bindsOn ops[i] j = true → stAt n ops s rs i t = s' t := by
        intro t j hj hb
        have hl := bind_of listed ops[i] j haft hb
        have hlt : j < i := by
          unfold bindsOn at hb
          rw [List.any_eq_true] at hb
          obtain ⟨e, he, hb⟩ := hb
          simp only [Bool.and_eq_true, beq_iff_eq] at hb
          have := hc.down i _ hget e (Array.mem_toList_iff.1 he) hb.1
          omega
        rw [st_dst i t j hj hlt, h1 t j hj, if_pos hl]
      have hrd : ∀ t ∈ opTmps ops[i], stAt n ops s rs i t = s' t := by
        intro t ht
        by_cases hd : ∃ j, dstAt ops j = some t
        · obtain ⟨j, hj⟩ := hd
          rcases hc.reads i _ hget t ht j hj with hb | ⟨oj, hoj, hb⟩
          · exact agree t j hj hb
          · have hnl : listed.getD j false = false := by
              cases hq : listed.getD j false with
              | false => rfl
              | true => rw [hcl j oj i hoj hq hb] at hun'; cases hun'
            have hlt : i < j := by
              unfold bindsOn at hb
              rw [List.any_eq_true] at hb
              obtain ⟨e, he, hb⟩ := hb
              simp only [Bool.and_eq_true, beq_iff_eq] at hb
              have := hc.down j _ hoj e (Array.mem_toList_iff.1 he) hb.1
              omega
            rw [h1 t j hj, if_neg (by simp [hnl]), st_no i t fun j' hj' hd' => by
              have := hc.once j' j t hd' hj
              omega]
        · have hd' : ∀ j, dstAt ops j ≠ some t := fun j hj => hd ⟨j, hj⟩
          rw [st_no i t fun j _ => hd' j, h2 t hd']
      have hgd : ∀ j w, (ops[i]).guard = some (j, w) → ∀ d, dstAt ops j = some d → stAt n ops s rs i d = s' d := fun j w hg d hd => agree d j hd (hc.guard i _ hget j w hg)
      have hset : ∀ j b, (listed.setIfInBounds i true).getD j b = if j = i then true else listed.getD j b := by
        intro j b
        simp only [Array.getD_eq_getD_getElem?, Array.getElem?_setIfInBounds]
        by_cases e : i = j
        · subst e; simp [hsz, hi]
        · rw [if_neg e, if_neg (Ne.symm e)]
      have go : ∀ H2, HR (fun c => (listed.setIfInBounds i true).getD c false) H2 → awpAny P hint n ops Q fuel (listed.setIfInBounds i true) (aput n s' (ops[i]).dst (rs i)) H2 := by
        intro H2 hq2
        refine ih _ _ _ (by simpa using hsz) ?_ ?_ ?_ ?_ ?_ hq2
        · have := countP_lt (p := fun j => !(listed.setIfInBounds i true).getD j true) (q := fun j => !listed.getD j true) (i := i) (fun j hj => by
            simp only [hset] at hj ⊢
            by_cases e : j = i
            · simp [e] at hj
            · simpa [e] using hj) (by simp [hset]) (by simp [hun]) (List.range ops.size) (List.mem_range.2 hi)
          omega
        · intro t j hj
          rw [hset]
          by_cases e : j = i
          · subst e
            rw [hdst] at hj
            rw [if_pos rfl, if_pos rfl, hj]
            simp only [aput, if_pos]
          · rw [if_neg e]
            cases hd : (ops[i]).dst with
            | none => exact h1 t j hj
            | some d =>
              simp only [aput]
              have : t ≠ d := fun e' => e (hc.once j i t hj (by rw [hdst, hd, e']))
              rw [if_neg this]
              exact h1 t j hj
        · intro t ht
          cases hd : (ops[i]).dst with
          | none => exact h2 t ht
          | some d =>
            simp only [aput]
            have : t ≠ d := fun e' => ht i (by rw [hdst, hd, e'])
            rw [if_neg this]
            exact h2 t ht
        · intro j oj i' hoj hlj hb
          rw [hset] at hlj ⊢
          by_cases e' : i' = i
          · rw [if_pos e']
          · rw [if_neg e']
            by_cases e : j = i
            · subst e
              rw [hget] at hoj
              cases hoj
              exact bind_of listed _ i' haft hb
            · rw [if_neg e] at hlj
              exact hcl j oj i' hoj hlj hb
        · intro j hj hj2
          rw [hset, if_neg (by omega)]
          exact hno j hj hj2
      obtain ⟨H2, hst, hr2⟩ := hstep (fun c => listed.getD c false) H i _ hq him hget hun' hcl (fun j hj => bind_of listed ops[i] j haft hj)
      refine StepT.op (hst.congr hrd hgd) (go _ (hHR _ _ _ (fun j _ => ?_) hr2))
      rw [hset]
theorem awpAny_mix (hc : PureOk hint ops) (m : Nat) (hm : m ≤ ops.size) (htl : ∀ i o, ops[i]? = some o → (i = m → ∀ j, j < m → reachB ops 12 i j = true) ∧ (m < i → bindsOn o (i - 1) = true)) (s : Nat → AV) (rs : Nat → AV) (hp : Nat → AHeap) (ch : Nat → Bool)
    (hch : ∀ c c', c < c' → c' < m → ch c = true → ch c' = true → reachB ops 12 c' c = true) (hfr : ∀ i, i < m → ch i = false → hp (i + 1) = hp i)
    (hst : ∀ i o, i < m → ops[i]? = some o → ch i = true → StepT P hint n ops (hp i) (stAt n ops s rs i) o (rs i) (hp (i + 1)))
    (hsf : ∀ i o, i < m → ops[i]? = some o → ch i = false → ∀ j, j ≤ m → (∀ c, c < j → ch c = true → reachB ops 12 c i = false) → StepT P hint n ops (hp j) (stAt n ops s rs i) o (rs i) (hp j))
    (hQ : awpList P hint n ops Q (ops.toList.drop m) (stAt n ops s rs m) (hp m)) :
    ∀ (fuel : Nat) (listed : Array Bool) (s' : Nat → AV) (H : AHeap), listed.size = ops.size → (List.range ops.size).countP (fun j => !listed.getD j true) ≤ fuel →
      (∀ t j, dstAt ops j = some t → s' t = if listed.getD j false = true then (if t < n then rs j else .top) else s t) → (∀ t, (∀ j, dstAt ops j ≠ some t) → s' t = s t) →
      (∀ j oj i, ops[j]? = some oj → listed.getD j false = true → bindsOn oj i = true → listed.getD i false = true) → (∀ i, m ≤ i → i < ops.size → listed.getD i false = false) →
      (∃ q, q ≤ m ∧ H = hp q ∧ ∀ c, c < m → ch c = true → (listed.getD c false = true ↔ c < q)) → awpAny P hint n ops Q fuel listed s' H := by
  have hsame : ∀ d q, q + d ≤ m → (∀ c, c < m → ch c = true → (c < q ↔ c < q + d)) → hp (q + d) = hp q := by
    intro d
    induction d with
    | zero => intros; rfl
    | succ d ihd =>
      intro q hq hcc
      have h1 : ch (q + d) = false := by
        cases h : ch (q + d) with
        | false => rfl
        | true => have := (hcc (q + d) (by omega) h).2 (by omega); omega
      rw [← Nat.add_assoc, hfr (q + d) (by omega) h1]
      refine ihd q (by omega) fun c hcm hct => ⟨fun h => by omega, fun h => (hcc c hcm hct).2 (by omega)⟩
  have hsame2 : ∀ q i, q ≤ m → i ≤ m → (∀ c, c < m → ch c = true → (c < q ↔ c < i)) → hp q = hp i := by
    intro q i hq hi hcc
    rcases Nat.le_total q i with h | h
    · obtain ⟨d, rfl⟩ := Nat.exists_eq_add_of_le h
      exact (hsame d q hi hcc).symm
    · obtain ⟨d, rfl⟩ := Nat.exists_eq_add_of_le h
      exact hsame d i hq fun c hcm hct => (hcc c hcm hct).symm
  intro fuel listed s' H hsz hcnt h1 h2 hcl hno hq
  refine awpAny_rel hc m hm htl s rs (fun L H => ∃ q, q ≤ m ∧ H = hp q ∧ ∀ c, c < m → ch c = true → (L c = true ↔ c < q)) ?_ ?_ ?_ fuel listed s' H hsz hcnt h1 h2 hcl hno hq
  · rintro L L' H hL ⟨q, hqm, rfl, hql⟩
    exact ⟨q, hqm, rfl, fun c hcm hct => by rw [← hL c hcm]; exact hql c hcm hct⟩
  · rintro L _ i o ⟨q, hqm, rfl, hql⟩ him hget hun' hcl hbi
    have breach : ∀ c o', ops[c]? = some o' → (∀ j, bindsOn o' j = true → L j = true) → ∀ i', reachB ops 12 c i' = true → L i' = true := fun c o' hoc hb i' hr => reachL_listed hcl 12 c o' hoc hb i' hr
    cases hci : ch i with
    | false =>
      have hnr : ∀ c, c < q → ch c = true → reachB ops 12 c i = false := fun c hcq hct => by
        cases hr : reachB ops 12 c i with
        | false => rfl
        | true =>
          exfalso
          have hgc : ops[c]? = some ops[c] := by simp [show c < ops.size by omega]
          have hl := (hql c (by omega) hct).2 hcq
          have := breach c _ hgc (fun j hj => hcl c _ j hgc hl hj) i hr
          rw [hun'] at this
          cases this
      refine ⟨_, hsf i _ him hget hci q hqm hnr, q, hqm, rfl, fun c hcm hct => ?_⟩
      show (if c = i then true else L c) = true ↔ c < q
      rw [if_neg (by intro e; rw [e, hci] at hct; cases hct)]
      exact hql c hcm hct
    | true =>
      have hbef : ∀ c, c < m → ch c = true → (L c = true ↔ c < i) := by
        intro c hcm hct
        refine ⟨fun hl => ?_, fun hlt => ?_⟩
        · rcases Nat.lt_trichotomy c i with h | h | h
          · exact h
          · subst h; rw [hun'] at hl; cases hl
          · exfalso
            have hgc : ops[c]? = some ops[c] := by simp [show c < ops.size by omega]
            have := breach c _ hgc (fun j hj => hcl c _ j hgc hl hj) i (hch i c h hcm hci hct)
            rw [hun'] at this
            cases this
        · exact breach i _ hget hbi c (hch c i hlt him hct hci)
      have hqi : hp q = hp i := hsame2 q i hqm (by omega) fun c hcm hct => (hql c hcm hct).symm.trans (hbef c hcm hct)
      rw [hqi]
      refine ⟨_, hst i _ him hget hci, i + 1, by omega, rfl, fun c hcm hct => ?_⟩
      show (if c = i then true else L c) = true ↔ c < i + 1
      by_cases e : c = i
      · subst e; simp
      · rw [if_neg e]
        refine (hbef c hcm hct).trans ⟨fun h => by omega, fun h => by omega⟩
  · rintro L _ hall ⟨q, hqm, rfl, hql⟩
    rw [hsame2 q m hqm (Nat.le_refl _) fun c hcm hct => ⟨fun _ => hcm, fun _ => (hql c hcm hct).1 (hall c hcm)⟩]
    exact hQ
end
section
variable (P : Program) (hint : Nat → Bool) (n : Nat) (ops : Array Oper)
/-- The region in the order of its text; where a mark says so, an operation may change the heap, but for the old objects. -/
def awpMix (B : AHeap) (Q : Post) : List Bool → List Oper → (Nat → AV) → AHeap → Prop
  | [], l, s, H => awpList P hint n ops Q l s H
  | _ :: _, [], s, H => awpList P hint n ops Q [] s H
  | true :: bs, o :: rest, s, H => awpOp P hint n ops (fun _ _ _ => False) o (fun s' H' => Ext B H' ∧ awpMix B Q bs rest s' H') s H
  | false :: bs, o :: rest, s, H => awpOp P hint n ops (fun _ _ _ => False) o (fun s' H' => H' = H ∧ awpMix B Q bs rest s' H') s H
end
section
variable {P : Program} {hint : Nat → Bool} {n : Nat} {ops : Array Oper} {Q : Post}
theorem step_of {o : Oper} (hdt : detOp hint o.op = true) {s : Nat → AV} {H : AHeap} {K : (Nat → AV) → AHeap → Prop} (h : awpOp P hint n ops (fun _ _ _ => False) o K s H) : ∃ r H', StepT P hint n ops H s o r H' ∧ K (aput n s o.dst r) H' := by
  unfold awpOp at h
  split at h
  · rename_i hg
    obtain ⟨r, H', hr, hdet⟩ := astep_det hdt h
    exact ⟨r, H', by unfold StepT; simp only [hg]; exact fun K KP hk => hdet K KP hk, hr⟩
  · rename_i j want hg
    split at h
    · rename_i b hb
      split at h
      · rename_i hbw
        obtain ⟨r, H', hr, hdet⟩ := astep_det hdt h
        exact ⟨r, H', by unfold StepT; simp only [hg]; exact ⟨b, hb, by rw [if_pos hbw]; exact fun K KP hk => hdet K KP hk⟩, hr⟩
      · rename_i hbw
        exact ⟨.tup [], H, by unfold StepT; simp only [hg]; exact ⟨b, hb, by simp [hbw]⟩, h⟩
    · exact h.elim
theorem awpMix_steps {B : AHeap} (hdt : ∀ (i : Nat) (o : Oper), ops[i]? = some o → detOp hint o.op = true) (s0 : Nat → AV) : ∀ (bs : List Bool) (k : Nat) (rs0 : Nat → AV) (hp0 : Nat → AHeap), k + bs.length ≤ ops.size → awpMix P hint n ops B Q bs (ops.toList.drop k) (stAt n ops s0 rs0 k) (hp0 k) →
    ∃ (rs : Nat → AV) (hp : Nat → AHeap), (∀ i, i < k → rs i = rs0 i) ∧ (∀ i, i ≤ k → hp i = hp0 i) ∧
      (∀ i o, k ≤ i → i < k + bs.length → ops[i]? = some o → (bs[i - k]? = some true → StepT P hint n ops (hp i) (stAt n ops s0 rs i) o (rs i) (hp (i + 1)) ∧ Ext B (hp (i + 1))) ∧
        (bs[i - k]? = some false → StepT P hint n ops (hp i) (stAt n ops s0 rs i) o (rs i) (hp i) ∧ hp (i + 1) = hp i)) ∧
      awpList P hint n ops Q (ops.toList.drop (k + bs.length)) (stAt n ops s0 rs (k + bs.length)) (hp (k + bs.length))
  | [], k, rs0, hp0, hk, h => ⟨rs0, hp0, fun _ _ => rfl, fun _ _ => rfl, fun i o h1 h2 => by simp at h2; omega, by
      have h : awpList P hint n ops Q (ops.toList.drop k) (stAt n ops s0 rs0 k) (hp0 k) := by
        cases hd : ops.toList.drop k <;> (rw [hd] at h; exact h)
      exact h⟩
  | b :: bs, k, rs0, hp0, hk, h => by
    simp only [List.length_cons] at hk
    have hlt : k < ops.size := by omega
    have hget : ops[k]? = some ops[k] := by simp [hlt]
    have hd : ops.toList.drop k = ops[k] :: ops.toList.drop (k + 1) := by
      rw [List.drop_eq_getElem_cons (by simpa using hlt)]; simp
    rw [hd] at h
    have hdst : dstAt ops k = (ops[k]).dst := by simp [dstAt, hget]
    have step : ∃ r H', StepT P hint n ops (hp0 k) (stAt n ops s0 rs0 k) ops[k] r H' ∧ (b = true → Ext B H') ∧ (b = false → H' = hp0 k) ∧ awpMix P hint n ops B Q bs (ops.toList.drop (k + 1)) (aput n (stAt n ops s0 rs0 k) (ops[k]).dst r) H' := by
      cases b with
      | true =>
        obtain ⟨r, H', h1, h2, h3⟩ := step_of (hdt k _ hget) h
        exact ⟨r, H', h1, fun _ => h2, fun e => (by cases e), h3⟩
      | false =>
        obtain ⟨r, H', h1, rfl, h3⟩ := step_of (hdt k _ hget) h
        exact ⟨r, _, h1, fun e => (by cases e), fun _ => rfl, h3⟩
    obtain ⟨r, H', h1, h2, h3, h4⟩ := step
    let rs1 : Nat → AV := fun i => if i = k then r else rs0 i
    let hp1 : Nat → AHeap := fun i => if i = k + 1 then H' else hp0 i
    have e1 : rs1 k = r := if_pos rfl
    have e2 : hp1 (k + 1) = H' := if_pos rfl
    have hst : ∀ (rs : Nat → AV) i, i ≤ k → (∀ j, j < i → rs j = rs0 j) → stAt n ops s0 rs i = stAt n ops s0 rs0 i := by
      intro rs i
      induction i with
      | zero => intros; rfl
      | succ i ih =>
        intro hi hr
        simp only [stAt, ih (by omega) fun j hj => hr j (by omega), hr i (by omega)]
    have h5 : awpMix P hint n ops B Q bs (ops.toList.drop (k + 1)) (stAt n ops s0 rs1 (k + 1)) (hp1 (k + 1)) := by
      rw [e2]
      simp only [stAt, e1, hdst]
      rw [hst rs1 k (Nat.le_refl _) fun j hj => if_neg (by omega)]
      exact h4
    obtain ⟨rs, hp, g1, g2, g3, g4⟩ := awpMix_steps hdt s0 bs (k + 1) rs1 hp1 (by omega) h5
    have f1 : ∀ i, i < k → rs i = rs0 i := fun i hi => by rw [g1 i (by omega)]; exact if_neg (by omega)
    have f2 : ∀ i, i ≤ k → hp i = hp0 i := fun i hi => by rw [g2 i (by omega)]; exact if_neg (by omega)
    have f3 : rs k = r := by rw [g1 k (by omega)]; exact e1
    have f4 : hp (k + 1) = H' := by rw [g2 (k + 1) (by omega)]; exact e2
    refine ⟨rs, hp, f1, f2, fun i o hi hi2 ho => ?_, by rw [List.length_cons, show k + (bs.length + 1) = k + 1 + bs.length from by omega]; exact g4⟩
    rcases Nat.lt_or_ge k i with hki | hki
    · have := g3 i o hki (by simp only [List.length_cons] at hi2; omega) ho
      rw [show i - k = (i - (k + 1)) + 1 from by omega, List.getElem?_cons_succ]
      exact this
    · obtain rfl : i = k := by omega
      rw [hget] at ho
      cases ho
      rw [Nat.sub_self, List.getElem?_cons_zero, f2 i (Nat.le_refl _), f3, f4, hst rs i (Nat.le_refl _) fun j hj => f1 j hj]
      refine ⟨fun e => ?_, fun e => ?_⟩
      · exact ⟨h1, h2 (Option.some.inj e)⟩
      · have := h3 (Option.some.inj e)
        subst this
        exact ⟨h1, rfl⟩
theorem astep_aop {o : Oper} {s : Nat → AV} {H : AHeap} {K : AV → AHeap → Prop} {KP : Value → AHeap → Prop} (h1 : ∀ x, o.op ≠ .panic x) (h2 : ∀ c, o.op ≠ .call c) : astep P hint s H o K KP = aop P s H (match o.dst with | some d => hint d | none => false) o.op K := by
  unfold astep
  split
  · rename_i x hx; exact absurd hx (h1 x)
  · rename_i c hx; exact absurd hx (h2 c)
  · rfl
theorem floats_step {o : Oper} {s : Nat → AV} {B H H2 : AHeap} {r : AV} {first : Bool} (hf : floats hint first o = true) (hE : first = true → Ext H H2) (h : ∀ K KP, K r H → astep P hint s H o K KP) : ∀ K KP, K r H2 → astep P hint s H2 o K KP := by
  intro K KP hk
  have h0 := h (fun r' _ => r' = r) (fun _ _ => False) rfl
  unfold floats at hf
  rw [Bool.or_eq_true] at hf
  rcases hf with hf | hf
  · have n1 : ∀ x, o.op ≠ .panic x := fun x e => by rw [e] at hf; cases hf
    have n2 : ∀ c, o.op ≠ .call c := fun x e => by rw [e] at hf; cases hf
    rw [astep_aop n1 n2] at h0 ⊢
    rw [hfree_eq (H := H2) (H2 := H) hf]
    exact aop_mono (fun r' _ e => by rw [e]; exact hk) h0
  · rw [Bool.and_eq_true] at hf
    have n1 : ∀ x, o.op ≠ .panic x := fun x e => by rw [e] at hf; cases hf.2
    have n2 : ∀ c, o.op ≠ .call c := fun x e => by rw [e] at hf; cases hf.2
    rw [astep_aop n1 n2] at h0 ⊢
    exact load_ext hf.2 (hE hf.1) h0 hk
theorem floats_stepT {o : Oper} {s : Nat → AV} {H H2 : AHeap} {r : AV} {first : Bool} (hf : floats hint first o = true) (hE : first = true → Ext H H2) (h : StepT P hint n ops H s o r H) : StepT P hint n ops H2 s o r H2 := by
  unfold StepT at h ⊢
  split at h
  · rename_i hg
    try simp only [hg]
    exact floats_step (B := H) hf hE h
  · rename_i j want hg
    try simp only []
    obtain ⟨b, hb, h⟩ := h
    refine ⟨b, hb, ?_⟩
    split at h
    · rw [if_pos (by assumption)]; exact floats_step (B := H) hf hE h
    · rw [if_neg (by assumption)]; simp [h.1]
end
def mixCheck (hint : Nat → Bool) (ops : Array Oper) (bs : List Bool) : Bool := (List.range bs.length).all fun i => match bs[i]?, ops[i]? with
  | some false, some o => floats hint ((bs.take i).all (!·)) o
  | some true, some _ => (List.range i).all fun c => bs[c]? == some false || reachB ops 12 i c
  | _, _ => false
section
variable {P : Program} {hint : Nat → Bool} {n : Nat} {ops : Array Oper} {Q : Post}
/-- A drawn region some of whose marked operations, all bound one behind the other, change the heap. -/
theorem awp_drawM (bs : List Bool) {H0 H : AHeap} {id : Nat} {s : Nat → AV} (hm : P.follows .mixedOrders = true) (hc : pureCheck hint ops = true) (ht : tailCheck ops bs.length = true) (hx : mixCheck hint ops bs = true)
    (h : awpMix P hint n ops H Q bs ops.toList s H) : awp P hint n H0 (.region id ops true) Q s H := by
  obtain ⟨hms, htl⟩ := tailCheck_ok ht
  refine ⟨hm, ?_⟩
  obtain ⟨rs, hp, _, g2, g3, g4⟩ := awpMix_steps (pureCheck_ok hc).det s bs 0 (fun _ => .top) (fun _ => H) (by omega) h
  have g20 : hp 0 = H := g2 0 (Nat.le_refl _)
  simp only [Nat.zero_add, Nat.sub_zero, Nat.zero_le, true_implies] at g3 g4
  unfold mixCheck at hx
  rw [List.all_eq_true] at hx
  have hget : ∀ i, i < bs.length → ∃ o, ops[i]? = some o := fun i hi => ⟨ops[i]'(by omega), by simp [show i < ops.size by omega]⟩
  have hbs : ∀ i (hi : i < bs.length), bs[i]? = some bs[i] := fun i hi => List.getElem?_eq_getElem hi
  have hext : ∀ j, j ≤ bs.length → Ext H (hp j) := by
    intro j
    induction j with
    | zero => intro _; rw [g20]; exact Ext.refl H
    | succ j ihj =>
      intro hj
      obtain ⟨o, ho⟩ := hget j (by omega)
      have g := g3 j o (by omega) ho
      have hb := hbs j (by omega)
      cases hbj : bs[j]'(by omega) with
      | true => rw [hbj] at hb; exact (g.1 hb).2
      | false => rw [hbj] at hb; rw [(g.2 hb).2]; exact ihj (by omega)
  let ch : Nat → Bool := fun i => bs[i]?.getD false
  have chT : ∀ i, i < bs.length → ch i = true → bs[i]? = some true := fun i hi h => by
    have h : bs[i]?.getD false = true := h
    rw [hbs i hi] at h ⊢
    simpa using h
  have chF : ∀ i, i < bs.length → ch i = false → bs[i]? = some false := fun i hi h => by
    have h : bs[i]?.getD false = false := h
    rw [hbs i hi] at h ⊢
    simpa using h
  have hbase : ∀ i, i ≤ bs.length → (∀ c, c < i → ch c = false) → hp i = H := by
    intro i
    induction i with
    | zero => intros; exact g20
    | succ i ihi =>
      intro hi hcf
      obtain ⟨o, ho⟩ := hget i (by omega)
      rw [((g3 i o (by omega) ho).2 (chF i (by omega) (hcf i (by omega)))).2]
      exact ihi (by omega) fun c hc => hcf c (by omega)
  refine awpAny_mix (pureCheck_ok hc) bs.length hms htl s rs hp ch ?_ ?_ ?_ ?_ g4 ops.size (Array.replicate ops.size false) s H (by simp) ?_ ?_ ?_ ?_ ?_ ⟨0, Nat.zero_le _, g20.symm, fun c hcm hct => ?_⟩
  · intro c c' h1 h2 h3 h4
    have := hx c' (List.mem_range.2 h2)
    obtain ⟨o, ho⟩ := hget c' h2
    rw [chT c' h2 h4, ho] at this
    simp only [List.all_eq_true] at this
    have := this c (List.mem_range.2 h1)
    rw [chT c (by omega) h3] at this
    simpa using this
  · intro i hi hci
    obtain ⟨o, ho⟩ := hget i hi
    exact ((g3 i o hi ho).2 (chF i hi hci)).2
  · intro i o hi ho hci
    exact ((g3 i o hi ho).1 (chT i hi hci)).1
  · intro i o hi ho hci j hj _
    have hfl := hx i (List.mem_range.2 hi)
    rw [chF i hi hci, ho] at hfl
    refine floats_stepT hfl (fun hfirst => ?_) ((g3 i o hi ho).2 (chF i hi hci)).1
    rw [hbase i (by omega) fun c hc => ?_]
    · exact hext j hj
    · rw [List.all_eq_true] at hfirst
      have := hfirst (bs[c]'(by omega)) (by
        rw [List.mem_iff_getElem]
        exact ⟨c, by simp; omega, by simp⟩)
      show bs[c]?.getD false = false
      rw [hbs c (by omega)]
      simpa using this
  · exact Nat.le_trans List.countP_le_length (by simp)
  · intro t j hj
    have hjl := dstAt_lt hj
    rw [if_neg (by simp [Array.getD, hjl])]
  · intro t _; rfl
  · intro j oj i hoj hl
    have hjl := (Array.getElem?_eq_some_iff.1 hoj).1
    simp [Array.getD, hjl] at hl
  · intro i hi hi2
    simp [Array.getD, hi2]
  · have : c < ops.size := by omega
    simp [Array.getD, this]
end
def mixCheckN (hint : Nat → Bool) (ops : Array Oper) (bs : List Bool) (c0 : Nat) : Bool := bs[c0]? == some true && (List.range bs.length).all fun i => match bs[i]?, ops[i]? with
  | some false, some o => floats hint false o || (decide (i < c0) && reachB ops 12 c0 i)
  | some true, some _ => decide (c0 ≤ i) && (List.range i).all fun c => bs[c]? == some false || reachB ops 12 i c
  | _, _ => false
theorem Ext.nil (H : AHeap) : Ext [] H = True := eq_true fun id o h _ => by simp at h
section
variable {P : Program} {hint : Nat → Bool} {n : Nat} {ops : Array Oper} {Q : Post}
/-- A drawn region whose marked operations, all bound one behind the other, change the heap in any way: what reads it is bound ahead of the first of them. -/
theorem awp_drawN (bs : List Bool) (c0 : Nat) {H0 H : AHeap} {id : Nat} {s : Nat → AV} (hm : P.follows .mixedOrders = true) (hc : pureCheck hint ops = true) (ht : tailCheck ops bs.length = true) (hx : mixCheckN hint ops bs c0 = true)
    (h : awpMix P hint n ops [] Q bs ops.toList s H) : awp P hint n H0 (.region id ops true) Q s H := by
  obtain ⟨hms, htl⟩ := tailCheck_ok ht
  refine ⟨hm, ?_⟩
  obtain ⟨rs, hp, _, g2, g3, g4⟩ := awpMix_steps (pureCheck_ok hc).det s bs 0 (fun _ => .top) (fun _ => H) (by omega) h
  have g20 : hp 0 = H := g2 0 (Nat.le_refl _)
  simp only [Nat.zero_add, Nat.sub_zero, Nat.zero_le, true_implies] at g3 g4
  unfold mixCheckN at hx
  rw [Bool.and_eq_true, List.all_eq_true] at hx
  obtain ⟨hx0, hx⟩ := hx
  have hx0 : bs[c0]? = some true := by simpa using hx0
  have hget : ∀ i, i < bs.length → ∃ o, ops[i]? = some o := fun i hi => ⟨ops[i]'(by omega), by simp [show i < ops.size by omega]⟩
  have hbs : ∀ i (hi : i < bs.length), bs[i]? = some bs[i] := fun i hi => List.getElem?_eq_getElem hi
  let ch : Nat → Bool := fun i => bs[i]?.getD false
  have chT : ∀ i, i < bs.length → ch i = true → bs[i]? = some true := fun i hi h => by
    have h : bs[i]?.getD false = true := h
    rw [hbs i hi] at h ⊢
    simpa using h
  have chF : ∀ i, i < bs.length → ch i = false → bs[i]? = some false := fun i hi h => by
    have h : bs[i]?.getD false = false := h
    rw [hbs i hi] at h ⊢
    simpa using h
  have hc0 : ch c0 = true := by show bs[c0]?.getD false = true; rw [hx0]; rfl
  have hfirst : ∀ i, i < bs.length → i < c0 → ch i = false := by
    intro i hi hlt
    cases hci : ch i with
    | false => rfl
    | true =>
      exfalso
      obtain ⟨o, ho⟩ := hget i hi
      have := hx i (List.mem_range.2 hi)
      rw [chT i hi hci, ho] at this
      simp only [Bool.and_eq_true, decide_eq_true_eq] at this
      omega
  have hbase : ∀ i, i ≤ bs.length → i ≤ c0 → hp i = H := by
    intro i
    induction i with
    | zero => intros; exact g20
    | succ i ihi =>
      intro hi hcf
      obtain ⟨o, ho⟩ := hget i (by omega)
      rw [((g3 i o (by omega) ho).2 (chF i (by omega) (hfirst i (by omega) (by omega)))).2]
      exact ihi (by omega) (by omega)
  refine awpAny_mix (pureCheck_ok hc) bs.length hms htl s rs hp ch ?_ ?_ ?_ ?_ g4 ops.size (Array.replicate ops.size false) s H (by simp) ?_ ?_ ?_ ?_ ?_ ⟨0, Nat.zero_le _, g20.symm, fun c hcm hct => ?_⟩
  · intro c c' h1 h2 h3 h4
    have := hx c' (List.mem_range.2 h2)
    obtain ⟨o, ho⟩ := hget c' h2
    rw [chT c' h2 h4, ho] at this
    simp only [Bool.and_eq_true, List.all_eq_true] at this
    have := this.2 c (List.mem_range.2 h1)
    rw [chT c (by omega) h3] at this
    simpa using this
  · intro i hi hci
    obtain ⟨o, ho⟩ := hget i hi
    exact ((g3 i o hi ho).2 (chF i hi hci)).2
  · intro i o hi ho hci
    exact ((g3 i o hi ho).1 (chT i hi hci)).1
  · intro i o hi ho hci j hj hnr
    have hfl := hx i (List.mem_range.2 hi)
    rw [chF i hi hci, ho] at hfl
    simp only [Bool.or_eq_true, Bool.and_eq_true, decide_eq_true_eq] at hfl
    have hs := ((g3 i o hi ho).2 (chF i hi hci)).1
    rcases hfl with hfl | ⟨hlt, hre⟩
    · exact floats_stepT hfl (fun hf => by cases hf) hs
    · have hjc : j ≤ c0 := by
        rcases Nat.lt_or_ge c0 j with h1 | h1
        · have := hnr c0 h1 hc0
          rw [hre] at this; cases this
        · exact h1
      rw [hbase j hj hjc]
      rw [hbase i (by omega) (by omega)] at hs
      exact hs
  · exact Nat.le_trans List.countP_le_length (by simp)
  · intro t j hj
    have hjl := dstAt_lt hj
    rw [if_neg (by simp [Array.getD, hjl])]
  · intro t _; rfl
  · intro j oj i hoj hl
    have hjl := (Array.getElem?_eq_some_iff.1 hoj).1
    simp [Array.getD, hjl] at hl
  · intro i hi hi2
    simp [Array.getD, hi2]
  · have : c < ops.size := by omega
    simp [Array.getD, this]
end
section
variable (P : Program) (hint : Nat → Bool) (n : Nat) (ops : Array Oper) (Q : Post) (rest : List Oper) (s : Nat → AV) (H B : AHeap) (bs : List Bool)
def KMix (b : Bool) (d : Option Tmp) (H0 : AHeap) : AV → AHeap → Prop := fun r H' => (match b with | true => Ext B H' | false => H' = H0) ∧ awpMix P hint n ops B Q bs rest (aput n s d r) H'
theorem KMix_true (d : Option Tmp) (H0 : AHeap) (r : AV) : KMix P hint n ops Q rest s B bs true d H0 r H = (Ext B H ∧ awpMix P hint n ops B Q bs rest (aput n s d r) H) := rfl
theorem KMix_false (d : Option Tmp) (H0 : AHeap) (r : AV) : KMix P hint n ops Q rest s B bs false d H0 r H = (H = H0 ∧ awpMix P hint n ops B Q bs rest (aput n s d r) H) := rfl
theorem awpMix_end (l : List Oper) : awpMix P hint n ops B Q [] l s H = awpList P hint n ops Q l s H := by cases l <;> rfl
theorem awpMix_none (b : Bool) (d : Option Tmp) (op : Op) (ty : TypeId) (p : String) (af : Array Edge) : awpMix P hint n ops B Q (b :: bs) (⟨d, op, ty, p, af, none⟩ :: rest) s H = astep P hint s H ⟨d, op, ty, p, af, none⟩ (KMix P hint n ops Q rest s B bs b d H) KNo := by
  cases b <;> simp only [awpMix, awpOp] <;> rfl
theorem awpMix_mk (l : List Oper) : awpMix P hint n ops B Q bs l.toArray.toList s H = awpMix P hint n ops B Q bs l s H := rfl
end
@[congr] theorem cg_mix {P : Program} {hint : Nat → Bool} {n : Nat} {ops : Array Oper} {Q : Post} {bs : List Bool} {l : List Oper} {s : Nat → AV} {B H H' : AHeap} (h : nf H = H') : awpMix P hint n ops B Q bs l s H = awpMix P hint n ops B Q bs l s H' := by rw [← h]; rfl
@[congr] theorem cg_KMix {P : Program} {hint : Nat → Bool} {n : Nat} {ops : Array Oper} {Q : Post} {rest : List Oper} {s : Nat → AV} {bs : List Bool} {b : Bool} {d : Option Tmp} {B H0 H H' : AHeap} {r r' : AV} (g : nf r = r') (h : nf H = H') : KMix P hint n ops Q rest s B bs b d H0 r H = KMix P hint n ops Q rest s B bs b d H0 r' H' := by rw [← g, ← h]; rfl
attribute [go_sem] Ext.nil KMix_true KMix_false awpMix_end awpMix_none awpMix_mk
end Go.Proofs.YtmbagpfmfiegkaaGreatAw
namespace Go.Proofs.YtmbagpfmfiegkaaGreatAw
open Go.RowKit
set_option linter.unusedVariables false
set_option linter.unusedSimpArgs false
section
variable (P : Program) (hint : Nat → Bool) (n : Nat) (ops : Array Oper)
/-- The region in the order of its text: true: it may change the heap, but for B; false: it leaves it; none: it is looked at in B. -/
def awpMixL (B : AHeap) (Q : Post) : List (Option Bool) → List Oper → (Nat → AV) → AHeap → Prop
  | [], l, s, H => awpList P hint n ops Q l s H
  | _ :: _, [], s, H => awpList P hint n ops Q [] s H
  | some true :: bs, o :: rest, s, H => awpOp P hint n ops (fun _ _ _ => False) o (fun s' H' => Ext B H' ∧ awpMixL B Q bs rest s' H') s H
  | some false :: bs, o :: rest, s, H => awpOp P hint n ops (fun _ _ _ => False) o (fun s' H' => H' = H ∧ awpMixL B Q bs rest s' H') s H
  | none :: bs, o :: rest, s, H => awpOp P hint n ops (fun _ _ _ => False) o (fun s' H' => H' = B ∧ awpMixL B Q bs rest s' H) s B
end
section
variable {P : Program} {hint : Nat → Bool} {n : Nat} {ops : Array Oper} {Q : Post}
theorem awpMixL_steps {B : AHeap} (hdt : ∀ (i : Nat) (o : Oper), ops[i]? = some o → detOp hint o.op = true) (s0 : Nat → AV) : ∀ (bs : List (Option Bool)) (k : Nat) (rs0 : Nat → AV) (hp0 : Nat → AHeap), k + bs.length ≤ ops.size → awpMixL P hint n ops B Q bs (ops.toList.drop k) (stAt n ops s0 rs0 k) (hp0 k) →
    ∃ (rs : Nat → AV) (hp : Nat → AHeap), (∀ i, i < k → rs i = rs0 i) ∧ (∀ i, i ≤ k → hp i = hp0 i) ∧
      (∀ i o, k ≤ i → i < k + bs.length → ops[i]? = some o → (bs[i - k]? = some (some true) → StepT P hint n ops (hp i) (stAt n ops s0 rs i) o (rs i) (hp (i + 1)) ∧ Ext B (hp (i + 1))) ∧
        (bs[i - k]? = some (some false) → StepT P hint n ops (hp i) (stAt n ops s0 rs i) o (rs i) (hp i) ∧ hp (i + 1) = hp i) ∧
        (bs[i - k]? = some none → StepT P hint n ops B (stAt n ops s0 rs i) o (rs i) B ∧ hp (i + 1) = hp i)) ∧
      awpList P hint n ops Q (ops.toList.drop (k + bs.length)) (stAt n ops s0 rs (k + bs.length)) (hp (k + bs.length))
  | [], k, rs0, hp0, hk, h => ⟨rs0, hp0, fun _ _ => rfl, fun _ _ => rfl, fun i o h1 h2 => by simp at h2; omega, by
      have h : awpList P hint n ops Q (ops.toList.drop k) (stAt n ops s0 rs0 k) (hp0 k) := by
        cases hd : ops.toList.drop k <;> (rw [hd] at h; exact h)
      exact h⟩
  | b :: bs, k, rs0, hp0, hk, h => by
    simp only [List.length_cons] at hk
    have hlt : k < ops.size := by omega
    have hget : ops[k]? = some ops[k] := by simp [hlt]
    have hd : ops.toList.drop k = ops[k] :: ops.toList.drop (k + 1) := by
      rw [List.drop_eq_getElem_cons (by simpa using hlt)]; simp
    rw [hd] at h
    have hdst : dstAt ops k = (ops[k]).dst := by simp [dstAt, hget]
    have step : ∃ r H', ((b = some true → StepT P hint n ops (hp0 k) (stAt n ops s0 rs0 k) ops[k] r H' ∧ Ext B H') ∧ (b = some false → StepT P hint n ops (hp0 k) (stAt n ops s0 rs0 k) ops[k] r (hp0 k) ∧ H' = hp0 k) ∧ (b = none → StepT P hint n ops B (stAt n ops s0 rs0 k) ops[k] r B ∧ H' = hp0 k)) ∧ awpMixL P hint n ops B Q bs (ops.toList.drop (k + 1)) (aput n (stAt n ops s0 rs0 k) (ops[k]).dst r) H' := by
      match b, h with
      | some true, h =>
        obtain ⟨r, H', h1, h2, h3⟩ := step_of (hdt k _ hget) h
        exact ⟨r, H', ⟨fun _ => ⟨h1, h2⟩, fun e => (by cases e), fun e => (by cases e)⟩, h3⟩
      | some false, h =>
        obtain ⟨r, H', h1, rfl, h3⟩ := step_of (hdt k _ hget) h
        exact ⟨r, _, ⟨fun e => (by cases e), fun _ => ⟨h1, rfl⟩, fun e => (by cases e)⟩, h3⟩
      | none, h =>
        obtain ⟨r, H', h1, rfl, h3⟩ := step_of (hdt k _ hget) h
        exact ⟨r, _, ⟨fun e => (by cases e), fun e => (by cases e), fun _ => ⟨h1, rfl⟩⟩, h3⟩
    obtain ⟨r, H', ⟨h1, h2, h3⟩, h4⟩ := step
    let rs1 : Nat → AV := fun i => if i = k then r else rs0 i
    let hp1 : Nat → AHeap := fun i => if i = k + 1 then H' else hp0 i
    have e1 : rs1 k = r := if_pos rfl
    have e2 : hp1 (k + 1) = H' := if_pos rfl
    have hst : ∀ (rs : Nat → AV) i, i ≤ k → (∀ j, j < i → rs j = rs0 j) → stAt n ops s0 rs i = stAt n ops s0 rs0 i := by
      intro rs i
      induction i with
      | zero => intros; rfl
      | succ i ih =>
        intro hi hr
        simp only [stAt, ih (by omega) fun j hj => hr j (by omega), hr i (by omega)]
    have h5 : awpMixL P hint n ops B Q bs (ops.toList.drop (k + 1)) (stAt n ops s0 rs1 (k + 1)) (hp1 (k + 1)) := by
      rw [e2]
      simp only [stAt, e1, hdst]
      rw [hst rs1 k (Nat.le_refl _) fun j hj => if_neg (by omega)]
      exact h4
    obtain ⟨rs, hp, g1, g2, g3, g4⟩ := awpMixL_steps hdt s0 bs (k + 1) rs1 hp1 (by omega) h5
    have f1 : ∀ i, i < k → rs i = rs0 i := fun i hi => by rw [g1 i (by omega)]; exact if_neg (by omega)
    have f2 : ∀ i, i ≤ k → hp i = hp0 i := fun i hi => by rw [g2 i (by omega)]; exact if_neg (by omega)
    have f3 : rs k = r := by rw [g1 k (by omega)]; exact e1
    have f4 : hp (k + 1) = H' := by rw [g2 (k + 1) (by omega)]; exact e2
    refine ⟨rs, hp, f1, f2, fun i o hi hi2 ho => ?_, by rw [List.length_cons, show k + (bs.length + 1) = k + 1 + bs.length from by omega]; exact g4⟩
    rcases Nat.lt_or_ge k i with hki | hki
    · have := g3 i o hki (by simp only [List.length_cons] at hi2; omega) ho
      rw [show i - k = (i - (k + 1)) + 1 from by omega, List.getElem?_cons_succ]
      exact this
    · obtain rfl : i = k := by omega
      rw [hget] at ho
      cases ho
      rw [Nat.sub_self, List.getElem?_cons_zero, f2 i (Nat.le_refl _), f3, f4, hst rs i (Nat.le_refl _) fun j hj => f1 j hj]
      refine ⟨fun e => h1 (Option.some.inj e), fun e => ?_, fun e => h3 (Option.some.inj e)⟩
      obtain ⟨g1, g2⟩ := h2 (Option.some.inj e)
      exact ⟨g1, g2⟩
end
def mixCheckL (hint : Nat → Bool) (ops : Array Oper) (bs : List (Option Bool)) (c0 : Nat) : Bool := bs[c0]? == some (some true) && (List.range bs.length).all fun i => match bs[i]?, ops[i]? with
  | some (some false), some o => floats hint false o || (decide (i < c0) && reachB ops 12 c0 i)
  | some none, some o => floats hint true o
  | some (some true), some _ => decide (c0 ≤ i) && (List.range i).all fun c => bs[c]? == some (some false) || bs[c]? == some none || reachB ops 12 i c
  | _, _ => false
section
variable {P : Program} {hint : Nat → Bool} {n : Nat} {ops : Array Oper} {Q : Post}
/-- A drawn region whose marked operations, all bound one behind the other, change the heap, but for a part B of the objects; operations with the third mark are looked at in that part. -/
theorem awp_drawL (bs : List (Option Bool)) (c0 : Nat) (B : AHeap) {H0 H : AHeap} {id : Nat} {s : Nat → AV} (hm : P.follows .mixedOrders = true) (hc : pureCheck hint ops = true) (ht : tailCheck ops bs.length = true) (hx : mixCheckL hint ops bs c0 = true) (hB : Ext B H)
    (h : awpMixL P hint n ops B Q bs ops.toList s H) : awp P hint n H0 (.region id ops true) Q s H := by
  obtain ⟨hms, htl⟩ := tailCheck_ok ht
  refine ⟨hm, ?_⟩
  obtain ⟨rs, hp, _, g2, g3, g4⟩ := awpMixL_steps (pureCheck_ok hc).det s bs 0 (fun _ => .top) (fun _ => H) (by omega) h
  have g20 : hp 0 = H := g2 0 (Nat.le_refl _)
  simp only [Nat.zero_add, Nat.sub_zero, Nat.zero_le, true_implies] at g3 g4
  unfold mixCheckL at hx
  rw [Bool.and_eq_true, List.all_eq_true] at hx
  obtain ⟨hx0, hx⟩ := hx
  have hx0 : bs[c0]? = some (some true) := by simpa using hx0
  have hget : ∀ i, i < bs.length → ∃ o, ops[i]? = some o := fun i hi => ⟨ops[i]'(by omega), by simp [show i < ops.size by omega]⟩
  have hbs : ∀ i (hi : i < bs.length), bs[i]? = some bs[i] := fun i hi => List.getElem?_eq_getElem hi
  let ch : Nat → Bool := fun i => bs[i]? == some (some true)
  have chT : ∀ i, ch i = true → bs[i]? = some (some true) := fun i h => by
    have h : (bs[i]? == some (some true)) = true := h
    simpa using h
  have chF : ∀ i, i < bs.length → ch i = false → bs[i]? = some (some false) ∨ bs[i]? = some none := fun i hi h => by
    have h : (bs[i]? == some (some true)) = false := h
    rw [hbs i hi] at h ⊢
    rcases hb : bs[i] with _ | _ | _
    · exact .inr rfl
    · exact .inl rfl
    · rw [hb] at h; simp at h
  have hstay : ∀ i o, i < bs.length → ops[i]? = some o → ch i = false → hp (i + 1) = hp i := fun i o hi ho hci => by
    rcases chF i hi hci with h | h
    · exact ((g3 i o hi ho).2.1 h).2
    · exact ((g3 i o hi ho).2.2 h).2
  have hext : ∀ j, j ≤ bs.length → Ext B (hp j) := by
    intro j
    induction j with
    | zero => intro _; rw [g20]; exact hB
    | succ j ihj =>
      intro hj
      obtain ⟨o, ho⟩ := hget j (by omega)
      cases hcj : ch j with
      | true => exact ((g3 j o (by omega) ho).1 (chT j hcj)).2
      | false => rw [hstay j o (by omega) ho hcj]; exact ihj (by omega)
  have hc0 : ch c0 = true := by show (bs[c0]? == some (some true)) = true; rw [hx0]; rfl
  have hfirst : ∀ i, i < bs.length → i < c0 → ch i = false := by
    intro i hi hlt
    cases hci : ch i with
    | false => rfl
    | true =>
      exfalso
      obtain ⟨o, ho⟩ := hget i hi
      have := hx i (List.mem_range.2 hi)
      rw [chT i hci, ho] at this
      simp only [Bool.and_eq_true, decide_eq_true_eq] at this
      omega
  have hbase : ∀ i, i ≤ bs.length → i ≤ c0 → hp i = H := by
    intro i
    induction i with
    | zero => intros; exact g20
    | succ i ihi =>
      intro hi hcf
      obtain ⟨o, ho⟩ := hget i (by omega)
      rw [hstay i o (by omega) ho (hfirst i (by omega) (by omega))]
      exact ihi (by omega) (by omega)
  refine awpAny_mix (pureCheck_ok hc) bs.length hms htl s rs hp ch ?_ ?_ ?_ ?_ g4 ops.size (Array.replicate ops.size false) s H (by simp) ?_ ?_ ?_ ?_ ?_ ⟨0, Nat.zero_le _, g20.symm, fun c hcm hct => ?_⟩
  · intro c c' h1 h2 h3 h4
    have := hx c' (List.mem_range.2 h2)
    obtain ⟨o, ho⟩ := hget c' h2
    rw [chT c' h4, ho] at this
    simp only [Bool.and_eq_true, List.all_eq_true] at this
    have := this.2 c (List.mem_range.2 h1)
    rw [chT c h3] at this
    simpa using this
  · intro i hi hci
    obtain ⟨o, ho⟩ := hget i hi
    exact hstay i o hi ho hci
  · intro i o hi ho hci
    exact ((g3 i o hi ho).1 (chT i hci)).1
  · intro i o hi ho hci j hj hnr
    have hfl := hx i (List.mem_range.2 hi)
    rcases chF i hi hci with hk | hk
    · rw [hk, ho] at hfl
      simp only [Bool.or_eq_true, Bool.and_eq_true, decide_eq_true_eq] at hfl
      have hs := ((g3 i o hi ho).2.1 hk).1
      rcases hfl with hfl | ⟨hlt, hre⟩
      · exact floats_stepT hfl (fun hf => by cases hf) hs
      · have hjc : j ≤ c0 := by
          rcases Nat.lt_or_ge c0 j with h1 | h1
          · have := hnr c0 h1 hc0
            rw [hre] at this; cases this
          · exact h1
        rw [hbase j hj hjc]
        rw [hbase i (by omega) (by omega)] at hs
        exact hs
    · rw [hk, ho] at hfl
      exact floats_stepT (first := true) hfl (fun _ => hext j hj) ((g3 i o hi ho).2.2 hk).1
  · exact Nat.le_trans List.countP_le_length (by simp)
  · intro t j hj
    have hjl := dstAt_lt hj
    rw [if_neg (by simp [Array.getD, hjl])]
  · intro t _; rfl
  · intro j oj i hoj hl
    have hjl := (Array.getElem?_eq_some_iff.1 hoj).1
    simp [Array.getD, hjl] at hl
  · intro i hi hi2
    simp [Array.getD, hi2]
  · have : c < ops.size := by omega
    simp [Array.getD, this]
end
section
variable (P : Program) (hint : Nat → Bool) (n : Nat) (ops : Array Oper) (Q : Post) (rest : List Oper) (s : Nat → AV) (H B : AHeap) (bs : List (Option Bool))
def KMixL (b : Option Bool) (d : Option Tmp) (H0 : AHeap) : AV → AHeap → Prop := fun r H' => (match b with | some true => Ext B H' ∧ awpMixL P hint n ops B Q bs rest (aput n s d r) H' | some false => H' = H0 ∧ awpMixL P hint n ops B Q bs rest (aput n s d r) H' | none => H' = B ∧ awpMixL P hint n ops B Q bs rest (aput n s d r) H0)
theorem KMixL_true (d : Option Tmp) (H0 : AHeap) (r : AV) : KMixL P hint n ops Q rest s B bs (some true) d H0 r H = (Ext B H ∧ awpMixL P hint n ops B Q bs rest (aput n s d r) H) := rfl
theorem KMixL_false (d : Option Tmp) (H0 : AHeap) (r : AV) : KMixL P hint n ops Q rest s B bs (some false) d H0 r H = (H = H0 ∧ awpMixL P hint n ops B Q bs rest (aput n s d r) H) := rfl
theorem KMixL_none (d : Option Tmp) (H0 : AHeap) (r : AV) : KMixL P hint n ops Q rest s B bs none d H0 r H = (H = B ∧ awpMixL P hint n ops B Q bs rest (aput n s d r) H0) := rfl
theorem awpMixL_end (l : List Oper) : awpMixL P hint n ops B Q [] l s H = awpList P hint n ops Q l s H := by cases l <;> rfl
theorem awpMixL_some (b : Bool) (d : Option Tmp) (op : Op) (ty : TypeId) (p : String) (af : Array Edge) : awpMixL P hint n ops B Q (some b :: bs) (⟨d, op, ty, p, af, none⟩ :: rest) s H = astep P hint s H ⟨d, op, ty, p, af, none⟩ (KMixL P hint n ops Q rest s B bs (some b) d H) KNo := by
  cases b <;> simp only [awpMixL, awpOp] <;> rfl
theorem awpMixL_none (d : Option Tmp) (op : Op) (ty : TypeId) (p : String) (af : Array Edge) : awpMixL P hint n ops B Q (none :: bs) (⟨d, op, ty, p, af, none⟩ :: rest) s H = astep P hint s B ⟨d, op, ty, p, af, none⟩ (KMixL P hint n ops Q rest s B bs none d H) KNo := by
  simp only [awpMixL, awpOp] <;> rfl
theorem awpMixL_mk (l : List Oper) : awpMixL P hint n ops B Q bs l.toArray.toList s H = awpMixL P hint n ops B Q bs l s H := rfl
theorem Ext.appT (T : AHeap) : Ext B (B ++ T) = True := eq_true (Ext.app B T)
theorem Ext.reflT : Ext B B = True := eq_true (Ext.refl B)
end
@[congr] theorem cg_mixL {P : Program} {hint : Nat → Bool} {n : Nat} {ops : Array Oper} {Q : Post} {bs : List (Option Bool)} {l : List Oper} {s : Nat → AV} {B H H' : AHeap} (h : nf H = H') : awpMixL P hint n ops B Q bs l s H = awpMixL P hint n ops B Q bs l s H' := by rw [← h]; rfl
@[congr] theorem cg_KMixL {P : Program} {hint : Nat → Bool} {n : Nat} {ops : Array Oper} {Q : Post} {rest : List Oper} {s : Nat → AV} {bs : List (Option Bool)} {b : Option Bool} {d : Option Tmp} {B H0 H H' : AHeap} {r r' : AV} (g : nf r = r') (h : nf H = H') : KMixL P hint n ops Q rest s B bs b d H0 r H = KMixL P hint n ops Q rest s B bs b d H0 r' H' := by rw [← g, ← h]; rfl
attribute [go_sem] Ext.appT Ext.reflT KMixL_true KMixL_false KMixL_none awpMixL_end awpMixL_some awpMixL_none awpMixL_mk
/-- An end with results in cells, where one of the old objects has been written. -/
theorem AEndC.retSet {P : Program} {rs : List ResultVar} {H T : AHeap} {s : Nat → AV} {r : AV} {id : Nat} {y : AObj} (hy : y.below H.length = true)
    (h : ob (resAll P (H.set id y ++ T) s rs) fun avs => r = ares (List.range avs.length) fun t => frz (H.set id y ++ T) H.length (avs.getD t .top)) : AEndC P rs H (.ok r) (H.set id y) .ret s (H.set id y ++ T) := by
  cases e : resAll P (H.set id y ++ T) s rs with
  | none => rw [e] at h; exact h.elim
  | some avs =>
    rw [e] at h
    have hw := Weak.trunc (H0 := H) (fun t => avs.getD t .top) (H.set id y ++ T) H.length (Nat.le_refl _) (by simp) fun i o hi ho => by
      rw [List.getElem?_append_left (by simpa using hi), List.getElem?_set] at ho
      by_cases hj : id = i
      · rw [if_pos hj] at ho
        split at ho
        · cases ho; exact .inr hy
        · cases ho
      · rw [if_neg hj] at ho
        exact .inl ho
    rw [show (H.set id y ++ T).take H.length = H.set id y from List.take_left' (by simp)] at hw
    exact ⟨avs, _, e, hw, by rw [h]⟩
end Go.Proofs.YtmbagpfmfiegkaaGreatAw
namespace Go.Proofs.YtmbagpfmfiegkaaGreatAw
open Go.RowKit
set_option linter.unusedVariables false
theorem CallsV.mono {P : Program} {f : FuncId} {vals : Array Value} {w : World} {R R' : Ending → World → Prop} (h : CallsV P f vals w R) (hR : ∀ e w', R e w' → R' e w') : CallsV P f vals w R' := by
  rcases h with ⟨h1, h2⟩ | ⟨v, w', h1, h2⟩
  · exact .inl ⟨h1, h2.mono hR⟩
  · exact .inr ⟨v, w', h1, hR _ _ h2⟩
def sOne (r : AV) : Nat → AV := fun t => if t = 0 then r else .top
/-- A result may be weakened: forgotten, frozen. -/
theorem Does.weak {P : Program} {f : FuncId} {args : List AV} {H H1 H2 : AHeap} {r : AV} {s' : Nat → AV} (h : Does P f args H (.ok r) H1) (hW : Weak H (sOne r) H1 s' H2) : Does P f args H (.ok (s' 0)) H2 := by
  intro φ N w vals hR hA
  refine (h φ N w vals hR hA).mono ?_
  rintro e w' ⟨φ1, N1, hR1, hS1, hE⟩
  cases e with
  | returned v =>
    have hI : Inv H φ N w 1 ⟨true, []⟩ (sOne r) H1 φ1 N1 { tmps := #[v], defers := [] } w' := by
      refine ⟨hR1, fun t => ?_, hS1, rfl, DefS.refl⟩
      unfold sOne
      by_cases ht : t = 0
      · subst ht; exact hE
      · rw [if_neg ht]; exact .top _
    obtain ⟨φ2, N2, hI2⟩ := hW.ok hR hI
    exact ⟨φ2, N2, hI2.rel, hI2.since, hI2.tmps 0⟩
  | panicked _ => exact hE.elim
  | outgrown => exact hE.elim
theorem Does.drop {P : Program} {f : FuncId} {args : List AV} {H T : AHeap} {r : AV} (h : Does P f args H (.ok r) (H ++ T)) : Does P f args H (.ok (frz (H ++ T) H.length r)) H := h.weak (Weak.drop H T _)
theorem frz_new (H : AHeap) (e : TypeId) (k v n : Nat) (es : List (List D)) (h : es.length = n) : frz (H ++ [.arr e k v es]) H.length (.sl H.length v 0 n) = .d (.list false es) := by
  rw [frz_sl, frz0_sl, if_neg (Nat.lt_irrefl _), get_snoc_self]
  simp only [if_true, List.drop_zero]
  rw [take_len _ _ h]
/-- A new array that is left may be taken for a list that never changes. -/
theorem Does.list {P : Program} {f : FuncId} {args : List AV} {H : AHeap} {e : TypeId} {k v n : Nat} {es : List (List D)} (h : Does P f args H (.ok (.sl H.length v 0 n)) (H ++ [.arr e k v es])) (hn : es.length = n) : Does P f args H (.ok (.d (.list false es))) H := by
  have := h.drop
  rwa [frz_new _ _ _ _ _ _ hn] at this
theorem AEnd.ret' {rs : List Tmp} {H H' T : AHeap} {s : Nat → AV} {r : AV} (e : H' = H ++ T) (h : r = ares rs fun t => frz H' H.length (s t)) : AEnd rs H (.ok r) H .ret s H' := by subst e; exact AEnd.ret h
theorem Does.imp {P : Program} {f : FuncId} {args : List AV} {H H' : AHeap} {r r' : AV} (h : Does P f args H (.ok r) H') (hr : ∀ φ N w v, RA H' φ N w r v → RA H' φ N w r' v) : Does P f args H (.ok r') H' := by
  have := h.weak (s' := sOne r') (.imp _ _ _ fun φ N w u v hv => ?_)
  · exact this
  · unfold sOne at hv ⊢
    by_cases hu : u = 0
    · rw [if_pos hu] at hv ⊢; exact hr _ _ _ _ hv
    · rw [if_neg hu] at hv ⊢; exact hv
theorem RA.tupSub {H : AHeap} {φ : Phi} {N : Addr → Prop} {w : World} {cs cs' : List AV} {v : Value} (hs : SubL cs cs') (h : RA H φ N w (.tup cs) v) : RA H φ N w (.tup cs') v := by
  cases h with
  | tup cs vs hl hh => exact .tup _ vs (hs.len.symm.trans hl) fun i h1 h2 => hs.ra i (by rw [hs.len]; exact h1) h1 (hh i (by rw [hs.len]; exact h1) h2)
theorem Does.subT {P : Program} {f : FuncId} {args : List AV} {H H' : AHeap} {cs cs' : List AV} (h : Does P f args H (.ok (.tup cs)) H') (hs : SubL cs cs') : Does P f args H (.ok (.tup cs')) H' := h.imp fun _ _ _ _ hv => hv.tupSub hs
/-- An empty list is nil, or it is not. -/
theorem RA.empty {H : AHeap} {φ : Phi} {N : Addr → Prop} {w : World} {v : Value} (h : RA H φ N w (.d (.list false [])) v) : RA H φ N w (.d (.v (.slice none 0 0))) v ∨ RA H φ N w (.d (.list true [])) v := by
  cases h with
  | d h =>
    cases h with
    | nil A c hA =>
      cases A with
      | none => rw [hA rfl]; exact .inl (.d (.v _ rfl))
      | some ad => exact .inr (.d (RD.list true [] ad c 0 (fun _ _ => undef) (Nat.zero_le _) (fun e he => by simp at he) (fun i j hi => by simp at hi) (fun i hi => by simp at hi)))
    | list _ _ ad cap k c hc hk hh hd => exact .inr (.d (RD.list true [] ad cap k c hc hk hh hd))
theorem Does.splitNil {P : Program} {f : FuncId} {H H' : AHeap} {res : ARes} (pre post : List AV) (h1 : Does P f (pre ++ .d (.v (.slice none 0 0)) :: post) H res H') (h2 : Does P f (pre ++ .d (.list true []) :: post) H res H') : Does P f (pre ++ .d (.list false []) :: post) H res H' := by
  intro φ N w vals hR hA
  have hlt : pre.length < vals.size := by rw [← hA.1]; simp
  have h0 := hA.2 pre.length (by simp) hlt
  simp only [List.getElem_append_right (Nat.le_refl _), Nat.sub_self, List.getElem_cons_zero] at h0
  have go : ∀ x, RA H φ N w x (vals[pre.length]) → RAs H φ N w (pre ++ x :: post) vals := fun x hx => by
    refine ⟨by rw [← hA.1]; simp, fun i g1 g2 => ?_⟩
    have h3 := hA.2 i (by simpa using g1) g2
    by_cases hi : i = pre.length
    · subst hi
      simp only [List.getElem_append_right (Nat.le_refl _), Nat.sub_self, List.getElem_cons_zero]
      exact hx
    · rcases Nat.lt_or_ge i pre.length with hlt2 | hge
      · rw [List.getElem_append_left hlt2] at h3 ⊢; exact h3
      · rw [List.getElem_append_right hge] at h3 ⊢
        obtain ⟨j, hj⟩ : ∃ j, i - pre.length = j + 1 := ⟨i - pre.length - 1, by omega⟩
        simp only [hj, List.getElem_cons_succ] at h3 ⊢
        exact h3
  rcases RA.empty h0 with h | h
  · exact h1 φ N w vals hR (go _ h)
  · exact h2 φ N w vals hR (go _ h)
theorem nilEq_run {P : Program} (d : Nat) (t e : TypeId) (h : P.underlying t = some (.slice e)) (w : World) : (Op.equalIn (d + 1) t (.slice none 0 0) (.slice none 0 0)).run P w = .ok true w := by simp [Op.equalIn, run_underlying h]
theorem nilEq_pure {P : Program} {t e : TypeId} (hu : P.underlying t = some (.slice e)) : PureBin P .eql t (.slice none 0 0) (.slice none 0 0) (.bool true) := fun x y w => by
  have hg : (eqGuard .eql t x y (.slice none 0 0) (.slice none 0 0)).run P w = .ok () w := by simp [eqGuard]
  have he : (Op.equal t (.slice none 0 0) (.slice none 0 0)).run P w = .ok true w := nilEq_run 9999 t e hu w
  rw [Sem.run_bind, hg]
  simp only [Result.andThen_ok, Go.binOp]
  simp [he]
/-- Nil held against nil. -/
theorem nilEq_bin {P : Program} {t e : TypeId} (hu : P.underlying t = some (.slice e)) (K : Value → Prop) : binK P .eql t (.slice none 0 0) (.slice none 0 0) K = K (.bool true) := by
  have h := nilEq_pure hu
  have : binK P .eql t (.slice none 0 0) (.slice none 0 0) K = ∃ r, PureBin P .eql t (.slice none 0 0) (.slice none 0 0) r ∧ K r := by unfold binK; rfl
  rw [this]
  exact propext ⟨fun ⟨r', h', k⟩ => by rw [h.inj h']; exact k, fun k => ⟨_, h, k⟩⟩
def KMid (I : (Nat → AV) → AHeap → Prop) : Post := fun e s H => match e with | .normal => I s H | _ => False
theorem KMid_normal (I : (Nat → AV) → AHeap → Prop) (s : Nat → AV) (H : AHeap) : KMid I .normal s H = I s H := rfl
attribute [go_sem] KMid_normal
section
variable {P : Program} {hint : Nat → Bool} {n : Nat} {H0 : AHeap} {Q : Post} {s : Nat → AV} {H : AHeap}
theorem awp_cut {x y : Code} (I : (Nat → AV) → AHeap → Prop) (hh : hintAt hint y = false) (h1 : awp P hint n H0 x (KMid I) s H) (h2 : ∀ s H, I s H → awp P hint n H0 y Q s H) : awp P hint n H0 x (KSeq P hint n H0 y Q) s H := by
  refine awp_mono x (fun e s H h => ?_) s H h1
  cases e with
  | normal => rw [KSeq_normal, hh, aite_false]; exact h2 s H h
  | _ => exact h.elim
theorem acond_cut {x x' y : Code} {b : Bool} (I : (Nat → AV) → AHeap → Prop) (hh : hintAt hint y = false) (h1 : acond (some b) (awp P hint n H0 x (KMid I) s H) (awp P hint n H0 x' (KMid I) s H)) (h2 : ∀ s H, I s H → awp P hint n H0 y Q s H) :
    acond (some b) (awp P hint n H0 x (KSeq P hint n H0 y Q) s H) (awp P hint n H0 x' (KSeq P hint n H0 y Q) s H) := by
  cases b
  · exact awp_cut I hh h1 h2
  · exact awp_cut I hh h1 h2
theorem awp_cutB {x y : Code} {b : Nat} (I : (Nat → AV) → AHeap → Prop) (hh : hintAt hint y = false) (h1 : awp P hint n H0 x (KBlock b (KMid I)) s H) (h2 : ∀ s H, I s H → awp P hint n H0 y Q s H) : awp P hint n H0 x (KBlock b (KSeq P hint n H0 y Q)) s H := by
  refine awp_mono x (fun e s H h => ?_) s H h1
  cases e with
  | normal => show KSeq P hint n H0 y Q .normal s H; rw [KSeq_normal, hh, aite_false]; exact h2 s H h
  | exit i =>
    rw [KBlock_exit] at h ⊢
    by_cases hi : i = b
    · rw [if_pos hi] at h ⊢; rw [KSeq_normal, hh, aite_false]; exact h2 s H h
    · rw [if_neg hi] at h; exact h.elim
  | _ => exact h.elim
end
end Go.Proofs.YtmbagpfmfiegkaaGreatAw
namespace Go.Proofs.YtmbagpfmfiegkaaGreatAw
open Go.RowKit
set_option linter.unusedVariables false
end Go.Proofs.YtmbagpfmfiegkaaGreatAw
namespace Go.Proofs.YtmbagpfmfiegkaaGreat
open Go.Proofs.YtmbagpfmfiegkaaGreatAw Go.RowKit
set_option linter.unusedVariables false
set_option linter.unusedSimpArgs false
def noS : ByteArray := ⟨#[]⟩
theorem sameV_noS (v : Val) : sameV v.kind v.i v.s 0 0 noS = decide (v = ⟨0, 0, noS⟩) := sameV_eq v ⟨0, 0, noS⟩
theorem noS_toList : noS.toList = [] := by rw [ByteArray.toList_eq]; rfl
theorem toList_nil_size (s : ByteArray) : s.toList = [] ↔ s = noS := ⟨fun h => toList_inj (by rw [h, noS_toList]), fun h => by rw [h]; exact noS_toList⟩
theorem zero_iff (v : Val) (h0 : v.kind = 0) : (v = ⟨0, 0, noS⟩) = (v.i = 0 ∧ v.s.toList = []) := by
  cases v with | mk k i s =>
  simp only at h0
  subst h0
  simp [toList_nil_size]
end Go.Proofs.YtmbagpfmfiegkaaGreat

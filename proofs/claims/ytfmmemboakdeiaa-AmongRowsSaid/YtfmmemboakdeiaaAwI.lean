/- What comes in: readings as abstract data. -/
import Derived.Test.YtfmmemboakdeiaaAwR
import Derived.ChangeArms
import Derived.Carry
import Derived.WideShapes
import Derived.SizedLaws
namespace Go.Proofs.YtfmmemboakdeiaaAw
open Go.RowKit Go.WideShapes
set_option linter.unusedVariables false
set_option linter.unusedSimpArgs false

/-- What a cell may hold. slice: the bytes of an element, its cells. -/
inductive Sh where
  | int (k : IntKind)
  | bool
  | str
  | slice (b : Nat) (es : List Sh)
mutual
inductive Fits : Sh → D → Prop
  | int (k : IntKind) (n : Int) (h : (Lit.int k n).wf = true) : Fits (.int k) (.v (.int k n))
  | bool (b : Bool) : Fits .bool (.v (.bool b))
  | str (s : ByteArray) (h : s.size ≤ reachBytes) : Fits .str (.v (.string s))
  | slice (b : Nat) (es : List Sh) (l : List (List D)) (h1 : l.length * b ≤ reachBytes) (h2 : l.length ≤ maxLen) (h : ∀ e ∈ l, FitsL es e) : Fits (.slice b es) (.list false l)
inductive FitsL : List Sh → List D → Prop
  | nil : FitsL [] []
  | cons {s : Sh} {x : D} {ss : List Sh} {xs : List D} (h : Fits s x) (t : FitsL ss xs) : FitsL (s :: ss) (x :: xs)
end
def shFields (P : Program) (g : TypeId → Option (List Sh)) : Nat → List Field → Option (List Sh)
  | _, [] => some []
  | off, f :: fs => if f.offset = off then (match g f.type with | some l => if l.length = P.cellsOf f.type then (shFields P g (off + l.length) fs).map (l ++ ·) else none | none => none) else none
def shOf (P : Program) : Nat → TypeId → Option (List Sh)
  | 0, _ => none
  | n + 1, t => match P.underlying t with
    | some .bool => some [.bool]
    | some (.int k) => some [.int k]
    | some .string => some [.str]
    | some (.slice e) => (match shOf P n e with | some es => if es.length = P.cellsOf e then some [.slice (P.bytesOf e) es] else none | none => none)
    | some (.struct fs) => (match shFields P (shOf P n) 0 fs.toList with | some l => if l.length = P.cellsOf t then some l else none | none => none)
    | some (.array m e) => (match shOf P n e with | some es => if es.length = P.cellsOf e ∧ P.cellsOf t = m * es.length then some ((List.replicate m es).flatten) else none | none => none)
    | _ => none
def Live (w : World) : Addr → Prop := fun a => ∃ v, w.cell? a = some v
def RDs (w : World) (ds : List D) (cs : List Value) : Prop := ds.length = cs.length ∧ ∀ i (h1 : i < ds.length) (h2 : i < cs.length), RD (Live w) w (ds[i]) (cs[i])
theorem RDs.nil {w : World} : RDs w [] [] := ⟨rfl, fun i h => by simp at h⟩
theorem RDs.one {w : World} {d : D} {c : Value} (h : RD (Live w) w d c) : RDs w [d] [c] := ⟨rfl, fun i h1 h2 => by
  simp only [List.length_singleton] at h1
  have : i = 0 := by omega
  subst this; exact h⟩
theorem RDs.append {w : World} {ds es : List D} {cs bs : List Value} (h : RDs w ds cs) (g : RDs w es bs) : RDs w (ds ++ es) (cs ++ bs) := by
  refine ⟨by simp [h.1, g.1], fun i h1 h2 => ?_⟩
  by_cases hi : i < ds.length
  · rw [List.getElem_append_left hi, List.getElem_append_left (by rw [← h.1]; exact hi)]
    exact h.2 i _ _
  · simp only [List.length_append] at h1
    rw [List.getElem_append_right (by omega), List.getElem_append_right (by rw [← h.1]; omega)]
    have := g.2 (i - ds.length) (by omega) (by rw [← g.1]; omega)
    simpa [h.1] using this
theorem FitsL.append : ∀ {ss ts : List Sh} {xs ys : List D}, FitsL ss xs → FitsL ts ys → FitsL (ss ++ ts) (xs ++ ys)
  | _, _, _, _, .nil, h => h
  | _, _, _, _, .cons h t, g => .cons h (t.append g)
theorem FitsL.len : ∀ {ss : List Sh} {xs : List D}, FitsL ss xs → xs.length = ss.length
  | _, _, .nil => rfl
  | _, _, .cons _ t => by simp [t.len]
theorem exists_list {α : Type} (p : Nat → α → Prop) : ∀ n, (∀ i, i < n → ∃ y, p i y) → ∃ l : List α, l.length = n ∧ ∀ i (h : i < l.length), p i l[i]
  | 0, _ => ⟨[], rfl, fun i h => by simp at h⟩
  | n + 1, h => by
    obtain ⟨l, hl, hp⟩ := exists_list p n fun i hi => h i (by omega)
    obtain ⟨y, hy⟩ := h n (by omega)
    refine ⟨l ++ [y], by simp [hl], fun i hi => ?_⟩
    by_cases e : i < l.length
    · rw [List.getElem_append_left e]; exact hp i e
    · simp at hi
      have : i = n := by omega
      subst this
      rw [List.getElem_append_right (by omega)]
      simpa [hl] using hy
theorem cells_get {w : World} {a : Addr} {k : Nat} {cs : List Value} (h : w.cells? 0 a k = some cs) : cs.length = k ∧ ∀ j (hj : j < cs.length), w.cell? (a.add j) = some cs[j] := by
  unfold World.cells? at h
  rw [if_pos (Nat.zero_le _)] at h
  have hl := mapM_some_length h
  rw [List.length_range] at hl
  refine ⟨hl, fun j hj => ?_⟩
  have := mapM_some_get h j j (by rw [List.getElem?_range (by omega)])
  rw [this]
  simp
section
variable {H : Type} {enc : TypeId × Value → H} {P : Program} {w : World}
theorem shFields_good {g : TypeId → Option (List Sh)} : ∀ (fs : List Field) (off : Nat) (shs : List Sh) (cs : List Value), shFields P g off fs = some shs → cs.length = off + shs.length →
    (∀ f ∈ fs, ∀ l, g f.type = some l → ∃ ds, FitsL l ds ∧ RDs w ds ((cs.drop f.offset).take (P.cellsOf f.type))) → ∃ ds, FitsL shs ds ∧ RDs w ds (cs.drop off)
  | [], off, shs, cs, h, hl, _ => by
    simp only [shFields] at h
    cases h
    refine ⟨[], .nil, ?_⟩
    rw [List.drop_of_length_le (by simp at hl; omega)]
    exact .nil
  | f :: fs, off, shs, cs, h, hl, hf => by
    simp only [shFields] at h
    split at h
    · rename_i ho
      split at h
      · rename_i l hgl
        split at h
        · rename_i hk
          obtain ⟨rest, hr, rfl⟩ := Option.map_eq_some_iff.1 h
          simp only [List.length_append] at hl
          obtain ⟨ds, h1, h2⟩ := hf f (by simp) l hgl
          obtain ⟨es, h3, h4⟩ := shFields_good fs (off + l.length) rest cs hr (by omega) fun f' hf' => hf f' (by simp [hf'])
          refine ⟨ds ++ es, h1.append h3, ?_⟩
          rw [ho, ← hk] at h2
          have := h2.append h4
          rwa [← List.drop_drop, List.take_append_drop] at this
        · cases h
      · cases h
    · cases h
theorem weightsAll_mem : ∀ {ds : List (DataW H)} {e : TypeId} {d : DataW H} {n : Nat}, d ∈ ds → n ∈ d.weights P e → n ∈ DataW.weightsAll P e ds
  | d' :: ds, e, d, n, hd, hn => by
    simp only [DataW.weightsAll, List.mem_append]
    rcases List.mem_cons.1 hd with rfl | hd
    · exact .inl hn
    · exact .inr (weightsAll_mem hd hn)
theorem trod_good : ∀ (n : Nat) (t : TypeId) (shs : List Sh) (fuel : Nat) (cs : List Value) (x : DataW H × List MemPlace), shOf P n t = some shs → DataW.trod enc P w 0 (fun _ => true) true fuel t cs = some x →
    (∀ m ∈ x.1.weights P t, m ≤ reachBytes) → ∃ ds, FitsL shs ds ∧ RDs w ds cs := by
  intro n
  induction n with
  | zero => intro t shs fuel cs x h; cases h
  | succ n ih =>
    intro t shs fuel cs x h hx hw
    unfold shOf at h
    split at h
    · rename_i hu
      cases h
      obtain ⟨b, rfl, rfl⟩ := DataW.trod_bool hu hx
      exact ⟨[.v (.bool b)], .cons (.bool b) .nil, .one (.v _ rfl)⟩
    · rename_i k hu
      cases h
      obtain ⟨m, rfl, rfl, hwf⟩ := DataW.trod_int hu hx
      exact ⟨[.v (.int k m)], .cons (.int k m hwf) .nil, .one (.v _ rfl)⟩
    · rename_i hu
      cases h
      obtain ⟨s, rfl, rfl, hs⟩ := DataW.trod_string hu hx
      have : s.size ≤ reachBytes := by
        have := hw s.data.toList.length (by simp [DataW.weights])
        simpa using this
      exact ⟨[.v (.string s)], .cons (.str s this) .nil, .one (.v _ rfl)⟩
    · rename_i e hu
      split at h
      · rename_i es hes
        split at h
        · rename_i hk
          cases h
          rcases DataW.trod_slice hu hx with ⟨rfl, rfl⟩ | ⟨a, len, cap, elems, rest, m, rfl, rfl, rfl, _, hlc, hcm, hel, hget, _, _⟩
          · exact ⟨[.list false []], .cons (.slice _ _ _ (by simp) (by simp) (by simp)) .nil, .one (.nil _ _ fun _ => rfl)⟩
          · have key : ∀ i, i < len → ∃ y : List D, FitsL es y ∧ ∀ j (h1 : j < y.length), ∃ c, w.cell? (a.add (i * es.length + j)) = some c ∧ RD (Live w) w y[j] c := by
              intro i hi
              have hg := hget i hi
              rw [List.getElem?_eq_getElem (by omega)] at hg
              obtain ⟨ci, hci, htr⟩ := Option.bind_eq_some_iff.1 hg
              obtain ⟨hcl, hcell⟩ := cells_get hci
              obtain ⟨ds, h1, h2⟩ := ih e es m ci _ hes htr fun q hq => hw q (by
                simp only [DataW.weights, hu]
                refine List.mem_cons_of_mem _ (List.mem_append_left _ (weightsAll_mem (List.mem_map.2 ⟨_, List.getElem_mem (show i < elems.length by omega), rfl⟩) hq)))
              refine ⟨ds, h1, fun j hj => ?_⟩
              have hjc : j < ci.length := by rw [← h2.1]; exact hj
              refine ⟨ci[j], ?_, h2.2 j hj hjc⟩
              rw [← hcell j hjc, add_add, hk]
            obtain ⟨l, hll, hlp⟩ := exists_list _ len key
            refine ⟨[.list false l], .cons (.slice _ _ _ ?_ (by omega) fun y hy => ?_) .nil, .one ?_⟩
            · have := hw ((elems.length + rest.length) * P.bytesOf e) (by simp [DataW.weights, hu])
              have h2 : l.length * P.bytesOf e ≤ (elems.length + rest.length) * P.bytesOf e := Nat.mul_le_mul_right _ (by omega)
              omega
            · obtain ⟨i, hi, rfl⟩ := List.mem_iff_getElem.1 hy
              exact (hlp i hi).1
            · have hlen : l.length = len := hll
              subst hlen
              have hw' : ∀ i j, i < l.length → j < es.length → ∃ c, w.cell? (a.add (i * es.length + j)) = some c := by
                intro i j hi hj
                have := (hlp i hi).1.len
                obtain ⟨c, hc, _⟩ := (hlp i hi).2 j (by omega)
                exact ⟨c, hc⟩
              refine .list false l a cap es.length (fun i j => (w.cell? (a.add (i * es.length + j))).getD undef) hlc (fun y hy => ?_) (fun i j hi hj => ?_) fun i hi j hj => ?_
              · obtain ⟨i, hi, rfl⟩ := List.mem_iff_getElem.1 hy
                exact (hlp i hi).1.len
              · obtain ⟨c, hc⟩ := hw' i j hi hj
                exact ⟨⟨c, hc⟩, by simp [hc]⟩
              · obtain ⟨c, hc, hd⟩ := (hlp i hi).2 j hj
                simpa [hc] using hd
        · cases h
      · cases h
    · rename_i fs hu
      split at h
      · rename_i l hl
        split at h
        · rename_i hk
          cases h
          obtain ⟨xs, m, rfl, rfl, hcl, hxl, hget⟩ := DataW.trod_struct hu hx
          have := shFields_good (w := w) fs.toList 0 shs cs hl (by omega) fun f hf l' hl' => by
            obtain ⟨i, hi, rfl⟩ := List.mem_iff_getElem.1 hf
            have hi' : i < fs.size := by simpa using hi
            have hg := hget i fs[i] (by simp [hi'])
            rw [List.getElem?_eq_getElem (by omega)] at hg
            refine ih _ l' m _ _ (by simpa using hl') (by simpa using hg) fun q hq => hw q ?_
            simp only [DataW.weights, hu]
            refine DataW.weights_mem_each (j := i) (t := (fs.toList[i]).type) (d := (xs[i]'(by omega)).1) ?_ ?_ q hq
            · simp [hi']
            · simp [show i < xs.length by omega]
          simpa using this
        · cases h
      · cases h
    · rename_i m e hu
      split at h
      · rename_i es hes
        split at h
        · rename_i hk
          cases h
          cases fuel with
          | zero => simp [DataW.trod] at hx
          | succ f =>
            unfold DataW.trod at hx
            rw [hu] at hx
            have hx' : (if cs.length = P.cellsOf t then ((List.range m).mapM fun i => DataW.trod enc P w 0 (fun _ => true) true f e ((cs.drop (i * P.cellsOf e)).take (P.cellsOf e))).map fun xs => (DataW.agg (xs.map (·.1)), xs.flatMap (·.2)) else none) = some x := by
              revert hx
              rcases cs with _ | ⟨c, _ | ⟨c', cs⟩⟩
              · exact id
              · cases c <;> exact id
              · exact id
            split at hx'
            · rename_i hcl
              obtain ⟨xs, hxs, rfl⟩ := Option.map_eq_some_iff.1 hx'
              have hxl := mapM_some_length hxs
              rw [List.length_range] at hxl
              have key : ∀ q, q ≤ m → ∃ ds, FitsL ((List.replicate q es).flatten) ds ∧ RDs w ds (cs.take (q * es.length)) := by
                intro q
                induction q with
                | zero => intro _; exact ⟨[], by simpa using FitsL.nil, by simpa using RDs.nil⟩
                | succ q ihq =>
                  intro hq
                  obtain ⟨ds, h1, h2⟩ := ihq (by omega)
                  have hg := mapM_some_get hxs q q (by rw [List.getElem?_range (by omega)])
                  rw [List.getElem?_eq_getElem (by omega)] at hg
                  obtain ⟨ds', h3, h4⟩ := ih e es f _ _ hes hg fun z hz => hw z (by
                    simp only [DataW.weights, hu]
                    exact weightsAll_mem (List.mem_map.2 ⟨_, List.getElem_mem (show q < xs.length by omega), rfl⟩) hz)
                  refine ⟨ds ++ ds', ?_, ?_⟩
                  · rw [List.replicate_succ', List.flatten_append]
                    simpa using h1.append h3
                  · have := h2.append h4
                    rw [← hk.1, ← List.take_add] at this
                    rwa [Nat.add_mul, Nat.one_mul]
              obtain ⟨ds, h1, h2⟩ := key m (Nat.le_refl _)
              refine ⟨ds, h1, ?_⟩
              rwa [← hk.2, ← hcl, List.take_length] at h2
            · cases hx'
        · cases h
      · cases h
    · cases h

/-- An argument of a type, as abstract data. -/
def ArgOk (P : Program) (t : TypeId) (x : AV) : Prop := (agB P t = some false ∧ ∃ sh d, shOf P 9 t = some [sh] ∧ Fits sh d ∧ x = .d d) ∨ (agB P t = some true ∧ ∃ shs ds, shOf P 9 t = some shs ∧ FitsL shs ds ∧ x = .agg (ds.map .d))
theorem arg_in {t : TypeId} {v : Value} {d : DataW H} {ps : List MemPlace} {shs : List Sh} {b : Bool} (hs : shOf P 9 t = some shs) (hg : agB P t = some b) (hval : Value.okWide P w .any 0 t v) (h : DataW.Trod enc P w 0 (fun _ => true) true t v d ps)
    (hw : ∀ m ∈ d.weights P t, m ≤ reachBytes) : ∃ x, ArgOk P t x ∧ RA [] (fun _ => none) (Live w) w x v := by
  obtain ⟨fuel, hf⟩ := h
  obtain ⟨ds, h1, h2⟩ := trod_good 9 t shs fuel v.cells.toList _ hs hf hw
  unfold agB at hg
  obtain ⟨desc, hd, hb⟩ := Option.map_eq_some_iff.1 hg
  have one : v.cells = #[v] → ds.length = 1 → b = false → ∃ x, ArgOk P t x ∧ RA [] (fun _ => none) (Live w) w x v := by
    intro hv hl hbf
    subst hbf
    have hl2 := h1.len
    match ds, hl, shs, hs, h1, h2 with
    | [d0], _, [sh], hs, .cons hd0 .nil, h2 =>
      refine ⟨.d d0, .inl ⟨by unfold agB; rw [hd]; exact congrArg some hb, sh, d0, hs, hd0, rfl⟩, .d ?_⟩
      have := h2.2 0 (by simp) (by simp [hv])
      simpa [hv] using this
  have agg : b = true → (∃ cs, v = .agg cs) → ∃ x, ArgOk P t x ∧ RA [] (fun _ => none) (Live w) w x v := by
    intro hbt ⟨cs, hv⟩
    subst hbt hv
    refine ⟨.agg (ds.map .d), .inr ⟨by unfold agB; rw [hd]; exact congrArg some hb, shs, ds, hs, h1, rfl⟩, .agg _ _ (by simpa [Value.cells] using h2.1) fun i g1 g2 => ?_⟩
    simp only [List.getElem_map]
    have := h2.2 i (by simpa using g1) (by simpa [Value.cells] using g2)
    exact .d (by simpa [Value.cells] using this)
  have len1 : v.cells = #[v] → ds.length = 1 := fun hv => by rw [h2.1, hv]; rfl
  unfold shOf at hs
  rw [hd] at hs
  cases desc with
  | bool => obtain ⟨q, rfl⟩ := okWide_bool hd hval; exact one rfl (len1 rfl) hb.symm
  | int k => obtain ⟨q, rfl⟩ := okWide_int hd hval; exact one rfl (len1 rfl) hb.symm
  | string => obtain ⟨q, rfl⟩ := okWide_string hd hval; exact one rfl (len1 rfl) hb.symm
  | slice e => obtain ⟨q, l, c, rfl⟩ := okWide_slice hd hval; exact one rfl (len1 rfl) hb.symm
  | struct fs => obtain ⟨cs, rfl, _⟩ := okWide_struct hd hval; exact agg hb.symm ⟨cs, rfl⟩
  | array m e =>
    have hval' := hval
    unfold Value.okWide at hval'
    rw [hd] at hval'
    obtain ⟨cs, rfl, _⟩ := hval'
    exact agg hb.symm ⟨cs, rfl⟩
  | _ => simp at hs
theorem arg_in' {t : TypeId} {v : Value} {d : DataW H} {ps : List MemPlace} (hs : (shOf P 9 t).isSome = true) (hg : (agB P t).isSome = true) (hval : Value.okWide P w .any 0 t v) (h : DataW.Trod enc P w 0 (fun _ => true) true t v d ps)
    (hw : ∀ m ∈ d.weights P t, m ≤ reachBytes) : ∃ x, ArgOk P t x ∧ RA [] (fun _ => none) (Live w) w x v := by
  obtain ⟨shs, hs⟩ := Option.isSome_iff_exists.1 hs
  obtain ⟨b, hg⟩ := Option.isSome_iff_exists.1 hg
  exact arg_in hs hg hval h hw
end
inductive RAL (H : AHeap) (φ : Phi) (N : Addr → Prop) (w : World) : List AV → List Value → Prop
  | nil : RAL H φ N w [] []
  | cons {x : AV} {v : Value} {xs : List AV} {vs : List Value} (h : RA H φ N w x v) (t : RAL H φ N w xs vs) : RAL H φ N w (x :: xs) (v :: vs)
theorem RAL.to {H : AHeap} {φ : Phi} {N : Addr → Prop} {w : World} : ∀ {xs : List AV} {vs : List Value}, RAL H φ N w xs vs → xs.length = vs.length ∧ ∀ i (h1 : i < xs.length) (h2 : i < vs.length), RA H φ N w (xs[i]) (vs[i])
  | _, _, .nil => ⟨rfl, fun i h => by simp at h⟩
  | _, _, .cons h t => ⟨by simp [t.to.1], fun i h1 h2 => by
    cases i with
    | zero => exact h
    | succ i => simpa using t.to.2 i (by simpa using h1) (by simpa using h2)⟩
theorem RAL.ras {H : AHeap} {φ : Phi} {N : Addr → Prop} {w : World} {xs : List AV} {vs : List Value} (h : RAL H φ N w xs vs) : RAs H φ N w xs vs.toArray := ⟨by simpa using h.to.1, fun i h1 h2 => by simpa using h.to.2 i h1 (by simpa using h2)⟩
end Go.Proofs.YtfmmemboakdeiaaAw

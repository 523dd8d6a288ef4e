/- Structs, arrays and slices that are written out; cuts of slices and texts; make. -/
import Derived.Test.YtfmmemboakdeiaaAw6
import Derived.Great.BuildSlice
namespace Go.Proofs.YtfmmemboakdeiaaAw
open Go.RowKit
set_option linter.unusedVariables false
set_option linter.unusedSimpArgs false

def afill (place : Nat → Option (Nat × Nat)) (cells : List AV) : List (Nat × AV) → Option (List AV)
  | [] => some cells
  | (i, x) :: rest => match place i, cellsOf x with
    | some (off, size), some cs => if cs.length = size ∧ off + size ≤ cells.length then afill place (splice cells off cs) rest else none
    | _, _ => none

theorem fold_set (off : Nat) : ∀ (l : List Value) (n : Nat) (cs : Array Value) (t : Nat), ((l.zipIdx n).foldl (fun (cs : Array Value) (c : Value × Nat) => cs.setIfInBounds (off + c.2) c.1) cs)[t]? =
    if off + n ≤ t ∧ t < off + n + l.length ∧ t < cs.size then l[t - (off + n)]? else cs[t]?
  | [], n, cs, t => by simp; omega
  | c :: l, n, cs, t => by
    simp only [List.zipIdx_cons, List.foldl_cons]
    rw [fold_set off l (n + 1) (cs.setIfInBounds (off + n) c) t]
    simp only [Array.size_setIfInBounds, List.length_cons]
    by_cases h1 : t = off + n
    · subst h1
      rw [if_neg (by omega)]
      by_cases h2 : off + n < cs.size
      · rw [if_pos (by omega)]
        simp [Array.getElem?_setIfInBounds, h2]
      · rw [if_neg (by omega)]
        rw [Array.getElem?_eq_none (by simpa using h2), Array.getElem?_eq_none (by omega)]
    · by_cases h3 : off + (n + 1) ≤ t ∧ t < off + (n + 1) + l.length ∧ t < cs.size
      · rw [if_pos h3, if_pos (by omega)]
        rw [show t - (off + n) = (t - (off + (n + 1))) + 1 by omega, List.getElem?_cons_succ]
      · rw [if_neg h3, if_neg (by omega), Array.getElem?_setIfInBounds_ne (by omega)]

theorem fold_size (off : Nat) : ∀ (l : List (Value × Nat)) (cs : Array Value), (l.foldl (fun (cs : Array Value) (c : Value × Nat) => cs.setIfInBounds (off + c.2) c.1) cs).size = cs.size
  | [], cs => rfl
  | c :: l, cs => by rw [List.foldl_cons, fold_size off l]; simp

section
variable {P : Program} {o : Oper} {a : Act} {w : World} {H : AHeap} {φ : Phi} {N : Addr → Prop} {s : Nat → AV}

theorem afill_ok (place : Nat → Option (Nat × Nat)) : ∀ (parts : List (Nat × AV)) (vparts : List (Nat × Value)) (cells : List AV) (vs : Array Value) (out : List AV), parts.length = vparts.length →
    (∀ i (h1 : i < parts.length) (h2 : i < vparts.length), (parts[i]).1 = (vparts[i]).1 ∧ RA H φ N w (parts[i]).2 (vparts[i]).2) → cells.length = vs.size → (∀ i (h1 : i < cells.length) (h2 : i < vs.size), RA H φ N w (cells[i]) (vs[i])) →
    afill place cells parts = some out → ∃ us, Instr.fill place vs vparts = some us ∧ out.length = us.size ∧ us.size = vs.size ∧ ∀ i (h1 : i < out.length) (h2 : i < us.size), RA H φ N w (out[i]) (us[i])
  | [], vparts, cells, vs, out, hl, hp, hc, hr, h => by
    have : vparts = [] := List.eq_nil_of_length_eq_zero hl.symm
    subst this
    cases h
    exact ⟨vs, rfl, hc, rfl, hr⟩
  | (i, x) :: rest, vparts, cells, vs, out, hl, hp, hc, hr, h => by
    cases vparts with
    | nil => cases hl
    | cons vp vrest =>
      obtain ⟨i', v⟩ := vp
      have h0 := hp 0 (by simp) (by simp)
      simp only [List.getElem_cons_zero] at h0
      obtain ⟨rfl, hx⟩ := h0
      simp only [afill] at h
      cases hpl : place i with
      | none => simp [hpl] at h
      | some q =>
        obtain ⟨off, size⟩ := q
        cases hcs : cellsOf x with
        | none => simp [hpl, hcs] at h
        | some cs =>
          simp only [hpl, hcs] at h
          split at h
          · rename_i hsz
            obtain ⟨hcl, hcr, _⟩ := cellsOf_ok hx hcs
            have hsize : (v.cells.zipIdx.foldl (fun cs (c, j) => cs.setIfInBounds (off + j) c) vs).size = vs.size := by
              rw [← Array.foldl_toList, Array.toList_zipIdx]
              exact fold_size off _ vs
            have hget : ∀ t, (v.cells.zipIdx.foldl (fun cs (c, j) => cs.setIfInBounds (off + j) c) vs)[t]? = if off ≤ t ∧ t < off + v.cells.size ∧ t < vs.size then v.cells[t - off]? else vs[t]? := by
              intro t
              rw [← Array.foldl_toList, Array.toList_zipIdx]
              have := fold_set off v.cells.toList 0 vs t
              simpa using this
            obtain ⟨us, hu, h1, h2, h3⟩ := afill_ok place rest vrest (splice cells off cs) (v.cells.zipIdx.foldl (fun cs (c, j) => cs.setIfInBounds (off + j) c) vs) out (by simpa using hl)
              (fun j hj1 hj2 => by have := hp (j + 1) (by simpa using hj1) (by simpa using hj2); simpa using this) (by rw [splice_length _ _ _ (by omega), hsize]; exact hc) (fun j hj1 hj2 => by
                have hsp := splice_get cells off cs (by omega) j
                rw [List.getElem?_eq_getElem hj1] at hsp
                have hg := hget j
                rw [Array.getElem?_eq_getElem hj2] at hg
                rw [hsize] at hj2
                by_cases a1 : j < off
                · rw [if_pos a1, List.getElem?_eq_getElem (by omega)] at hsp
                  rw [if_neg (by omega), Array.getElem?_eq_getElem hj2] at hg
                  rw [Option.some.inj hsp, Option.some.inj hg]
                  exact hr j (by omega) hj2
                · rw [if_neg a1] at hsp
                  by_cases a2 : j < off + cs.length
                  · rw [if_pos a2, List.getElem?_eq_getElem (by omega)] at hsp
                    rw [if_pos (by omega), Array.getElem?_eq_getElem (by omega)] at hg
                    rw [Option.some.inj hsp, Option.some.inj hg]
                    exact hcr _ (by omega) (by omega)
                  · rw [if_neg a2, List.getElem?_eq_getElem (by omega)] at hsp
                    rw [if_neg (by omega), Array.getElem?_eq_getElem hj2] at hg
                    rw [Option.some.inj hsp, Option.some.inj hg]
                    exact hr j (by omega) hj2) h
            refine ⟨us, ?_, h1, h2.trans hsize, h3⟩
            have hno : (v.cells.size != size || off + v.cells.size > vs.size) = false := by simp; omega
            have e : Instr.fill place vs ((i, v) :: vrest) = Instr.fill place (v.cells.zipIdx.foldl (fun cs (c, j) => cs.setIfInBounds (off + j) c) vs) vrest := by
              have hn1 : v.cells.size = size := by omega
              have hn2 : ¬ (off + v.cells.size > vs.size) := by omega
              simp [Instr.fill, hpl, hn1]
              intro hh; omega
            rw [e, hu]
          · cases h

/-- Where a struct's fields lie. -/
def SP (P : Program) (t : TypeId) : Option (List (Nat × Nat)) :=
  match P.underlying t with
  | some (.struct fields) => fields.toList.mapM fun f => (P.info? f.type).map fun i => (f.offset, i.size)
  | _ => none
abbrev vparts (a : Act) (parts : Array (Nat × Operand)) : Array (Nat × Value) := parts.map fun (i, x) => (i, a.eval x)
def aparts (s : Nat → AV) (parts : Array (Nat × Operand)) : List (Nat × AV) := parts.toList.map fun p => (p.1, aeval s p.2)
theorem aparts_ok (hT : TRel H φ N w s a) (parts : Array (Nat × Operand)) : (aparts s parts).length = (vparts a parts).toList.length ∧
    ∀ i (h1 : i < (aparts s parts).length) (h2 : i < (vparts a parts).toList.length), ((aparts s parts)[i]).1 = ((vparts a parts).toList[i]).1 ∧
      RA H φ N w ((aparts s parts)[i]).2 ((vparts a parts).toList[i]).2 := by
  refine ⟨by simp [aparts], fun i h1 h2 => ?_⟩
  simp [aparts]
  exact aeval_ok hT _
theorem ok_build_struct (hR : Rel H φ N w) (hT : TRel H φ N w s a) (t : TypeId) (parts : Array (Nat × Operand)) (ho : o.op = .build t parts) (places : List (Nat × Nat)) (hp : SP P t = some places) (z : Value) (k b : Nat) (hi : TI P t = some (z, k, b))
    (hz : z.cells.all Value.oneCell' = true) (out : List AV) (h : afill (places.toArray[·]?) (dcells z.cells) (aparts s parts) = some out) : OpOk P o a w H φ N (.agg out) H := by
  obtain ⟨i, hii, hzz, rfl, rfl⟩ := TI.info hi
  unfold SP at hp
  split at hp
  · rename_i fields hu
    obtain ⟨h1, h2⟩ := aparts_ok hT parts
    obtain ⟨us, hf, h3, _, h4⟩ := afill_ok (H := H) (φ := φ) (N := N) (w := w) (places.toArray[·]?) (aparts s parts) (vparts a parts).toList (dcells z.cells) z.cells out h1 h2 (by simp [dcells]) (fun j h5 h6 => by
      simp only [dcells, List.getElem_map, Array.getElem_toList]
      rw [Array.all_eq_true] at hz
      exact .d (.v _ (hz j h6))) h
    refine .same hR (.agg out us h3 h4) ?_
    have hb : P.built t (vparts a parts).toList = some us := by
      unfold Program.built
      simp only [hii, hu, hzz, hp, hf]
    simp only [execOp, ho, Sem.run_bind, run_build w t _ us hb, Result.andThen_ok]
    rfl
  · cases hp
theorem ok_build_array (hR : Rel H φ N w) (hT : TRel H φ N w s a) (t : TypeId) (parts : Array (Nat × Operand)) (ho : o.op = .build t parts) (n : Nat) (e : TypeId) (hp : AE P t = some (n, e)) (z ze : Value) (k b ke be : Nat) (hi : TI P t = some (z, k, b))
    (hie : TI P e = some (ze, ke, be)) (hz : z.cells.all Value.oneCell' = true) (out : List AV) (h : afill (fun i => some (i * ke, ke)) (dcells z.cells) (aparts s parts) = some out) : OpOk P o a w H φ N (.agg out) H := by
  obtain ⟨i, hii, hzz, rfl, rfl⟩ := TI.info hi
  obtain ⟨ie, hie', hze, rfl, rfl⟩ := TI.info hie
  obtain ⟨h1, h2⟩ := aparts_ok hT parts
  obtain ⟨us, hf, h3, _, h4⟩ := afill_ok (H := H) (φ := φ) (N := N) (w := w) (fun i => some (i * ie.size, ie.size)) (aparts s parts) (vparts a parts).toList (dcells z.cells) z.cells out h1 h2 (by simp [dcells]) (fun j h5 h6 => by
    simp only [dcells, List.getElem_map, Array.getElem_toList]
    rw [Array.all_eq_true] at hz
    exact .d (.v _ (hz j h6))) h
  refine .same hR (.agg out us h3 h4) ?_
  have hb : P.built t (vparts a parts).toList = some us := by
    unfold Program.built
    simp only [hii, AE.get hp, hzz, hie', hf]
  simp only [execOp, ho, Sem.run_bind, run_build w t _ us hb, Result.andThen_ok]
  rfl

/-! ### A slice that is written out -/
def chunk (n k : Nat) (ds : List D) : List (List D) := (List.range n).map fun i => (ds.drop (i * k)).take k
theorem chunk_length (n k : Nat) (ds : List D) : (chunk n k ds).length = n := by simp [chunk]
theorem chunk_mem {n k : Nat} {ds : List D} (h : ds.length = n * k) : ∀ e ∈ chunk n k ds, e.length = k := by
  intro e he
  obtain ⟨i, hi, rfl⟩ := List.mem_map.1 he
  simp at hi
  have := Nat.mul_le_mul_right k (show i + 1 ≤ n by omega)
  rw [Nat.add_mul] at this
  simp; omega
def zcells (z : Value) (n : Nat) : List AV := (List.range n).map fun i => .d (.v (z.cells[i % z.cells.size]!))

theorem buildSlice_run (hR : Rel H φ N w) (hT : TRel H φ N w s a) (t : TypeId) (n : Nat) (parts : Array (Nat × Operand)) (e : TypeId) (ht : SE P t = some e) (z : Value) (k b : Nat) (hi : TI P e = some (z, k, b))
    (hz : z.cells.size = k) (h1 : z.cells.all Value.oneCell' = true) (h24 : n * k ≤ 16777216) (hn : 0 < n * k) (out : List AV) (h : afill (fun i => some (i * k, k)) (zcells z (n * k)) (aparts s parts) = some out) :
    ∃ us : Array Value, (Instr.buildSlice t n (vparts a parts)).run P w = .ok (.slice (some ⟨w.heap.size, 0, none⟩) n n) (w.alloc (.cells us e)) ∧ us.size = n * k ∧ out.length = n * k ∧
      ∀ i (h1 : i < out.length) (h2 : i < us.size), RA H φ N w (out[i]) (us[i]) := by
  obtain ⟨i, hii, hzz, rfl, rfl⟩ := TI.info hi
  obtain ⟨h2, h3⟩ := aparts_ok hT parts
  obtain ⟨us, hf, h4, h5, h6⟩ := afill_ok (H := H) (φ := φ) (N := N) (w := w) (fun j => some (j * i.size, i.size)) (aparts s parts) (vparts a parts).toList (zcells z (n * i.size)) ((Array.range (n * i.size)).map (z.cells[· % z.cells.size]!)) out h2 h3
    (by simp [zcells]) (fun j g1 g2 => by
      simp only [zcells, List.getElem_map, List.getElem_range, Array.getElem_map, Array.getElem_range]
      refine .d (.v _ ?_)
      have hpos : 0 < z.cells.size := by
        rcases Nat.eq_zero_or_pos z.cells.size with h0 | h0
        · rw [hz] at h0; simp [h0] at hn
        · exact h0
      rw [Array.all_eq_true] at h1
      have hlt := Nat.mod_lt j hpos
      rw [getElem!_pos z.cells _ hlt]
      exact h1 _ hlt) h
  refine ⟨us, run_buildSlice w t e n _ us i z (SE.get ht) hii hzz (by omega) (by omega) hf, by rw [h5]; simp, by rw [h4, h5]; simp, h6⟩

theorem ok_buildSlice (hR : Rel H φ N w) (hT : TRel H φ N w s a) (t : TypeId) (n : Nat) (parts : Array (Nat × Operand)) (ho : o.op = .buildSlice t n parts) (e : TypeId) (ht : SE P t = some e) (z : Value) (k b : Nat) (hi : TI P e = some (z, k, b))
    (hz : z.cells.size = k) (h1 : z.cells.all Value.oneCell' = true) (h24 : n * k ≤ 16777216) (hn : 0 < n * k) (out : List AV) (h : afill (fun i => some (i * k, k)) (zcells z (n * k)) (aparts s parts) = some out)
    (ds : List D) (hd : toDs out = some ds) : OpOk P o a w H φ N (.d (.list true (chunk n k ds))) H := by
  obtain ⟨us, hrun, hu, hol, hr⟩ := buildSlice_run hR hT t n parts e ht z k b hi hz h1 h24 hn out h
  have hS := Since.fixed hR (.cells us e) (fun a => N a ∨ (a.block = w.heap.size ∧ a.spot = none ∧ a.off < us.size)) (fun _ h => .inl h)
  have hdl : ds.length = n * k := by rw [← hol, toDs_eq hd]; simp
  have hk0 : 0 < k := Nat.pos_of_mul_pos_left hn
  refine ⟨_, _, φ, _, .inl (by simp only [execOp, ho, Sem.run_bind, hrun, Result.andThen_ok]; rfl), hR.fixed us e (0, 0), hS, .d ?_⟩
  have hrow : ∀ i j, i < n → j < k → i * k + j < us.size := fun i j hi hj => by rw [hu]; exact place_lt hj hi
  have key := RD.list (N := fun a => N a ∨ (a.block = w.heap.size ∧ a.spot = none ∧ a.off < us.size)) (w := w.alloc (.cells us e)) true (chunk n k ds) ⟨w.heap.size, 0, none⟩ n k (fun i j => us.getD (i * k + j) undef)
    (by rw [chunk_length]; exact Nat.le_refl _) (chunk_mem hdl) (fun i j hi hj => by
      rw [chunk_length] at hi
      rw [add_plain]
      simp only [Nat.zero_add]
      refine ⟨.inr (by simpa using hrow i j hi hj), ?_⟩
      rw [World.cell?_alloc_new]
      simp [Array.getD, hrow i j hi hj]) (fun i hi j hj => by
      rw [chunk_length] at hi
      have hj' : j < k := by
        have hmem : (chunk n k ds)[i]'(by rw [chunk_length]; exact hi) ∈ chunk n k ds := List.getElem_mem _
        rw [chunk_mem hdl _ hmem] at hj
        exact hj
      have hlt := hrow i j hi hj'
      have hra := hr (i * k + j) (by omega) hlt
      have hod : out[i * k + j]'(by omega) = .d (ds[i * k + j]'(by omega)) := by
        have := toDs_eq hd
        simp [this]
      rw [hod] at hra
      cases hra with
      | d hrd =>
      have e1 : ((chunk n k ds)[i]'(by rw [chunk_length]; exact hi))[j]'hj = ds[i * k + j]'(by omega) := by simp [chunk]
      rw [e1]
      simp only [Array.getD, hlt, dif_pos]
      exact hrd.since hR hS)
  rw [chunk_length] at key
  exact key

theorem ok_buildSlice_obj (hR : Rel H φ N w) (hT : TRel H φ N w s a) (t : TypeId) (n : Nat) (parts : Array (Nat × Operand)) (ho : o.op = .buildSlice t n parts) (e : TypeId) (ht : SE P t = some e) (z : Value) (k b : Nat) (hi : TI P e = some (z, k, b))
    (hz : z.cells.size = k) (h1 : z.cells.all Value.oneCell' = true) (h24 : n * k ≤ 16777216) (hn : 0 < n * k) (out : List AV) (h : afill (fun i => some (i * k, k)) (zcells z (n * k)) (aparts s parts) = some out)
    (ds : List D) (hd : toDs out = some ds) : OpOk P o a w H φ N (.sl H.length 0 0 n) (H ++ [.arr e k 0 (chunk n k ds)]) := by
  obtain ⟨us, hrun, hu, hol, hr⟩ := buildSlice_run hR hT t n parts e ht z k b hi hz h1 h24 hn out h
  have hdl : ds.length = n * k := by rw [← hol, toDs_eq hd]; simp
  have hk0 : 0 < k := Nat.pos_of_mul_pos_left hn
  have hnm : n ≤ maxLen := by
    have := Nat.le_mul_of_pos_right n hk0
    simp only [maxLen]; omega
  have hlen : n = (chunk n k ds).length := (chunk_length n k ds).symm
  refine ⟨_, _, _, N, .inl (by simp only [execOp, ho, Sem.run_bind, hrun, Result.andThen_ok]; rfl), hR.new_arr e k (chunk n k ds) us hk0 (chunk_mem hdl) (by rw [chunk_length]; exact hnm) (by rw [chunk_length]; exact hu) (fun i hi j hj => ?_), Since.new hR _ _ _, ?_⟩
  · rw [chunk_length] at hi
    have hj' : j < k := by
      have hmem : (chunk n k ds)[i]'(by rw [chunk_length]; exact hi) ∈ chunk n k ds := List.getElem_mem _
      rw [chunk_mem hdl _ hmem] at hj
      exact hj
    have hlt : i * k + j < us.size := by rw [hu]; exact place_lt hj' hi
    have hra := hr (i * k + j) (by omega) hlt
    have hod : out[i * k + j]'(by omega) = .d (ds[i * k + j]'(by omega)) := by
      have := toDs_eq hd
      simp [this]
    rw [hod] at hra
    cases hra with
    | d hrd =>
    refine ⟨us[i * k + j], by simp [hlt], ?_⟩
    have e1 : ((chunk n k ds)[i]'(by rw [chunk_length]; exact hi))[j]'hj = ds[i * k + j]'(by omega) := by simp [chunk]
    rw [e1]
    exact hrd
  · refine .sl _ _ _ _ _ _ _ (.arr e k 0 (chunk n k ds)) (by simp) (Nat.le_refl _) fun _ => ⟨rfl, by simp [AObj.len, chunk_length], .inr ⟨w.heap.size, (chunk n k ds).length, Phi.put_same _ _ _, by rw [chunk_length]; omega, by simp, by rw [chunk_length]; simp⟩⟩

/-- An empty slice that is written out: it has no capacity. -/
theorem ok_buildSlice_zero (hR : Rel H φ N w) (t : TypeId) (ho : o.op = .buildSlice t 0 #[]) (e : TypeId) (ht : SE P t = some e) (z : Value) (k b : Nat) (hi : TI P e = some (z, k, b)) : OpOk P o a w H φ N .cap0 H := by
  obtain ⟨i, hii, hzz, rfl, rfl⟩ := TI.info hi
  refine ⟨.slice (some ⟨w.heap.size, 0, none⟩) 0 0, w.alloc (.cells #[] e), φ, fun a => N a ∨ (a.block = w.heap.size ∧ a.spot = none ∧ a.off < (#[] : Array Value).size), .inl ?_, hR.fixed #[] e (0, 0), Since.fixed hR _ _ (fun _ h => .inl h), .cap0 _⟩
  have he : (Array.map (fun x : Nat => (default : Value)) (Array.range 0)) = #[] := by simp
  simp [execOp, ho, Instr.buildSlice, run_underlying (SE.get ht), sizeOf, typeInfo, hii, Instr.fill, newRow, newObj, he]
  rfl

/-! ### Cuts -/
def sliceLo (s : Nat → AV) : Option Operand → Option Int
  | none => some 0
  | some x => match closed (aeval s x) with | some (.int _ n) => some n | _ => none
def sliceHi (s : Nat → AV) (len : Nat) : Option Operand → Option Int
  | none => some len
  | some x => match closed (aeval s x) with | some (.int _ n) => some n | _ => none

theorem bound_run (hT : TRel H φ N w s a) {x : Operand} {n : Int} (h : (match closed (aeval s x) with | some (.int _ n) => some n | _ => none) = some n) (y : Nat) (code : BoundsCode) (h0 : 0 ≤ n) (h1 : n ≤ y) :
    (Instr.sliceBound (a.eval x) y code).run P w = .ok n.toNat w := by
  split at h
  · rename_i k m hc
    cases h
    rw [closed_ok (aeval_ok hT x) hc]
    simp [Instr.sliceBound, asIntOf, h0, h1]
  · cases h

theorem bounds_run (hT : TRel H φ N w s a) (isS : Bool) {lo hi : Option Operand} (len cap : Nat) {l h : Int} (hl : sliceLo s lo = some l) (hh : sliceHi s len hi = some h) (h0 : 0 ≤ l) (h1 : l ≤ h) (h2 : h ≤ cap) :
    (Instr.sliceBounds isS len cap (lo.map a.eval) (hi.map a.eval) none).run P w = .ok (l.toNat, h.toNat, cap) w := by
  cases lo with
  | none =>
    cases hl
    cases hi with
    | none => cases hh; simp [Instr.sliceBounds]
    | some y =>
      have := bound_run (P := P) hT hh cap (if isS then .sliceAcap else .sliceAlen) (by omega) h2
      cases isS <;> simp_all [Instr.sliceBounds]
  | some x =>
    cases hi with
    | none =>
      cases hh
      have hx := bound_run (P := P) hT hl len .sliceB h0 (by omega)
      simp_all [Instr.sliceBounds]
    | some y =>
      have hy := bound_run (P := P) hT hh cap (if isS then .sliceAcap else .sliceAlen) (by omega) h2
      have hx := bound_run (P := P) hT hl h.toNat .sliceB h0 (by omega)
      cases isS <;> simp_all [Instr.sliceBounds]

theorem ok_slice_str (hR : Rel H φ N w) (hT : TRel H φ N w s a) (t : TypeId) (x : Operand) (lo hi : Option Operand) (ho : o.op = .slice t x lo hi none) (hu : P.underlying t = some .string) (b : ByteArray) (hx : closed (aeval s x) = some (.string b))
    (l h : Int) (hl : sliceLo s lo = some l) (hh : sliceHi s b.size hi = some h) (h0 : 0 ≤ l) (h1 : l ≤ h) (h2 : h ≤ b.size) : OpOk P o a w H φ N (.d (.v (.string (b.extract l.toNat h.toNat)))) H := by
  have hv := closed_ok (aeval_ok hT x) hx
  refine .same hR (.d (.v _ rfl)) ?_
  simp [execOp, ho, hv, Instr.sliceAt, Instr.slice, run_underlying hu, bounds_run hT false b.size b.size hl hh h0 h1 h2]

/-- A cut of a list. -/
theorem ok_slice_list (hR : Rel H φ N w) (hT : TRel H φ N w s a) (t : TypeId) (x : Operand) (lo hi : Option Operand) (ho : o.op = .slice t x lo hi none) (e : TypeId) (ht : SE P t = some e) (z : Value) (k b : Nat) (hi' : TI P e = some (z, k, b))
    (nn : Bool) (es : List (List D)) (hx : aeval s x = .d (.list nn es)) (hes : ∀ c ∈ es, c.length = k) (l h : Int) (hl : sliceLo s lo = some l) (hh : sliceHi s es.length hi = some h) (h0 : 0 ≤ l) (h1 : l ≤ h) (h2 : h ≤ es.length) :
    OpOk P o a w H φ N (.d (.list false ((es.take h.toNat).drop l.toNat))) H := by
  have hxa := aeval_ok hT x
  rw [hx] at hxa
  generalize hv : a.eval x = v at hxa
  cases hxa with
  | d hd =>
  cases hd with
  | nil A c hA =>
    simp only [List.length_nil] at h2 hh
    have hl0 : l = 0 := by omega
    have hh0 : h = 0 := by omega
    subst hl0 hh0
    refine .same hR (x := .slice (if c = 0 then A else A.map (·.add (0 * k))) 0 c) (by simp only [List.take_nil, List.drop_nil]; exact .d (.nil _ _ fun hn => by by_cases hc : c = 0; exact hc; rw [if_neg hc] at hn; exact hA (by simpa using hn))) ?_
    simp [execOp, ho, hv, Instr.sliceAt, Instr.slice, run_underlying (SE.get ht), bounds_run hT true 0 c hl hh (by omega) (by omega) (by omega), TI.sizeOf hi']
  | list _ _ ad cap k' c hc hk' hcell hrd =>
    have hlen : (((es.take h.toNat).drop l.toNat)).length = h.toNat - l.toNat := by simp; omega
    refine .same hR (x := .slice (if cap = l.toNat then some ad else some (ad.add (l.toNat * k))) (h.toNat - l.toNat) (cap - l.toNat)) (.d ?_) ?_
    · by_cases hemp : h.toNat - l.toNat = 0
      · have : (es.take h.toNat).drop l.toNat = [] := List.eq_nil_of_length_eq_zero (by omega)
        rw [this, hemp]
        exact .nil _ _ (fun hn => by split at hn <;> cases hn)
      · have hk'' : k' = k := by
          have h3 : 0 < es.length := by omega
          rw [← hk' _ (List.getElem_mem h3), hes _ (List.getElem_mem h3)]
        subst hk''
        rw [if_neg (by omega), ← hlen]
        refine .list false _ (ad.add (l.toNat * k')) _ k' (fun i j => c (l.toNat + i) j) (by rw [hlen]; omega) (fun e he => hes e (List.mem_of_mem_take (List.mem_of_mem_drop he))) (fun i j hi hj => ?_) (fun i hi j hj => ?_)
        · rw [hlen] at hi
          rw [add_add]
          have := hcell (l.toNat + i) j (by omega) hj
          rw [Nat.add_mul, Nat.add_assoc] at this
          exact this
        · have hi2 : i < h.toNat - l.toNat := by rw [← hlen]; exact hi
          have hge : ((es.take h.toNat).drop l.toNat)[i]'hi = es[l.toNat + i]'(by omega) := by simp
          have hj2 : j < (es[l.toNat + i]'(by omega)).length := by rw [← hge]; exact hj
          have := hrd (l.toNat + i) (by omega) j hj2
          simpa [hge] using this
    · simp [execOp, ho, hv, Instr.sliceAt, Instr.slice, run_underlying (SE.get ht), bounds_run hT true es.length cap hl hh h0 h1 (by omega), TI.sizeOf hi']
theorem bounds_run3 (hT : TRel H φ N w s a) {lo : Option Operand} {hi mx : Operand} (len cap : Nat) {l h m : Int} (hl : sliceLo s lo = some l) (hh : sliceLo s (some hi) = some h) (hm : sliceLo s (some mx) = some m) (h0 : 0 ≤ l) (h1 : l ≤ h) (h2 : h ≤ m) (h3 : m ≤ cap) :
    (Instr.sliceBounds true len cap (lo.map a.eval) (some (a.eval hi)) (some (a.eval mx))).run P w = .ok (l.toNat, h.toNat, m.toNat) w := by
  have hx := bound_run (P := P) hT hm cap .slice3Acap (by omega) h3
  have hy := bound_run (P := P) hT hh m.toNat .slice3B (by omega) (by omega)
  cases lo with
  | none => cases hl; simp_all [Instr.sliceBounds]
  | some x =>
    have hz := bound_run (P := P) hT hl h.toNat .slice3C h0 (by omega)
    simp_all [Instr.sliceBounds]
/-- A cut of a list, and of its room. -/
theorem ok_slice3_list (hR : Rel H φ N w) (hT : TRel H φ N w s a) (t : TypeId) (x : Operand) (lo : Option Operand) (hi mx : Operand) (ho : o.op = .slice t x lo (some hi) (some mx)) (e : TypeId) (ht : SE P t = some e) (z : Value) (k b : Nat) (hi' : TI P e = some (z, k, b))
    (nn : Bool) (es : List (List D)) (hx : aeval s x = .d (.list nn es)) (hes : ∀ c ∈ es, c.length = k) (l h m : Int) (hl : sliceLo s lo = some l) (hh : sliceLo s (some hi) = some h) (hm : sliceLo s (some mx) = some m) (h0 : 0 ≤ l) (h1 : l ≤ h) (h2 : h ≤ m) (h3 : m ≤ es.length) :
    OpOk P o a w H φ N (.d (.list false ((es.take h.toNat).drop l.toNat))) H := by
  have hxa := aeval_ok hT x
  rw [hx] at hxa
  generalize hv : a.eval x = v at hxa
  cases hxa with
  | d hd =>
  cases hd with
  | nil A c hA =>
    simp only [List.length_nil] at h3
    have hl0 : l = 0 := by omega
    have hh0 : h = 0 := by omega
    have hm0 : m = 0 := by omega
    subst hl0 hh0 hm0
    refine .same hR (x := .slice A 0 0) (by simp only [List.take_nil, List.drop_nil]; exact .d (.nil _ _ fun _ => rfl)) ?_
    have := bounds_run3 (P := P) hT 0 c hl hh hm (by omega) (by omega) (by omega) (by omega)
    simp [execOp, ho, hv, Instr.sliceAt, Instr.slice, run_underlying (SE.get ht), this, TI.sizeOf hi']
  | list _ _ ad cap k' c hc hk' hcell hrd =>
    have hlen : (((es.take h.toNat).drop l.toNat)).length = h.toNat - l.toNat := by simp; omega
    refine .same hR (x := .slice (if m.toNat = l.toNat then some ad else some (ad.add (l.toNat * k))) (h.toNat - l.toNat) (m.toNat - l.toNat)) (.d ?_) ?_
    · by_cases hemp : h.toNat - l.toNat = 0
      · have : (es.take h.toNat).drop l.toNat = [] := List.eq_nil_of_length_eq_zero (by omega)
        rw [this, hemp]
        exact .nil _ _ (fun hn => by split at hn <;> cases hn)
      · have hk'' : k' = k := by
          have h3 : 0 < es.length := by omega
          rw [← hk' _ (List.getElem_mem h3), hes _ (List.getElem_mem h3)]
        subst hk''
        rw [if_neg (by omega), ← hlen]
        refine .list false _ (ad.add (l.toNat * k')) _ k' (fun i j => c (l.toNat + i) j) (by rw [hlen]; omega) (fun e he => hes e (List.mem_of_mem_take (List.mem_of_mem_drop he))) (fun i j hi hj => ?_) (fun i hi j hj => ?_)
        · rw [hlen] at hi
          rw [add_add]
          have := hcell (l.toNat + i) j (by omega) hj
          rw [Nat.add_mul, Nat.add_assoc] at this
          exact this
        · have hi2 : i < h.toNat - l.toNat := by rw [← hlen]; exact hi
          have hge : ((es.take h.toNat).drop l.toNat)[i]'hi = es[l.toNat + i]'(by omega) := by simp
          have hj2 : j < (es[l.toNat + i]'(by omega)).length := by rw [← hge]; exact hj
          have := hrd (l.toNat + i) (by omega) j hj2
          simpa [hge] using this
    · have := bounds_run3 (P := P) hT es.length cap hl hh hm h0 h1 h2 (by omega)
      simp [execOp, ho, hv, Instr.sliceAt, Instr.slice, run_underlying (SE.get ht), this, TI.sizeOf hi']
end
end Go.Proofs.YtfmmemboakdeiaaAw

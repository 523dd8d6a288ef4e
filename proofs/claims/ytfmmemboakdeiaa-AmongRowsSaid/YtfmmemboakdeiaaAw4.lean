/- Operations, one by one: what each does to abstract values, and that the machine does it. -/
import Derived.Test.YtfmmemboakdeiaaAw3
namespace Go.Proofs.YtfmmemboakdeiaaAw
open Go.RowKit
set_option linter.unusedVariables false
set_option linter.unusedSimpArgs false

/-! ### Operands -/
def aconst : Value → AV
  | .agg cs => if cs.all Value.oneCell' then .agg (cs.toList.map fun c => .d (.v c)) else .top
  | .tuple _ => .top
  | x => .d (.v x)
theorem aconst_ok {H : AHeap} {φ : Phi} {N : Addr → Prop} {w : World} (x : Value) : RA H φ N w (aconst x) x := by
  unfold aconst
  split
  · split
    · rename_i cs hc
      refine .agg _ _ (by simp) fun i h1 h2 => ?_
      simp only [List.getElem_map, Array.getElem_toList]
      rw [Array.all_eq_true] at hc
      exact .d (.v _ (hc i h2))
    · exact .top _
  · exact .top _
  · rename_i h1 h2
    refine .d (.v _ ?_)
    cases x <;> first | rfl | exact absurd rfl (h1 _) | exact absurd rfl (h2 _)
def aeval (s : Nat → AV) : Operand → AV
  | .tmp t => s t
  | .const v => aconst v
  | .global _ => .top
  | .func f => .fn f []
def TRel (H : AHeap) (φ : Phi) (N : Addr → Prop) (w : World) (s : Nat → AV) (a : Act) : Prop := ∀ t, RA H φ N w (s t) (a.tmps.getD t undef)
theorem aeval_ok {H : AHeap} {φ : Phi} {N : Addr → Prop} {w : World} {s : Nat → AV} {a : Act} (h : TRel H φ N w s a) (x : Operand) : RA H φ N w (aeval s x) (a.eval x) := by
  cases x with
  | tmp t => exact h t
  | const v => exact aconst_ok v
  | global g => exact .top _
  | func f => exact .fn f [] #[] rfl (fun i h1 => by simp at h1)

theorem RA.closed {H : AHeap} {φ : Phi} {N : Addr → Prop} {w : World} {x v : Value} (h : RA H φ N w (.d (.v x)) v) : v = x := by
  cases h with
  | d h => cases h with | v => rfl

/-! ### Cells of a value -/
def cellsOf : AV → Option (List AV)
  | .agg cs => if cs.all AV.one then some cs else none
  | .top => none
  | .tup _ => none
  | x => some [x]
theorem cellsOf_ok {H : AHeap} {φ : Phi} {N : Addr → Prop} {w : World} {x : AV} {v : Value} (h : RA H φ N w x v) {cs : List AV} (hc : cellsOf x = some cs) :
    cs.length = v.cells.size ∧ (∀ i (h1 : i < cs.length) (h2 : i < v.cells.size), RA H φ N w (cs[i]) (v.cells[i])) ∧ ∀ u ∈ v.cells.toList, u.oneCell' = true := by
  have single : ∀ (y : AV) (u : Value), RA H φ N w y u → y.one = true → u.cells = #[u] → cellsOf y = some [y] → cs = [y] → x = y → v = u →
      cs.length = v.cells.size ∧ (∀ i (h1 : i < cs.length) (h2 : i < v.cells.size), RA H φ N w (cs[i]) (v.cells[i])) ∧ ∀ u ∈ v.cells.toList, u.oneCell' = true := by
    intro y u hy h1 hu _ e1 e2 e3
    subst e1 e2 e3
    refine ⟨by simp [hu], fun i h1 h2 => ?_, fun z hz => ?_⟩
    · simp only [List.length_singleton] at h1
      have : i = 0 := by omega
      subst this
      simp only [hu]
      exact hy
    · simp only [hu] at hz
      simp at hz
      subst hz
      exact hy.one h1
  have one : x.one = true → cs = [x] → v.cells = #[v] →
      cs.length = v.cells.size ∧ (∀ i (h1 : i < cs.length) (h2 : i < v.cells.size), RA H φ N w (cs[i]) (v.cells[i])) ∧ ∀ u ∈ v.cells.toList, u.oneCell' = true := by
    intro h1 e hv
    subst e
    refine ⟨by simp [hv], fun i h1 h2 => ?_, fun z hz => ?_⟩
    · simp only [List.length_singleton] at h1
      have : i = 0 := by omega
      subst this
      simp only [hv]
      exact h
    · simp only [hv] at hz
      simp at hz
      subst hz
      exact h.one h1
  have hv : ∀ u : Value, u.oneCell' = true → u.cells = #[u] := by intro u hu; cases u <;> first | rfl | cases hu
  cases x with
  | top => cases hc
  | tup vs => cases hc
  | agg xs =>
    simp only [cellsOf] at hc
    split at hc
    · rename_i ha
      cases hc
      cases h with
      | agg _ vs hl hh =>
        refine ⟨hl, hh, fun u hu => ?_⟩
        obtain ⟨i, hi, rfl⟩ := List.mem_iff_getElem.1 hu
        rw [List.all_eq_true] at ha
        simp only [Value.cells, Array.length_toList] at hi
        simp only [Value.cells, Array.getElem_toList]
        exact (hh i (by omega) hi).one (ha _ (List.getElem_mem _))
    · cases hc
  | d _ => cases hc; exact one rfl rfl (hv _ (h.one rfl))
  | cap0 => cases hc; exact one rfl rfl (hv _ (h.one rfl))
  | ptr _ _ _ _ => cases hc; exact one rfl rfl (hv _ (h.one rfl))
  | iptr _ => cases hc; exact one rfl rfl (hv _ (h.one rfl))
  | sl _ _ _ _ => cases hc; exact one rfl rfl (hv _ (h.one rfl))
  | fn _ _ => cases hc; exact one rfl rfl (hv _ (h.one rfl))
  | mp _ => cases hc; exact one rfl rfl (hv _ (h.one rfl))

/-! ### What an operation comes to -/
def OpOk (P : Program) (o : Oper) (a : Act) (w : World) (H : AHeap) (φ : Phi) (N : Addr → Prop) (r : AV) (H' : AHeap) : Prop :=
  ∃ x w' φ' N', ((execOp a.eval o).run P w = .ok (.value x) w' ∨ ((execOp a.eval o).run P w = .ok .skip w' ∧ x = undef)) ∧
    Rel H' φ' N' w' ∧ Since H φ N w H' φ' N' w' ∧ RA H' φ' N' w' r x

section
variable {P : Program} {o : Oper} {a : Act} {w : World} {H : AHeap} {φ : Phi} {N : Addr → Prop} {s : Nat → AV}

theorem OpOk.same (hR : Rel H φ N w) {r : AV} {x : Value} (hx : RA H φ N w r x) (h : (execOp a.eval o).run P w = .ok (.value x) w) : OpOk P o a w H φ N r H :=
  ⟨x, w, φ, N, .inl h, hR, Since.refl, hx⟩

theorem ok_move (hR : Rel H φ N w) (hT : TRel H φ N w s a) (x : Operand) (ho : o.op = .move x ∨ o.op = .assign x) : OpOk P o a w H φ N (aeval s x) H := by
  refine .same hR (aeval_ok hT x) ?_
  rcases ho with ho | ho <;> simp [execOp, ho]

theorem ok_pick (hR : Rel H φ N w) (hT : TRel H φ N w s a) (c x y : Operand) (ho : o.op = .pick c x y) (t : Bool) (hc : aeval s c = .d (.v (.bool t))) :
    OpOk P o a w H φ N (if t then aeval s x else aeval s y) H := by
  have h := aeval_ok hT c
  rw [hc] at h
  have hv := h.closed
  refine OpOk.same (x := if t then a.eval x else a.eval y) hR (by cases t <;> exact aeval_ok hT _) ?_
  cases t <;> simp [execOp, ho, asBool, hv]

/-- Cells that are constants. -/
def dcells (cs : Array Value) : List AV := cs.toList.map fun c => .d (.v c)
theorem ok_alloc (hR : Rel H φ N w) (e : TypeId) (z : Value) (k b : Nat) (ho : o.op = .alloc e) (hi : TI P e = some (z, k, b)) (hk : 0 < k) (hz : z.cells.size = k) (h1 : z.cells.all Value.oneCell' = true) :
    OpOk P o a w H φ N (.ptr H.length 0 0 0) (H ++ [.box e k 0 1 (dcells z.cells)]) := by
  refine ⟨.pointer (some ⟨w.heap.size, 0, none⟩), w.alloc (.cells z.cells e), _, N, .inl ?_, hR.new_box e k 1 (dcells z.cells) z.cells hk (by simp [dcells, hz]) (by decide) (by simp [dcells]) (fun j h2 h3 => ?_), Since.new hR _ _ _, ?_⟩
  · simp only [execOp, ho, Instr.alloc, Sem.run_bind, TI.zero hi, Result.andThen_ok, newVar, newRow, newObj]
    rfl
  · simp only [dcells, List.getElem_map, Array.getElem_toList]
    rw [Array.all_eq_true] at h1
    exact .d (.v _ (h1 j h3))
  · refine .ptr _ _ _ _ _ (.box e k 0 1 (dcells z.cells)) (by simp) (Nat.le_refl _) fun _ => ⟨w.heap.size, 1, Phi.put_same _ _ _, by simp⟩

theorem ok_box (hR : Rel H φ N w) (hT : TRel H φ N w s a) (e : TypeId) (x : Operand) (ho : o.op = .box e x) (cs : List AV) (hc : cellsOf (aeval s x) = some cs) (hk : 0 < cs.length) :
    OpOk P o a w H φ N (.ptr H.length 0 0 0) (H ++ [.box e cs.length 0 1 cs]) := by
  obtain ⟨hl, hh, h1⟩ := cellsOf_ok (aeval_ok hT x) hc
  refine ⟨.pointer (some ⟨w.heap.size, 0, none⟩), w.alloc (.cells (a.eval x).cells e), _, N, .inl ?_, hR.new_box e cs.length 1 cs (a.eval x).cells hk (by simp) (by decide) hl hh, Since.new hR _ _ _, ?_⟩
  · simp only [execOp, ho, Instr.box, Sem.run_bind, newVar, newRow, newObj]
    rfl
  · refine .ptr _ _ _ _ _ (.box e cs.length 0 1 cs) (by simp) (Nat.le_refl _) fun _ => ⟨w.heap.size, 1, Phi.put_same _ _ _, by simp⟩

/-! ### load, store -/
def aread (H : AHeap) (n : Nat) : AV → Option (List AV)
  | .ptr id ver i j => oread H id ver i j n
  | .iptr cs => if n ≤ cs.length then some ((cs.take n).map .d) else none
  | _ => none
theorem add_plain (g o j : Nat) : (⟨g, o, none⟩ : Addr).add j = ⟨g, o + j, none⟩ := by unfold Addr.add; split <;> simp_all
theorem aread_ok (hR : Rel H φ N w) {x : AV} {v : Value} (hx : RA H φ N w x v) {n : Nat} {cs : List AV} (h : aread H n x = some cs) :
    cs.length = n ∧ ∃ ad, v = .pointer (some ad) ∧ ∀ t (ht : t < cs.length), ∃ c, w.cell? (ad.add t) = some c ∧ RA H φ N w (cs[t]) c := by
  cases x with
  | ptr id ver i j =>
    cases hx with
    | ptr _ _ _ _ A o ho hv hp =>
    obtain ⟨hl, B, off, rfl, hh⟩ := oread_ok hR (.ptr id ver i j A o ho hv hp) h
    exact ⟨hl, _, rfl, fun t ht => by rw [add_plain]; exact hh t ht⟩
  | iptr ds =>
    simp only [aread] at h
    split at h
    · cases h
      cases hx with
      | iptr _ ad c hc hd =>
      refine ⟨by simp; omega, ad, rfl, fun t ht => ?_⟩
      simp at ht
      exact ⟨c t, (hc t (by omega)).2, by simp only [List.getElem_map, List.getElem_take]; exact .d (hd t (by omega))⟩
    · cases h
  | _ => cases h

theorem ok_load_agg (hR : Rel H φ N w) (hT : TRel H φ N w s a) (t : TypeId) (x : Operand) (ho : o.op = .load t x) (hg : agB P t = some true) (z : Value) (k b : Nat) (hi : TI P t = some (z, k, b))
    (cs : List AV) (h : aread H k (aeval s x) = some cs) : OpOk P o a w H φ N (.agg cs) H := by
  obtain ⟨hl, ad, hv, hh⟩ := aread_ok hR (aeval_ok hT x) h
  let f : Nat → Value := fun t => if ht : t < cs.length then (hh t ht).choose else undef
  have hf : ∀ t (ht : t < cs.length), w.cell? (ad.add t) = some (f t) ∧ RA H φ N w (cs[t]) (f t) := fun t ht => by
    simp only [f, ht, dif_pos]; exact (hh t ht).choose_spec
  have hrun := run_loadCells (P := P) w ad k f fun j hj => (hf j (by omega)).1
  refine .same hR (x := .agg ((List.range k).map f).toArray) (.agg _ _ (by simp [hl]) fun i h1 h2 => ?_) ?_
  · simp only [List.getElem_toArray, List.getElem_map, List.getElem_range]
    exact (hf i h1).2
  · simp only [execOp, ho, hv, Instr.loadAt, Instr.sureAddr, Sem.run_bind, Sem.run_pure, Result.andThen_ok, loadVar, agB.run hg, TI.sizeOf hi, if_true, hrun]
theorem ok_load_one (hR : Rel H φ N w) (hT : TRel H φ N w s a) (t : TypeId) (x : Operand) (ho : o.op = .load t x) (hg : agB P t = some false)
    (c : AV) (h : aread H 1 (aeval s x) = some [c]) : OpOk P o a w H φ N c H := by
  obtain ⟨hl, ad, hv, hh⟩ := aread_ok hR (aeval_ok hT x) h
  obtain ⟨u, hu, hr⟩ := hh 0 (by simp)
  refine .same hR hr ?_
  have hu' : w.cell? ad = some u := by simpa [Addr.add] using hu
  simp only [execOp, ho, hv, Instr.loadAt, Instr.sureAddr, Sem.run_bind, Sem.run_pure, Result.andThen_ok, loadVar, agB.run hg, Bool.false_eq_true, if_false, run_load, hu']

def awrite (H : AHeap) (cs : List AV) : AV → Option AHeap
  | .ptr id ver i j => owrite H id ver i j cs
  | _ => none
theorem ok_store (hR : Rel H φ N w) (hT : TRel H φ N w s a) (t : TypeId) (x y : Operand) (ho : o.op = .store t x y) (z : Value) (k b : Nat) (hi : TI P t = some (z, k, b))
    (cs : List AV) (hc : cellsOf (aeval s y) = some cs) (hk : cs.length = k) (H' : AHeap) (h : awrite H cs (aeval s x) = some H') : OpOk P o a w H φ N .top H' := by
  obtain ⟨hl, hh, h1⟩ := cellsOf_ok (aeval_ok hT y) hc
  have hx := aeval_ok hT x
  cases hp : aeval s x with
  | ptr id ver i j =>
    rw [hp] at h hx
    generalize hv : a.eval x = v at hx
    cases hx with
    | ptr _ _ _ _ A ob hob hv' hq =>
    obtain ⟨ad, w', rfl, hrun, hR', hS⟩ := owrite_ok (P := P) hR (.ptr id ver i j A ob hob hv' hq) (cs := cs) (vs := (a.eval y).cells.toList) (by simpa using hl) (fun t h2 h3 => by
      simp only [Array.getElem_toList]; exact hh t h2 (by simpa using h3)) h1 h
    refine ⟨undef, w', φ, N, .inr ⟨?_, rfl⟩, hR', hS, .top _⟩
    simp only [execOp, ho, hv, Instr.storeAt, Instr.sureAddr, Sem.run_bind, Sem.run_pure, Result.andThen_ok, storeVar, TI.sizeOf hi]
    rw [if_neg (by simp; omega)]
    simp only [Sem.run_bind, Sem.run_pure, Result.andThen_ok, hrun]
  | _ => rw [hp] at h; cases h

/-! ### addresses of fields and elements -/
def FO (P : Program) (t : TypeId) (f : Nat) : Option (Nat × TypeId) :=
  match P.underlying t with
  | some (.struct fields) => (fields[f]?).map fun x => (x.offset, x.type)
  | _ => none
theorem FO.get {t : TypeId} {f off : Nat} {ft : TypeId} (h : FO P t f = some (off, ft)) : ∃ fields fd, P.underlying t = some (.struct fields) ∧ fields[f]? = some fd ∧ fd.offset = off ∧ fd.type = ft := by
  unfold FO at h
  split at h
  · rename_i fields hu
    obtain ⟨fd, hfd, h⟩ := Option.map_eq_some_iff.1 h
    cases h
    exact ⟨fields, fd, hu, hfd, rfl, rfl⟩
  · cases h
def amove (off : Nat) : AV → Option AV
  | .ptr id ver i j => some (.ptr id ver i (j + off))
  | .iptr cs => if off ≤ cs.length then some (.iptr (cs.drop off)) else none
  | _ => none
theorem add_add (ad : Addr) (m n : Nat) : (ad.add m).add n = ad.add (m + n) := by
  unfold Addr.add
  by_cases hm : m = 0
  · subst hm; simp
  · by_cases hn : n = 0
    · subst hn; simp
    · simp [hm, hn, Nat.add_assoc]
theorem amove_ok {off : Nat} {x y : AV} {v : Value} (hx : RA H φ N w x v) (h : amove off x = some y) (hfresh : ∀ id ver i j, x = .ptr id ver i j → ∃ ad, v = .pointer (some ad)) :
    ∃ ad, v = .pointer (some ad) ∧ RA H φ N w y (.pointer (some (ad.add off))) := by
  cases x with
  | ptr id ver i j =>
    cases h
    obtain ⟨ad, rfl⟩ := hfresh id ver i j rfl
    refine ⟨ad, rfl, ?_⟩
    cases hx with
    | ptr _ _ _ _ _ o ho hv hp =>
    refine .ptr _ _ _ _ _ o ho hv fun he => ?_
    obtain ⟨B, c, h1, h2⟩ := hp he
    cases h2
    exact ⟨B, c, h1, by rw [add_plain]; simp [Nat.add_assoc]⟩
  | iptr cs =>
    simp only [amove] at h
    split at h
    · cases h
      cases hx with
      | iptr _ ad c hc hd =>
      refine ⟨ad, rfl, .iptr _ _ (fun t => c (off + t)) (fun t ht => ?_) fun t ht => ?_⟩
      · rw [add_add]
        simp at ht
        exact hc (off + t) (by omega)
      · simp only [List.getElem_drop]
        simp at ht
        exact hd _ (by omega)
    · cases h
  | _ => cases h
/-- Is a pointer one to an object that stands? -/
def fresh (H : AHeap) : AV → Bool
  | .ptr id ver _ _ => match H[id]? with | some o => o.ver == ver | none => false
  | _ => true
theorem fresh_ok {x : AV} {v : Value} (hx : RA H φ N w x v) (h : fresh H x = true) : ∀ id ver i j, x = .ptr id ver i j → ∃ ad, v = .pointer (some ad) := by
  rintro id ver i j rfl
  cases hx with
  | ptr _ _ _ _ _ o ho hv hp =>
  simp only [fresh, ho, beq_iff_eq] at h
  obtain ⟨B, c, h1, rfl⟩ := hp h.symm
  exact ⟨_, rfl⟩
theorem ok_fieldAddr (hR : Rel H φ N w) (hT : TRel H φ N w s a) (t : TypeId) (x : Operand) (f : Nat) (ho : o.op = .fieldAddr t x f) (off : Nat) (ft : TypeId) (hf : FO P t f = some (off, ft))
    (z : Value) (k b : Nat) (hi : TI P ft = some (z, k, b)) (hk : 0 < k) (y : AV) (h : amove off (aeval s x) = some y) (hfr : fresh H (aeval s x) = true) : OpOk P o a w H φ N y H := by
  obtain ⟨fields, fd, hu, hfd, rfl, rfl⟩ := FO.get hf
  obtain ⟨ad, hv, hy⟩ := amove_ok (aeval_ok hT x) h (fresh_ok (aeval_ok hT x) hfr)
  refine .same hR hy ?_
  simp only [execOp, ho, hv, Instr.fieldAt, Instr.sureAddr, Sem.run_bind, Sem.run_pure, Result.andThen_ok, run_underlying hu, hfd, fieldPlace, TI.sizeOf hi]
  rw [if_neg (by omega)]
  simp only [Sem.run_bind, Sem.run_pure, Result.andThen_ok]

/-! ### elements -/
def SE (P : Program) (t : TypeId) : Option TypeId := match P.underlying t with | some (.slice e) => some e | _ => none
theorem SE.get {t e : TypeId} (h : SE P t = some e) : P.underlying t = some (.slice e) := by
  unfold SE at h
  split at h
  · cases h; assumption
  · cases h
def AE (P : Program) (t : TypeId) : Option (Nat × TypeId) := match P.underlying t with | some (.array n e) => some (n, e) | _ => none
theorem AE.get {t e : TypeId} {n : Nat} (h : AE P t = some (n, e)) : P.underlying t = some (.array n e) := by
  unfold AE at h
  split at h
  · cases h; assumption
  · cases h
/-- An element's address: of a list, or of an array of the heap. -/
def aelem (H : AHeap) (k : Nat) (i : Int) : AV → Option AV
  | .d (.list _ es) => if 0 ≤ i then (es[i.toNat]?).bind fun e => if e.length = k then some (.iptr e) else none else none
  | .sl id ver off len => if 0 ≤ i ∧ i < len then (H[id]?).bind fun ob => if ob.ver = ver ∧ ob.k = k then some (.ptr id ver (off + i.toNat) 0) else none else none
  | _ => none
theorem aelem_ok (hR : Rel H φ N w) {k : Nat} {i : Int} {x y : AV} {v : Value} (hx : RA H φ N w x v) (h : aelem H k i x = some y) :
    ∃ ad l c, v = .slice (some ad) l c ∧ 0 ≤ i ∧ i < l ∧ RA H φ N w y (.pointer (some (ad.add (i.toNat * k)))) := by
  cases x with
  | d x =>
    cases x with
    | v _ => cases h
    | list nn es =>
      simp only [aelem] at h
      split at h
      · rename_i h0
        obtain ⟨e, he, h⟩ := Option.bind_eq_some_iff.1 h
        split at h
        · rename_i hk
          cases h
          have hi : i.toNat < es.length := by
            rcases Nat.lt_or_ge i.toNat es.length with h' | h'
            · exact h'
            · simp [List.getElem?_eq_none h'] at he
          rw [List.getElem?_eq_getElem hi] at he
          cases hx with
          | d hd =>
          cases hd with
          | nil => simp at hi
          | list _ _ ad cap k' c hc hk' hh hd =>
          have hkk : k' = k := by rw [← hk, ← Option.some.inj he]; exact (hk' _ (List.getElem_mem hi)).symm
          subst hkk
          refine ⟨ad, es.length, cap, rfl, h0, by omega, .iptr e _ (fun t => c i.toNat t) (fun t ht => ?_) fun t ht => ?_⟩
          · rw [add_add]
            exact hh i.toNat t hi (by omega)
          · have := hd i.toNat hi t (by rw [Option.some.inj he]; exact ht)
            simpa [Option.some.inj he] using this
        · cases h
      · cases h
  | sl id ver off len =>
    simp only [aelem] at h
    split at h
    · rename_i h0
      obtain ⟨ob, hob, h⟩ := Option.bind_eq_some_iff.1 h
      split at h
      · rename_i hv
        cases h
        cases hx with
        | sl _ _ _ _ A l m o' ho' hv' hp =>
        rw [hob] at ho'; cases ho'
        obtain ⟨rfl, h1, h2⟩ := hp hv.1.symm
        rcases h2 with ⟨_, h3, _⟩ | ⟨B, c, h3, h4, rfl, rfl⟩
        · omega
        · refine ⟨_, _, _, rfl, h0.1, h0.2, .ptr _ _ _ _ _ ob hob hv' fun _ => ⟨B, c, h3, ?_⟩⟩
          rw [add_plain, hv.2, Nat.add_mul]
          rfl
      · cases h
    · cases h
  | _ => cases h
theorem ok_indexAddr (hR : Rel H φ N w) (hT : TRel H φ N w s a) (t : TypeId) (x ix : Operand) (ho : o.op = .indexAddr t x ix) (e : TypeId) (ht : SE P t = some e) (z : Value) (k b : Nat) (hi : TI P e = some (z, k, b))
    (ik : IntKind) (i : Int) (hix : aeval s ix = .d (.v (.int ik i))) (y : AV) (h : aelem H k i (aeval s x) = some y) : OpOk P o a w H φ N y H := by
  obtain ⟨ad, l, c, hv, h0, h1, hy⟩ := aelem_ok hR (aeval_ok hT x) h
  have hj := aeval_ok hT ix
  rw [hix] at hj
  have hjv := hj.closed
  refine .same hR hy ?_
  simp only [execOp, ho, hv, hjv, Instr.indexAt, asIntOf, Sem.run_bind, Sem.run_pure, Result.andThen_ok, run_underlying (SE.get ht), TI.sizeOf hi]
  rw [if_pos ⟨h0, h1⟩]
  simp only [Sem.run_bind, Sem.run_pure, Result.andThen_ok, TI.sizeOf hi]
/-- An element of an array in a variable. -/
theorem ok_indexAddr_arr (hR : Rel H φ N w) (hT : TRel H φ N w s a) (t : TypeId) (x ix : Operand) (ho : o.op = .indexAddr t x ix) (n : Nat) (e : TypeId) (ht : AE P t = some (n, e)) (z : Value) (k b : Nat) (hi : TI P e = some (z, k, b))
    (ik : IntKind) (i : Int) (hix : aeval s ix = .d (.v (.int ik i))) (h0 : 0 ≤ i) (h1 : i < n) (y : AV) (h : amove (i.toNat * k) (aeval s x) = some y) (hfr : fresh H (aeval s x) = true) : OpOk P o a w H φ N y H := by
  obtain ⟨ad, hv, hy⟩ := amove_ok (aeval_ok hT x) h (fresh_ok (aeval_ok hT x) hfr)
  have hj := aeval_ok hT ix
  rw [hix] at hj
  have hjv := hj.closed
  refine .same hR hy ?_
  simp only [execOp, ho, hv, hjv, Instr.indexAt, Instr.sureAddr, asIntOf, Sem.run_bind, Sem.run_pure, Result.andThen_ok, run_underlying (AE.get ht), TI.sizeOf hi]
  rw [if_pos ⟨h0, h1⟩]
  simp only [Sem.run_bind, Sem.run_pure, Result.andThen_ok, TI.sizeOf hi]
end
end Go.Proofs.YtfmmemboakdeiaaAw

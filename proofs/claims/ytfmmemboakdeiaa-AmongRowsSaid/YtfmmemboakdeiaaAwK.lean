/- Cuts of owned arrays; clear. -/
import Derived.Test.YtfmmemboakdeiaaAwM
namespace Go.Proofs.YtfmmemboakdeiaaAw
open Go.RowKit
set_option linter.unusedVariables false
set_option linter.unusedSimpArgs false
def setRows (es : List (List D)) (off : Nat) (rows : List (List D)) : List (List D) := es.take off ++ rows ++ es.drop (off + rows.length)
theorem setRows_len (es : List (List D)) (off : Nat) (rows : List (List D)) (h : off + rows.length ≤ es.length) : (setRows es off rows).length = es.length := by simp [setRows]; omega
theorem setRows_get (es : List (List D)) (off : Nat) (rows : List (List D)) (h : off + rows.length ≤ es.length) (i : Nat) : (setRows es off rows)[i]? = if i < off then es[i]? else if i < off + rows.length then rows[i - off]? else es[i]? := splice_get es off rows h i
section
variable {P : Program} {o : Oper} {a : Act} {w : World} {H : AHeap} {φ : Phi} {N : Addr → Prop} {s : Nat → AV}
/-- Rows of cells into an owned array. -/
theorem rows_ok (hR : Rel H φ N w) {id ver : Nat} {e : TypeId} {k : Nat} {es rows : List (List D)} {off B c : Nat} (ho : H[id]? = some (.arr e k ver es)) (hp : φ id = some (B, c)) (hoff : off + rows.length ≤ es.length) (hrk : ∀ r ∈ rows, r.length = k)
    (vs : List Value) (hl : vs.length = rows.length * k) (hone : ∀ v ∈ vs, v.oneCell' = true) (hrd : ∀ i (hi : i < rows.length) j (hj : j < (rows[i]).length), ∃ u, vs[i * k + j]? = some u ∧ RD N w ((rows[i])[j]) u) :
    ∃ w', (storeCells ⟨B, off * k, none⟩ vs 0).run P w = .ok () w' ∧ Rel (H.set id (.arr e k ver (setRows es off rows))) φ N w' ∧ Since H φ N w (H.set id (.arr e k ver (setRows es off rows))) φ N w' := by
  have hob := hR.obj id _ ho
  cases hob with
  | arr _ _ _ _ hk hes hb =>
  rcases hb with ⟨h0, _⟩ | ⟨B', cap, cur, e1, e2, e3, e4, e5, e6⟩
  · rw [h0] at hp; cases hp
  · have hpB := e1
    rw [e1] at hp; cases hp
    have hroom : off * k + vs.length ≤ cur.size := by
      have := Nat.mul_le_mul_right k (show off + rows.length ≤ c by omega)
      rw [Nat.add_mul] at this
      omega
    refine ⟨_, run_storeCells_at (P := P) B (off * k) e vs 0 cur w e2 (by omega) hone, ?_⟩
    simp only [Nat.add_zero]
    generalize hnew : (cur.toList.take (off * k) ++ vs ++ cur.toList.drop (off * k + vs.length)).toArray = cur'
    have hS : Since H φ N w (H.set id (.arr e k ver (setRows es off rows))) φ N (w.setRow B cur') :=
      Since.set ho hpB rfl rfl (by simp [AObj.len, setRows_len _ _ _ hoff]) (fun kk es he => by cases he) (by simp) (by simp) (by simp) (by simp) (fun k hk => setRow_other w B k cur' hk)
    refine ⟨hR.set ho hpB hS (fun k hk => setRow_other w B k cur' hk) ?_, hS⟩
    refine .arr e k ver _ hk ?_ (.inr ⟨B, c, cur', hpB, setRow_heap w B cur cur' e (0, 0) e2, by rw [setRows_len _ _ _ hoff]; exact e3, e4, ?_, ?_⟩)
    · intro x hx
      unfold setRows at hx
      rcases List.mem_append.1 hx with hx | hx
      · rcases List.mem_append.1 hx with hx | hx
        · exact hes x (List.mem_of_mem_take hx)
        · exact hrk x hx
      · exact hes x (List.mem_of_mem_drop hx)
    · rw [← hnew, ← e5]; simp; omega
    · intro i hi j hj
      have hget := array_splice cur (off * k) vs hroom (i * k + j)
      rw [hnew] at hget
      rw [setRows_len _ _ _ hoff] at hi
      have hsp := setRows_get es off rows hoff i
      rw [List.getElem?_eq_getElem (by rw [setRows_len _ _ _ hoff]; exact hi)] at hsp
      have hjk : j < k := by
        have hm : (setRows es off rows)[i]'(by rw [setRows_len _ _ _ hoff]; exact hi) ∈ setRows es off rows := List.getElem_mem _
        have hlen : ∀ x ∈ setRows es off rows, x.length = k := by
          intro x hx
          unfold setRows at hx
          rcases List.mem_append.1 hx with hx | hx
          · rcases List.mem_append.1 hx with hx | hx
            · exact hes x (List.mem_of_mem_take hx)
            · exact hrk x hx
          · exact hes x (List.mem_of_mem_drop hx)
        rw [hlen _ hm] at hj; exact hj
      by_cases a1 : i < off
      · rw [if_pos a1, List.getElem?_eq_getElem hi] at hsp
        have h1 := place_lt hjk a1
        rw [if_pos h1] at hget
        have hx := Option.some.inj hsp
        obtain ⟨c', hc', hd'⟩ := e6 i hi j (by rw [← hx]; exact hj)
        refine ⟨c', hget.trans hc', ?_⟩
        simp only [hx]
        exact hd'.since hR hS
      · rw [if_neg a1] at hsp
        have h1 : ¬ i * k + j < off * k := by
          have := Nat.mul_le_mul_right k (show off ≤ i by omega)
          omega
        rw [if_neg h1] at hget
        by_cases a2 : i < off + rows.length
        · rw [if_pos a2, List.getElem?_eq_getElem (show i - off < rows.length by omega)] at hsp
          have hx := Option.some.inj hsp
          have hq : i * k + j - off * k = (i - off) * k + j := by
            have : i * k = (i - off) * k + off * k := by rw [← Nat.add_mul]; congr 1; omega
            omega
          have h2 : i * k + j < off * k + vs.length := by
            have h3 := place_lt hjk (show i - off < rows.length by omega)
            have : i * k = (i - off) * k + off * k := by rw [← Nat.add_mul]; congr 1; omega
            omega
          rw [if_pos h2, hq] at hget
          obtain ⟨u, hu, hd'⟩ := hrd (i - off) (by omega) j (by rw [← hx]; exact hj)
          refine ⟨u, hget.trans hu, ?_⟩
          simp only [hx]
          exact hd'.since hR hS
        · rw [if_neg a2, List.getElem?_eq_getElem hi] at hsp
          have hx := Option.some.inj hsp
          have h2 : ¬ i * k + j < off * k + vs.length := by
            have := Nat.mul_le_mul_right k (show off + rows.length ≤ i by omega)
            rw [Nat.add_mul] at this
            omega
          rw [if_neg h2] at hget
          obtain ⟨c', hc', hd'⟩ := e6 i hi j (by rw [← hx]; exact hj)
          refine ⟨c', hget.trans hc', ?_⟩
          simp only [hx]
          exact hd'.since hR hS
def zrows (z : Value) (n : Nat) : List (List D) := List.replicate n (z.cells.toList.map D.v)
theorem ok_clear (hR : Rel H φ N w) (hT : TRel H φ N w s a) (x : Operand) (t : TypeId) (ho : o.op = .call { callee := .builtin .clear, args := #[x], argTypes := #[t] }) (e : TypeId) (ht : SE P t = some e) (z : Value) (k b : Nat) (hi : TI P e = some (z, k, b)) (hz : z.cells.size = k) (h1 : z.cells.all Value.oneCell' = true)
    (id ver off len : Nat) (es : List (List D)) (hx : aeval s x = .sl id ver off len) (hob : H[id]? = some (.arr e k ver es)) : OpOk P o a w H φ N (.tup []) (H.set id (.arr e k ver (setRows es off (zrows z len)))) := by
  have hx' := aeval_ok hT x
  rw [hx] at hx'
  generalize hv : a.eval x = v at hx'
  cases hx' with
  | sl _ _ _ _ A l m o' ho' hver hh =>
  rw [hob] at ho'; cases ho'
  obtain ⟨rfl, h2, h3⟩ := hh rfl
  simp only [AObj.len, AObj.k] at h2 h3
  cases l with
  | zero =>
    have e0 : setRows es off (zrows z 0) = es := by simp [setRows, zrows]
    rw [e0]
    have e1 : H.set id (.arr e k ver es) = H := by
      apply List.ext_getElem?
      intro j
      rw [List.getElem?_set]
      by_cases hj : id = j
      · subst hj; rw [if_pos rfl, if_pos (len_of_get hob), hob]
      · rw [if_neg hj]
    rw [e1]
    refine .same hR (x := .tuple #[]) (.tup [] #[] rfl fun i h1 => by simp at h1) ?_
    cases A with
    | none => simp [execOp, ho, resolve, invoke, Go.builtin, Builtin.clear_, hv, run_underlying (SE.get ht)]
    | some ad => simp [execOp, ho, resolve, invoke, Go.builtin, Builtin.clear_, hv, run_underlying (SE.get ht)]
  | succ l =>
    rcases h3 with ⟨_, h3, _⟩ | ⟨B, c, h3, h4, rfl, rfl⟩
    · omega
    · have hrl : (zrows z (l + 1)).length = l + 1 := by simp [zrows]
      have hzc : (Builtin.zeroCells z.cells (l + 1)).toList.length = (l + 1) * k := by simp [Builtin.zeroCells, hz]
      have hpos : 0 < k := by
        have hobj := hR.obj id _ hob
        cases hobj with
        | arr _ _ _ _ hk _ _ => exact hk
      have hzget : ∀ i, i < (l + 1) * k → (Builtin.zeroCells z.cells (l + 1)).toList[i]? = some (z.cells.toList[i % k]'(by have := Nat.mod_lt i hpos; simpa [hz] using this)) := by
        intro i hi
        have hlt : i % k < z.cells.size := by rw [hz]; exact Nat.mod_lt i hpos
        simp only [Builtin.zeroCells, Array.getElem?_toList, Array.getElem?_map, hz]
        rw [Array.getElem?_range, if_pos hi]
        simp [getElem!_pos z.cells (i % k) hlt]
      have hall := h1
      rw [Array.all_eq_true] at hall
      obtain ⟨w', hrun, hR', hS'⟩ := rows_ok (P := P) hR hob h3 (off := off) (rows := zrows z (l + 1)) (by rw [hrl]; exact h2) (fun r hr => by rw [List.eq_of_mem_replicate hr]; simp [hz]) (Builtin.zeroCells z.cells (l + 1)).toList (by rw [hzc, hrl])
        (fun v hv => by
          obtain ⟨i, hi⟩ := List.getElem?_of_mem hv
          have hlt := (List.getElem?_eq_some_iff.1 hi).1
          rw [hzc] at hlt
          rw [hzget i hlt] at hi
          rw [← Option.some.inj hi]
          simpa using hall (i % k) (by rw [hz]; exact Nat.mod_lt i hpos))
        (fun i hi j hj => by
          rw [hrl] at hi
          have hr : (zrows z (l + 1))[i]'(by rw [hrl]; exact hi) = z.cells.toList.map D.v := by simp [zrows]
          simp only [hr] at hj ⊢
          have hjk : j < k := by simpa [hz] using hj
          refine ⟨_, hzget _ (place_lt hjk hi), ?_⟩
          have hmod : (i * k + j) % k = j := by rw [Nat.mul_comm, Nat.mul_add_mod]; exact Nat.mod_eq_of_lt hjk
          simp only [hmod, List.getElem_map]
          exact .v _ (by simpa using hall j (by rw [hz]; exact hjk)))
      refine ⟨_, w', φ, N, .inl ?_, hR', hS', .tup [] #[] rfl fun i h1 => by simp at h1⟩
      simp [execOp, ho, resolve, invoke, Go.builtin, Builtin.clear_, hv, run_underlying (SE.get ht), TI.zero hi, hrun]
/-- A cut of an owned array. -/
theorem ok_slice_sl (hR : Rel H φ N w) (hT : TRel H φ N w s a) (t : TypeId) (x : Operand) (lo hi : Option Operand) (ho : o.op = .slice t x lo hi none) (e : TypeId) (ht : SE P t = some e) (z : Value) (k b : Nat) (hi' : TI P e = some (z, k, b))
    (id ver off len : Nat) (hx : aeval s x = .sl id ver off len) (ob : AObj) (hob : H[id]? = some ob) (hver : ob.ver = ver) (hk : ob.k = k) (l h : Int) (hl : sliceLo s lo = some l) (hh : sliceHi s len hi = some h) (h0 : 0 ≤ l) (h1 : l ≤ h) (h2 : h ≤ len) (h3 : l = 0 ∨ l < h) :
    OpOk P o a w H φ N (.sl id ver (off + l.toNat) (h.toNat - l.toNat)) H := by
  have hxa := aeval_ok hT x
  rw [hx] at hxa
  generalize hv : a.eval x = v at hxa
  cases hxa with
  | sl _ _ _ _ A l' m o' ho' hver' hp =>
  rw [hob] at ho'; cases ho'
  obtain ⟨rfl, g1, g2⟩ := hp hver.symm
  rcases g2 with ⟨g3, rfl, rfl, rfl⟩ | ⟨B, c, g3, g4, rfl, rfl⟩
  · have hl0 : l = 0 := by omega
    have hh0 : h = 0 := by omega
    subst hl0 hh0
    refine .same hR (x := .slice (if (0 : Nat) = 0 then A else A.map (·.add (0 * k))) 0 0) ?_ ?_
    · exact .sl id ver _ _ _ _ _ _ hob hver' fun _ => ⟨rfl, by simp, .inl ⟨g3, rfl, rfl, rfl⟩⟩
    · simp [execOp, ho, hv, Instr.sliceAt, Instr.slice, run_underlying (SE.get ht), bounds_run hT true 0 0 hl hh (by omega) (by omega) (by omega), TI.sizeOf hi']
  · refine .same hR (x := .slice (if c - off = l.toNat then some ⟨B, off * ob.k, none⟩ else some ((⟨B, off * ob.k, none⟩ : Addr).add (l.toNat * k))) (h.toNat - l.toNat) (c - off - l.toNat)) ?_ ?_
    · refine .sl id ver _ _ _ _ _ _ hob hver' fun _ => ⟨rfl, by omega, .inr ⟨B, c, g3, by omega, ?_, by omega⟩⟩
      by_cases hc : c - off = l.toNat
      · rw [if_pos hc]
        have : l.toNat = 0 := by omega
        rw [this, Nat.add_zero]
      · rw [if_neg hc, add_plain, hk, Nat.add_mul]
    · simp [execOp, ho, hv, Instr.sliceAt, Instr.slice, run_underlying (SE.get ht), bounds_run hT true l' (c - off) hl hh h0 h1 (by omega), TI.sizeOf hi']
end
end Go.Proofs.YtfmmemboakdeiaaAw

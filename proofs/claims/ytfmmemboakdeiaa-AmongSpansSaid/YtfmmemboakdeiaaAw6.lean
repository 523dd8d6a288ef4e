/- append. -/
import Derived.Test.YtfmmemboakdeiaaAw5
namespace Go.Proofs.YtfmmemboakdeiaaAw
open Go.RowKit
set_option linter.unusedVariables false
set_option linter.unusedSimpArgs false

/-- The elements of a slice that is read. -/
def asrc (H : AHeap) : AV → Option (List (List D))
  | .d (.list _ es) => some es
  | .d (.v (.slice none 0 0)) => some []
  | .cap0 => some []
  | .sl id ver off len => match H[id]? with | some (.arr _ _ v es) => if v = ver then some ((es.drop off).take len) else none | _ => none
  | _ => none

structure Src (N : Addr → Prop) (w : World) (k : Nat) (es : List (List D)) (A : Option Addr) (news : List Value) : Prop where
  len : news.length = es.length * k
  nil : A = none → es = []
  cells : ∀ ad, A = some ad → ∀ j u, news[j]? = some u → w.cell? (ad.add j) = some u
  rel : ∀ i (hi : i < es.length) j (hj : j < (es[i]).length), ∃ u, news[i * k + j]? = some u ∧ RD N w ((es[i])[j]) u
  one : ∀ u ∈ news, u.oneCell' = true

theorem Src.empty (N : Addr → Prop) (w : World) (k : Nat) (A : Option Addr) : Src N w k [] A [] :=
  ⟨by simp, fun _ => rfl, fun _ _ j u h => by simp at h, fun i hi => by simp at hi, fun u h => by simp at h⟩

theorem asrc_ok {H : AHeap} {φ : Phi} {N : Addr → Prop} {w : World} (hR : Rel H φ N w) {x : AV} {v : Value} (hx : RA H φ N w x v) {k : Nat} {es : List (List D)} (h : asrc H x = some es) (hk : ∀ e ∈ es, e.length = k) :
    ∃ A c news, v = .slice A es.length c ∧ Src N w k es A news := by
  cases x with
  | d x =>
    cases x with
    | v x =>
      have := hx.closed
      subst this
      unfold asrc at h
      split at h
      · rename_i h'; cases h'
      · rename_i h'; cases h'; cases h; exact ⟨none, 0, [], rfl, Src.empty N w k none⟩
      · rename_i h'; cases h'
      · rename_i h'; cases h'
      · cases h
    | list nn es' =>
      simp only [asrc, Option.some.injEq] at h
      subst h
      cases hx with
      | d hd =>
      cases hd with
      | nil A c => exact ⟨A, c, [], rfl, Src.empty N w k A⟩
      | list _ _ ad cap k' c hc hk' hh hd =>
      by_cases h0 : es' = []
      · subst h0; exact ⟨some ad, cap, [], rfl, Src.empty N w k _⟩
      have hkk : k' = k := by
        cases es' with
        | nil => exact absurd rfl h0
        | cons e r => rw [← hk' e (by simp), hk e (by simp)]
      subst hkk
      have hlen : ∀ i (hi : i < es'.length), (es'[i]).length = k' := fun i hi => hk' _ (List.getElem_mem hi)
      have hget : ∀ p, p < es'.length * k' → ((List.range (es'.length * k')).map fun p => c (p / k') (p % k'))[p]? = some (c (p / k') (p % k')) := fun p hp => by simp [hp]
      have hdm : ∀ i j, j < k' → (i * k' + j) / k' = i ∧ (i * k' + j) % k' = j := by
        intro i j hj
        constructor
        · rw [Nat.mul_comm, Nat.mul_add_div (by omega), Nat.div_eq_of_lt hj]; omega
        · rw [Nat.mul_comm, Nat.mul_add_mod, Nat.mod_eq_of_lt hj]
      refine ⟨some ad, cap, (List.range (es'.length * k')).map fun p => c (p / k') (p % k'), rfl, by simp, fun e => (by cases e), fun ad' e j u hu => ?_, fun i hi j hj => ?_, fun u hu => ?_⟩
      · cases e
        have hj : j < es'.length * k' := by
          rcases Nat.lt_or_ge j (es'.length * k') with h' | h'
          · exact h'
          · rw [List.getElem?_eq_none (by simpa using h')] at hu; cases hu
        rw [hget j hj] at hu
        cases hu
        have hk0 : 0 < k' := by rcases Nat.eq_zero_or_pos k' with h | h; (subst h; simp at hj); exact h
        have hdi : j / k' < es'.length := (Nat.div_lt_iff_lt_mul hk0).2 hj
        have := (hh (j / k') (j % k') hdi (Nat.mod_lt _ hk0)).2
        rwa [Nat.mul_comm, Nat.div_add_mod] at this
      · have hj' : j < k' := by rw [← hlen i hi]; exact hj
        refine ⟨_, hget _ (place_lt hj' hi), ?_⟩
        rw [(hdm i j hj').1, (hdm i j hj').2]
        exact hd i hi j hj
      · obtain ⟨p, hp, rfl⟩ := List.mem_map.1 hu
        simp at hp
        have hk0 : 0 < k' := by rcases Nat.eq_zero_or_pos k' with h | h; (subst h; simp at hp); exact h
        have hdi : p / k' < es'.length := (Nat.div_lt_iff_lt_mul hk0).2 hp
        exact (hd (p / k') hdi (p % k') (by rw [hlen _ hdi]; exact Nat.mod_lt _ hk0)).one
  | cap0 => cases h; cases hx with | cap0 A => exact ⟨A, 0, [], rfl, Src.empty N w k A⟩
  | sl id ver off len =>
    cases hx with
    | sl _ _ _ _ A l m ob ho hv hp =>
    simp only [asrc, ho] at h
    cases ob with
    | arr e k' v es' =>
      simp only at h
      split at h
      · rename_i hvv
        cases h
        obtain ⟨rfl, h1, h2⟩ := hp (by simp [AObj.ver]; omega)
        simp only [AObj.len] at h1
        have hob := hR.obj id _ ho
        cases hob with
        | arr _ _ _ _ hk0 hes hb =>
        have hel : ((es'.drop off).take l).length = l := by simp; omega
        by_cases h0 : l = 0
        · subst h0; exact ⟨A, m, [], by simp, by simpa using Src.empty N w k A⟩
        have hkk : k' = k := by
          have hi : off < es'.length := by omega
          have hmem : es'[off] ∈ (es'.drop off).take l := by
            rw [List.mem_iff_getElem]
            exact ⟨0, by simp; omega, by simp⟩
          rw [← hes _ (List.getElem_mem hi), hk _ hmem]
        subst hkk
        rcases h2 with ⟨_, h3, _⟩ | ⟨B, cp, h3, h4, rfl, rfl⟩
        · omega
        rcases hb with ⟨g0, _⟩ | ⟨B', cap, cur, g1, g2, g3, g4, g5, g6⟩
        · rw [g0] at h3; cases h3
        rw [g1] at h3; cases h3
        have hb' : off * k' + l * k' ≤ cur.size := by
          have := Nat.mul_le_mul_right k' h4
          rw [Nat.add_mul] at this
          omega
        refine ⟨_, _, (cur.toList.drop (off * k')).take (l * k'), by rw [hel], ⟨by rw [hel]; simp; omega, fun e => (by cases e), fun ad e j u hu => ?_, fun i hi j hj => ?_, fun u hu => ?_⟩⟩
        · cases e
          rw [add_plain]
          simp only [AObj.k, World.cell?, g2]
          rw [List.getElem?_take] at hu
          split at hu
          · rw [List.getElem?_drop] at hu
            simpa using hu
          · cases hu
        · rw [hel] at hi
          simp only [List.getElem_take, List.getElem_drop] at hj ⊢
          obtain ⟨c, hc, hd⟩ := g6 (off + i) (by omega) j hj
          have hjk : j < k' := by rw [← hes _ (List.getElem_mem (show off + i < es'.length by omega))]; exact hj
          refine ⟨c, ?_, hd⟩
          rw [List.getElem?_take, if_pos (place_lt hjk hi), List.getElem?_drop]
          rw [Nat.add_mul] at hc
          simpa [Nat.add_assoc] using hc
        · obtain ⟨p, hp', rfl⟩ := List.mem_iff_getElem.1 hu
          simp at hp'
          simp only [List.getElem_take, List.getElem_drop, Array.getElem_toList]
          have hdi : p / k' < l := (Nat.div_lt_iff_lt_mul hk0).2 (by omega)
          have hlen := hes _ (List.getElem_mem (show off + p / k' < es'.length by omega))
          obtain ⟨c, hc, hd⟩ := g6 (off + p / k') (by omega) (p % k') (by rw [hlen]; exact Nat.mod_lt _ hk0)
          have hpp : (off + p / k') * k' + p % k' = off * k' + p := by
            rw [Nat.add_mul, Nat.add_assoc]
            congr 1
            rw [Nat.mul_comm]; exact Nat.div_add_mod p k'
          rw [hpp, Array.getElem?_eq_getElem (by omega)] at hc
          rw [Option.some.inj hc]
          exact hd.one
      · cases h
    | _ => cases h
  | _ => cases h

/-! ### T4: an array goes on, where it lies or elsewhere -/
theorem Since.grow {H : AHeap} {φ : Phi} {N : Addr → Prop} {w w' : World} {id : Nat} {e : TypeId} {k ver : Nat} {es es' : List (List D)} (ho : H[id]? = some (.arr e k ver es)) (row : Option Nat) (p : Option (Nat × Nat))
    (hrow : ∀ B, row = some B → ∃ c, φ id = some (B, c)) (hg : w.grownBy w' row) (hp : ∀ B c, p = some (B, c) → row = some B ∨ w.heap.size ≤ B) :
    Since H φ N w (H.set id (.arr e k (ver + 1) es')) (φ.put id p) N w' where
  len := by simp
  os := hg.os
  tape := hg.tape
  output := hg.output
  size := hg.size
  keep k' hk' hn := hg.block k' hk' fun e' => by
    obtain ⟨c, hc⟩ := hrow k' e'.symm
    exact hn id c (len_of_get ho) hc
  own id' B c hid h hB := by
    by_cases e1 : id' = id
    · subst e1
      rw [Phi.put_same] at h
      rcases hp B c h with h' | h'
      · obtain ⟨c', hc'⟩ := hrow B h'
        exact ⟨id', c', by simpa using hid, hc'⟩
      · omega
    · rw [Phi.put_other _ _ _ _ e1] at h
      exact ⟨id', c, by simpa using hid, h⟩
  mono _ h := h
  compat id' o1 h := by
    by_cases e1 : id' = id
    · subst e1
      rw [ho] at h; cases h
      exact ⟨_, List.getElem?_set_self (len_of_get ho), rfl, by simp [AObj.ver], fun e2 => by simp [AObj.ver] at e2, fun kk es he => by cases he⟩
    · exact ⟨o1, by rw [List.getElem?_set_ne (Ne.symm e1)]; exact h, rfl, Nat.le_refl _, fun _ => ⟨Phi.put_other _ _ _ _ e1, Nat.le_refl _⟩, fun kk es he => ⟨Phi.put_other _ _ _ _ e1, es, he⟩⟩

theorem Rel.grow {H : AHeap} {φ : Phi} {N : Addr → Prop} {w w' : World} (hR : Rel H φ N w) {id : Nat} {e : TypeId} {k ver : Nat} {es es' : List (List D)} (ho : H[id]? = some (.arr e k ver es)) (row : Option Nat) (p : Option (Nat × Nat))
    (hrow : ∀ B, row = some B → ∃ c, φ id = some (B, c)) (hg : w.grownBy w' row) (hp : ∀ B c, p = some (B, c) → row = some B ∨ w.heap.size ≤ B)
    (hnew : RObj (H.set id (.arr e k (ver + 1) es')) (φ.put id p) N w' id (.arr e k (ver + 1) es')) : Rel (H.set id (.arr e k (ver + 1) es')) (φ.put id p) N w' where
  obj id' o1 h := by
    by_cases e1 : id' = id
    · subst e1
      rw [List.getElem?_set_self (len_of_get ho)] at h; cases h
      exact hnew
    · rw [List.getElem?_set_ne (Ne.symm e1)] at h
      refine (hR.obj id' o1 h).keep hR (Since.grow ho row p hrow hg hp) (Phi.put_other _ _ _ _ e1) fun B c hb => hg.block B ((hR.obj id' o1 h).block_lt hb) fun e2 => ?_
      obtain ⟨c', hc'⟩ := hrow B e2.symm
      exact e1 (hR.inj id' id B c c' (len_of_get h) (len_of_get ho) hb hc')
  inj i j B c c' hi hj h1 h2 := by
    simp at hi hj
    have aux : ∀ i B c, i < H.length → i ≠ id → φ i = some (B, c) → ∀ c', p = some (B, c') → False := by
      intro i B c hi hne hb c' hc'
      rcases hp B c' hc' with h' | h'
      · obtain ⟨c2, hc2⟩ := hrow B h'
        exact hne (hR.inj i id B c c2 hi (len_of_get ho) hb hc2)
      · exact absurd (hR.block_lt hi hb) (by omega)
    by_cases e1 : i = id <;> by_cases e2 : j = id
    · omega
    · subst e1
      rw [Phi.put_same] at h1
      rw [Phi.put_other _ _ _ _ e2] at h2
      exact (aux j B c' hj e2 h2 c h1).elim
    · subst e2
      rw [Phi.put_same] at h2
      rw [Phi.put_other _ _ _ _ e1] at h1
      exact (aux i B c hi e1 h1 c' h2).elim
    · rw [Phi.put_other _ _ _ _ e1] at h1
      rw [Phi.put_other _ _ _ _ e2] at h2
      exact hR.inj i j B c c' hi hj h1 h2
  live a ha := by
    obtain ⟨v, hv⟩ := hR.live a ha
    refine ⟨v, ?_⟩
    rw [World.cell?_of_block (w := w) (hg.block a.block (World.block_lt_of_cell? w a hv) fun e2 => ?_)]
    · exact hv
    · obtain ⟨c', hc'⟩ := hrow a.block e2.symm
      exact hR.apart a id _ c' ha (len_of_get ho) hc' rfl
  apart a id' B c ha hid hb := by
    by_cases e1 : id' = id
    · subst e1
      rw [Phi.put_same] at hb
      rcases hp B c hb with h' | h'
      · obtain ⟨c', hc'⟩ := hrow B h'
        exact hR.apart a id' B c' ha (len_of_get ho) hc'
      · have := hR.live_lt ha
        omega
    · rw [Phi.put_other _ _ _ _ e1] at hb
      exact hR.apart a id' B c ha (by simpa using hid) hb

section
variable {P : Program} {o : Oper} {a : Act} {w : World} {H : AHeap} {φ : Phi} {N : Addr → Prop} {s : Nat → AV}

theorem run_append_none (t ty e : TypeId) (i : TypeInfo) (ht : P.underlying t = some (.slice e)) (hi : P.info? e = some i) (A : Option Addr) (n cap c : Nat) (hn : n ≤ cap) (w : World) :
    (Builtin.append_ #[t, t] ty #[.slice A n cap, .slice none 0 c]).run P w = .ok (.slice A n cap) w := by
  cases A <;> simp [Builtin.append_, run_underlying ht, sizeOf, typeInfo, hi, Builtin.lenOf, Builtin.firstCells, hn, storeCells]
theorem run_append_zero (t ty e : TypeId) (i : TypeInfo) (ht : P.underlying t = some (.slice e)) (hi : P.info? e = some i) (A : Option Addr) (n cap c : Nat) (hn : n ≤ cap) (B : Addr) (w : World) :
    (Builtin.append_ #[t, t] ty #[.slice A n cap, .slice (some B) 0 c]).run P w = .ok (.slice A n cap) w := by
  cases A <;> simp [Builtin.append_, run_underlying ht, sizeOf, typeInfo, hi, Builtin.lenOf, Builtin.firstCells, hn, storeCells, loadCells, loadCellsFrom]

/-- The new row of a new array: what is told of its cells. -/
theorem src_rows {k : Nat} {es news : List (List D)} {cs vs : List Value} (hl : cs.length = es.length * k) (hes : ∀ e ∈ es, e.length = k) (hnews : ∀ e ∈ news, e.length = k) (R : D → Value → Prop)
    (h1 : ∀ i (hi : i < es.length) j (hj : j < (es[i]).length), ∃ u, cs[i * k + j]? = some u ∧ R ((es[i])[j]) u)
    (h2 : ∀ i (hi : i < news.length) j (hj : j < (news[i]).length), ∃ u, vs[i * k + j]? = some u ∧ R ((news[i])[j]) u) :
    ∀ i (hi : i < (es ++ news).length) j (hj : j < ((es ++ news)[i]).length), ∃ u, (cs ++ vs)[i * k + j]? = some u ∧ R (((es ++ news)[i])[j]) u := by
  intro i hi j hj
  rcases Nat.lt_or_ge i es.length with h | h
  · have hj' : j < (es[i]).length := by rw [List.getElem_append_left h] at hj; exact hj
    obtain ⟨u, hu, hr⟩ := h1 i h j hj'
    refine ⟨u, ?_, ?_⟩
    · rw [List.getElem?_append_left (by rw [hl]; exact place_lt (by rw [← hes _ (List.getElem_mem h)]; exact hj') h)]; exact hu
    · simpa only [List.getElem_append_left h] using hr
  · have hi' : i - es.length < news.length := by simp at hi; omega
    have hj' : j < (news[i - es.length]).length := by rw [List.getElem_append_right h] at hj; exact hj
    obtain ⟨u, hu, hr⟩ := h2 _ hi' j hj'
    have hm : (i - es.length) * k + es.length * k = i * k := by rw [← Nat.add_mul]; congr 1; omega
    refine ⟨u, ?_, ?_⟩
    · rw [List.getElem?_append_right (by rw [hl]; omega), hl]
      have : i * k + j - es.length * k = (i - es.length) * k + j := by omega
      rw [this]; exact hu
    · simpa only [List.getElem_append_right h] using hr

set_option maxHeartbeats 1000000 in
/-- append to an array of the heap. -/
theorem append_core (hR : Rel H φ N w) (ty t e : TypeId) (ht : SE P t = some e) (z : Value) (k b : Nat) (hi : TI P e = some (z, k, b)) (hz : z.cells.size = k) (id ver : Nat) (es news : List (List D)) (xv yv : Value) (y : AV)
    (hxa : RA H φ N w (.sl id ver 0 es.length) xv) (hya : RA H φ N w y yv) (hob : H[id]? = some (.arr e k ver es))
    (hy : asrc H y = some news) (hk : ∀ c ∈ news, c.length = k) (hb : (es.length + news.length) * b ≤ 140737488355328) (hm : es.length + news.length ≤ 9223372036854775807) :
    ∃ v' w' φ', (Builtin.append_ #[t, t] ty #[xv, yv]).run P w = .ok v' w' ∧ Rel (H.set id (.arr e k (ver + 1) (es ++ news))) φ' N w' ∧ Since H φ N w (H.set id (.arr e k (ver + 1) (es ++ news))) φ' N w' ∧
      RA (H.set id (.arr e k (ver + 1) (es ++ news))) φ' N w' (.sl id (ver + 1) 0 (es.length + news.length)) v' := by
  obtain ⟨i, hii, hzz, rfl, rfl⟩ := TI.info hi
  have hse := SE.get ht
  obtain ⟨A, c, nv, rfl, hsrc⟩ := asrc_ok hR hya hy hk
  cases hxa with
  | sl _ _ _ _ A' l m ob ho' hv' hp =>
  rw [hob] at ho'; cases ho'
  obtain ⟨rfl, _, h2⟩ := hp rfl
  have hobj := hR.obj id _ hob
  cases hobj with
  | arr _ _ _ _ hk0 hes hbl =>
  have hall : ∀ c ∈ es ++ news, c.length = i.size := fun c hc => by rcases List.mem_append.1 hc with h | h; exact hes c h; exact hk c h
  by_cases hn0 : news.length = 0
  · -- nothing is appended: the value and the world stay
    have hnews : news = [] := List.eq_nil_of_length_eq_zero hn0
    subst hnews
    have hrun : (Builtin.append_ #[t, t] ty #[.slice A' es.length m, .slice A 0 c]).run P w = .ok (.slice A' es.length m) w := by
      have hle : es.length ≤ m := by
        rcases h2 with ⟨_, h3, _, h5⟩ | ⟨B, cp, _, h4, _, h5⟩ <;> omega
      cases A with
      | none => exact run_append_none t ty e i hse hii A' _ _ c hle w
      | some B => exact run_append_zero t ty e i hse hii A' _ _ c hle B w
    have hS : Since H φ N w (H.set id (.arr e i.size (ver + 1) (es ++ []))) (φ.put id (φ id)) N w :=
      Since.grow hob (φ id |>.map (·.1)) (φ id) (fun B hB => by cases hq : φ id with | none => simp [hq] at hB | some p => simp [hq] at hB; exact ⟨p.2, by rw [← hB]⟩) ⟨rfl, rfl, rfl, Nat.le_refl _, fun _ _ _ => rfl⟩
        (fun B c hq => .inl (by simp [hq]))
    refine ⟨.slice A' es.length m, w, φ.put id (φ id), hrun, ?_, hS, ?_⟩
    · refine hR.grow hob (φ id |>.map (·.1)) (φ id) (fun B hB => by cases hq : φ id with | none => simp [hq] at hB | some p => simp [hq] at hB; exact ⟨p.2, by rw [← hB]⟩) ⟨rfl, rfl, rfl, Nat.le_refl _, fun _ _ _ => rfl⟩
        (fun B c hq => .inl (by simp [hq])) (.arr e i.size _ _ hk0 hall ?_)
      rcases hbl with ⟨g0, g1⟩ | ⟨B, cap, cur, g1, g2, g3, g4, g5, g6⟩
      · exact .inl ⟨(Phi.put_same _ _ _).trans g0, by simpa using g1⟩
      · exact .inr ⟨B, cap, cur, (Phi.put_same _ _ _).trans g1, g2, by simpa using g3, g4, g5, by simpa using g6⟩
    · refine .sl _ _ _ _ _ _ _ (.arr e i.size (ver + 1) (es ++ [])) (List.getElem?_set_self (len_of_get hob)) (Nat.le_refl _) fun _ => ⟨by simp, by simp [AObj.len], ?_⟩
      rcases h2 with ⟨h3, h4, h5, h6⟩ | ⟨B, cp, h3, h4, h5, h6⟩
      · exact .inl ⟨(Phi.put_same _ _ _).trans h3, by simpa using h4, rfl, h6⟩
      · exact .inr ⟨B, cp, (Phi.put_same _ _ _).trans h3, by simpa using h4, by simpa [AObj.k] using h5, h6⟩
  · -- it grows
    obtain ⟨ad, rfl⟩ : ∃ ad, A = some ad := by
      cases A with
      | none => exact absurd (by rw [hsrc.nil rfl]; rfl) hn0
      | some ad => exact ⟨ad, rfl⟩
    have hcells := hsrc.cells ad rfl
    have h63 : es.length + news.length ≤ maxLen := by simpa [maxLen] using hm
    -- what a new row holds
    have fin : ∀ (w' : World) (B cap : Nat) (cur : Array Value) (cs : List Value), (Builtin.append_ #[t, t] ty #[.slice A' es.length m, .slice (some ad) news.length c]).run P w = .ok (.slice (some ⟨B, 0, none⟩) (es.length + news.length) cap) w' →
        w.grownBy w' (φ id |>.map (·.1)) → ((φ id |>.map (·.1)) = some B ∨ w.heap.size ≤ B) → w'.heap[B]? = some (.cells cur e (0, 0)) → es.length + news.length ≤ cap → cap ≤ maxLen → cur.size = cap * i.size →
        cs.length = es.length * i.size → (∀ (j : Nat) (u : Value), (cs ++ nv)[j]? = some u → cur[j]? = some u) → (∀ j (hj : j < es.length) t (ht : t < (es[j]).length), ∃ u, cs[j * i.size + t]? = some u ∧ RD N w ((es[j])[t]) u) →
        ∃ v' w' φ', (Builtin.append_ #[t, t] ty #[.slice A' es.length m, .slice (some ad) news.length c]).run P w = .ok v' w' ∧ Rel (H.set id (.arr e i.size (ver + 1) (es ++ news))) φ' N w' ∧ Since H φ N w (H.set id (.arr e i.size (ver + 1) (es ++ news))) φ' N w' ∧
          RA (H.set id (.arr e i.size (ver + 1) (es ++ news))) φ' N w' (.sl id (ver + 1) 0 (es.length + news.length)) v' := by
      intro w' B cap cur cs hrun hg hB hcur hle hcm hsz hcl hcc hrel
      have hrow : ∀ B, (φ id |>.map (·.1)) = some B → ∃ c, φ id = some (B, c) := fun B hB => by
        cases hq : φ id with
        | none => simp [hq] at hB
        | some p => simp [hq] at hB; exact ⟨p.2, by rw [← hB]⟩
      have hp : ∀ B' c', (some (B, cap) : Option (Nat × Nat)) = some (B', c') → (φ id |>.map (·.1)) = some B' ∨ w.heap.size ≤ B' := fun B' c' h => by cases h; exact hB
      have hS : Since H φ N w (H.set id (.arr e i.size (ver + 1) (es ++ news))) (φ.put id (some (B, cap))) N w' := Since.grow hob _ _ hrow hg hp
      refine ⟨_, w', φ.put id (some (B, cap)), hrun, hR.grow hob _ _ hrow hg hp (.arr e i.size _ _ hk0 hall (.inr ⟨B, cap, cur, Phi.put_same _ _ _, hcur, by simpa using hle, hcm, hsz, fun i' hi' j' hj' => ?_⟩)), hS, ?_⟩
      · obtain ⟨u, hu, hr⟩ := src_rows hcl hes hk (RD N w) hrel hsrc.rel i' hi' j' hj'
        exact ⟨u, hcc _ _ hu, hr.since hR hS⟩
      · exact .sl _ _ _ _ _ _ _ (.arr e i.size (ver + 1) (es ++ news)) (List.getElem?_set_self (len_of_get hob)) (Nat.le_refl _) fun _ => ⟨rfl, by simp [AObj.len], .inr ⟨B, cap, Phi.put_same _ _ _, by omega, by simp, by simp⟩⟩
    rcases h2 with ⟨h3, h4, _, rfl⟩ | ⟨B, cp, h3, h4, hA, hm'⟩
    · -- from nothing
      have hes0 : es = [] := List.eq_nil_of_length_eq_zero h4
      subst hes0
      simp only [List.length_nil, Nat.zero_add] at *
      have hr : (Builtin.append_ #[t, t] ty #[.slice A' 0 0, .slice (some ad) news.length c]).run P w =
          .ok (.slice (some ⟨w.heap.size, 0, none⟩) news.length (grownCap w news.length 0 e)) (w.drew.alloc (.cells (nv.toArray ++ Builtin.zeroCells z.cells (grownCap w news.length 0 e - news.length)) e)) := by
        cases A' with
        | none => exact run_append_nil (P := P) w t ty e i z hse hii hzz ad news.length c nv hsrc.len hcells (by omega) (by omega) (by omega)
        | some b0 =>
          have := run_append_grow (P := P) w t ty e i z hse hii hzz b0 0 0 [] (by simp) (by simp) ad news.length c nv hsrc.len hcells (by omega) (by omega) (growslice_fits (by omega) (by simpa using hb))
          simpa using this
      refine fin _ w.heap.size _ _ [] hr ⟨rfl, rfl, rfl, by simp, fun k hk _ => Below.heap_alloc w.drew _ k hk⟩ (.inr (Nat.le_refl _)) (heap_alloc_new w.drew _) (grownCap_ge w _ _ e) (grownCap_le_maxLen w _ _ e h63) ?_ (by simp) ?_ (fun j hj => by simp at hj)
      · rw [Array.size_append, size_zeroCells, hz]
        simp only [List.size_toArray, hsrc.len, ← Nat.add_mul]
        congr 1
        have := grownCap_ge w news.length 0 e
        omega
      · intro j u hu
        simp only [List.nil_append] at hu
        have hj : j < nv.length := by
          rcases Nat.lt_or_ge j nv.length with h | h
          · exact h
          · simp [List.getElem?_eq_none h] at hu
        rw [Array.getElem?_append_left (by simpa using hj)]
        simpa using hu
    · rcases hbl with ⟨g0, _⟩ | ⟨B', cap, cur, g1, g2, g3, g4, g5, g6⟩
      · rw [g0] at h3; cases h3
      have hφ := g1
      obtain ⟨e1, e2⟩ := Prod.mk.inj (Option.some.inj (g1.symm.trans h3))
      subst e1 e2
      obtain rfl : A' = some ⟨B', 0, none⟩ := by rw [hA]; simp
      obtain rfl : m = cap := by omega
      have hcs : (cur.toList.take (es.length * i.size)).length = es.length * i.size := by
        have := Nat.mul_le_mul_right i.size g3
        simp; omega
      have hrel : ∀ j (hj : j < es.length) t (ht : t < (es[j]).length), ∃ u, (cur.toList.take (es.length * i.size))[j * i.size + t]? = some u ∧ RD N w ((es[j])[t]) u := by
        intro j hj t ht
        obtain ⟨u, hu, hr⟩ := g6 j hj t ht
        refine ⟨u, ?_, hr⟩
        rw [List.getElem?_take, if_pos (place_lt (by rw [← hes _ (List.getElem_mem hj)]; exact ht) hj)]
        simpa using hu
      by_cases hroom : es.length + news.length ≤ m
      · have hfit : es.length * i.size + nv.length ≤ cur.size := by
          rw [hsrc.len, g5, ← Nat.add_mul]; exact Nat.mul_le_mul_right _ hroom
        have hr := run_append_room (P := P) w t ty e i hse hii B' es.length m cur g2 ad news.length c nv hsrc.len hcells hsrc.one hroom hfit
        refine fin _ B' m _ (cur.toList.take (es.length * i.size)) hr ⟨rfl, rfl, rfl, by simp, fun k _ hk => setRow_other w B' k _ (fun e => hk (by simp [hφ, e]))⟩ (.inl (by simp [hφ])) (setRow_heap w B' cur _ e _ g2) hroom g4 ?_ hcs ?_ hrel
        · simp only [List.size_toArray, List.length_append, List.length_take, List.length_drop, Array.length_toList]
          omega
        · intro j u hu
          rw [List.getElem?_toArray]
          have hj : j < (cur.toList.take (es.length * i.size) ++ nv).length := by
            rcases Nat.lt_or_ge j (cur.toList.take (es.length * i.size) ++ nv).length with h | h
            · exact h
            · rw [List.getElem?_eq_none h] at hu; cases hu
          rw [List.getElem?_append_left hj]
          exact hu
      · have holds : ∀ j u, (cur.toList.take (es.length * i.size))[j]? = some u → w.cell? ((⟨B', 0, none⟩ : Addr).add j) = some u := by
          intro j u hu
          rw [add_plain]
          simp only [World.cell?, g2]
          rw [List.getElem?_take] at hu
          split at hu
          · simpa using hu
          · cases hu
        have hr := run_append_grow (P := P) w t ty e i z hse hii hzz ⟨B', 0, none⟩ es.length m (cur.toList.take (es.length * i.size)) hcs holds ad news.length c nv hsrc.len hcells (by omega) (by omega) (growslice_fits (by omega) hb)
        refine fin _ w.heap.size _ _ (cur.toList.take (es.length * i.size)) hr ⟨rfl, rfl, rfl, by simp, fun k hk _ => Below.heap_alloc w.drew _ k hk⟩ (.inr (Nat.le_refl _)) (heap_alloc_new w.drew _) (grownCap_ge w _ _ e) (grownCap_le_maxLen w _ _ e h63) ?_ hcs ?_ hrel
        · simp only [Array.size_append, size_zeroCells, hz, List.size_toArray, hcs, hsrc.len]
          have := grownCap_ge w (es.length + news.length) m e
          rw [← Nat.add_mul, ← Nat.add_mul]
          congr 1
          omega
        · intro j u hu
          have hj : j < (cur.toList.take (es.length * i.size) ++ nv).length := by
            rcases Nat.lt_or_ge j (cur.toList.take (es.length * i.size) ++ nv).length with h | h
            · exact h
            · rw [List.getElem?_eq_none h] at hu; cases hu
          rw [Array.getElem?_append_left (by simpa using hj), List.append_toArray, List.getElem?_toArray]
          exact hu

theorem ok_append (hR : Rel H φ N w) (hT : TRel H φ N w s a) (x y : Operand) (t : TypeId) (ho : o.op = .call { callee := .builtin .append, args := #[x, y], argTypes := #[t, t] }) (e : TypeId) (ht : SE P t = some e)
    (z : Value) (k b : Nat) (hi : TI P e = some (z, k, b)) (hz : z.cells.size = k) (id ver : Nat) (es news : List (List D)) (hx : aeval s x = .sl id ver 0 es.length) (hob : H[id]? = some (.arr e k ver es))
    (hy : asrc H (aeval s y) = some news) (hk : ∀ c ∈ news, c.length = k) (hb : (es.length + news.length) * b ≤ 140737488355328) (hm : es.length + news.length ≤ 9223372036854775807) :
    OpOk P o a w H φ N (.sl id (ver + 1) 0 (es.length + news.length)) (H.set id (.arr e k (ver + 1) (es ++ news))) := by
  obtain ⟨v', w', φ', hr, h1, h2, h3⟩ := append_core hR o.type t e ht z k b hi hz id ver es news (a.eval x) (a.eval y) (aeval s y) (by rw [← hx]; exact aeval_ok hT x) (aeval_ok hT y) hob hy hk hb hm
  refine ⟨v', w', φ', N, .inl ?_, h1, h2, h3⟩
  simp [execOp, ho, resolve, invoke, Go.builtin, hr]

/-- A slice without capacity is an array of nothing. -/
def isNone : AV → Bool
  | .d (.v (.slice none 0 0)) => true
  | .cap0 => true
  | _ => false
theorem isNone_ok {x : AV} {v : Value} (hx : RA H φ N w x v) (h : isNone x = true) : ∃ A, v = .slice A 0 0 := by
  unfold isNone at h
  split at h
  · exact ⟨none, hx.closed⟩
  · cases hx; exact ⟨_, rfl⟩
  · cases h
theorem Since.virt (hR : Rel H φ N w) (o : AObj) : Since H φ N w (H ++ [o]) (φ.put H.length none) N w where
  len := by simp
  os := rfl
  tape := rfl
  output := rfl
  size := Nat.le_refl _
  keep _ _ _ := rfl
  own id B c hid hp hB := by
    by_cases he : id = H.length
    · subst he; rw [Phi.put_same] at hp; cases hp
    · rw [Phi.put_other _ _ _ _ he] at hp
      exact ⟨id, c, by simp at hid; omega, hp⟩
  mono _ h := h
  compat id o' h := ⟨o', by rw [List.getElem?_append_left (len_of_get h)]; exact h, rfl, Nat.le_refl _,
    fun _ => ⟨Phi.put_other _ _ _ _ (Nat.ne_of_lt (len_of_get h)), Nat.le_refl _⟩, fun kk es he => ⟨Phi.put_other _ _ _ _ (Nat.ne_of_lt (len_of_get h)), es, he⟩⟩
theorem Rel.virt (hR : Rel H φ N w) (e : TypeId) (k : Nat) (hk : 0 < k) (ver : Nat := 0) : Rel (H ++ [.arr e k ver []]) (φ.put H.length none) N w where
  obj id o' h := by
    rcases get_snoc h with ⟨h1, h2⟩ | ⟨rfl, rfl⟩
    · exact (hR.obj id o' h1).keep hR (Since.virt hR _) (Phi.put_other _ _ _ _ (Nat.ne_of_lt h2)) fun B c hp => rfl
    · exact .arr e k ver [] hk (by simp) (.inl ⟨Phi.put_same _ _ _, rfl⟩)
  inj i j B c c' hi hj h1 h2 := by
    simp at hi hj
    by_cases e1 : i = H.length
    · subst e1; rw [Phi.put_same] at h1; cases h1
    · by_cases e2 : j = H.length
      · subst e2; rw [Phi.put_same] at h2; cases h2
      · rw [Phi.put_other _ _ _ _ e1] at h1
        rw [Phi.put_other _ _ _ _ e2] at h2
        exact hR.inj i j B c c' (by omega) (by omega) h1 h2
  live := hR.live
  apart a id B c ha hid hp := by
    by_cases he : id = H.length
    · subst he; rw [Phi.put_same] at hp; cases hp
    · rw [Phi.put_other _ _ _ _ he] at hp
      exact hR.apart a id B c ha (by simp at hid; omega) hp

theorem asrc_snoc {x : AV} {es : List (List D)} (o : AObj) (h : asrc H x = some es) : asrc (H ++ [o]) x = some es := by
  unfold asrc at h ⊢
  split at h
  · exact h
  · exact h
  · exact h
  · rename_i id ver off len
    cases ho : H[id]? with
    | none => simp [ho] at h
    | some ob =>
      rw [List.getElem?_append_left (len_of_get ho), ho]
      simpa [ho] using h
  · cases h

/-- append to a slice without capacity: a new array. -/
theorem ok_append_new (hR : Rel H φ N w) (hT : TRel H φ N w s a) (x y : Operand) (t : TypeId) (ho : o.op = .call { callee := .builtin .append, args := #[x, y], argTypes := #[t, t] }) (e : TypeId) (ht : SE P t = some e)
    (z : Value) (k b : Nat) (hi : TI P e = some (z, k, b)) (hz : z.cells.size = k) (hk0 : 0 < k) (news : List (List D)) (hx : isNone (aeval s x) = true)
    (hy : asrc H (aeval s y) = some news) (hk : ∀ c ∈ news, c.length = k) (hb : news.length * b ≤ 140737488355328) (hm : news.length ≤ 9223372036854775807) :
    OpOk P o a w H φ N (.sl H.length 1 0 news.length) (H ++ [.arr e k 1 news]) := by
  obtain ⟨A, hv⟩ := isNone_ok (aeval_ok hT x) hx
  have hR1 := hR.virt e k hk0
  have hS1 := Since.virt hR (.arr e k 0 [])
  have hsl : RA (H ++ [.arr e k 0 []]) (φ.put H.length none) N w (.sl H.length 0 0 ([] : List (List D)).length) (.slice A 0 0) :=
    .sl _ _ _ _ _ _ _ (.arr e k 0 []) (by simp) (Nat.le_refl _) fun _ => ⟨rfl, by simp [AObj.len], .inl ⟨Phi.put_same _ _ _, rfl, rfl, rfl⟩⟩
  obtain ⟨v', w', φ', hr, h1, h2, h3⟩ := append_core hR1 o.type t e ht z k b hi hz H.length 0 [] news (.slice A 0 0) (a.eval y) (aeval s y) hsl ((aeval_ok hT y).since hR hS1) (by simp) (asrc_snoc _ hy) hk (by simpa using hb) (by simpa using hm)
  have hset : (H ++ [AObj.arr e k 0 []]).set H.length (.arr e k (0 + 1) ([] ++ news)) = H ++ [.arr e k 1 news] := by simp
  rw [hset] at h1 h2 h3
  refine ⟨v', w', φ', N, .inl ?_, h1, hS1.trans h2, by simpa using h3⟩
  simp [execOp, ho, resolve, invoke, Go.builtin, hv, hr]
end
end Go.Proofs.YtfmmemboakdeiaaAw

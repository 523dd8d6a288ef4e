/- An owned array that is handed on: from then on it never changes. -/
import Derived.Test.YtfmmemboakdeiaaAwQ
namespace Go.Proofs.YtfmmemboakdeiaaAw
open Go.RowKit
set_option linter.unusedVariables false
set_option linter.unusedSimpArgs false
theorem Rel.freeze {H : AHeap} {φ : Phi} {N : Addr → Prop} {w : World} {id k ver : Nat} {e : TypeId} {es : List (List D)} (hR : Rel H φ N w) (ho : H[id]? = some (.arr e k ver es)) :
    ∃ φ' N', Rel (H.set id (.arr e k (ver + 1) [])) φ' N' w ∧ Since H φ N w (H.set id (.arr e k (ver + 1) [])) φ' N' w ∧
      ∀ off len v, RA H φ N w (.sl id ver off len) v → RA (H.set id (.arr e k (ver + 1) [])) φ' N' w (.d (.list false ((es.drop off).take len))) v := by
  have hid : id < H.length := len_of_get ho
  have hobj := hR.obj id _ ho
  cases hobj with
  | arr _ _ _ _ hk hes hbl =>
  let φ' : Phi := fun j => if j = id then none else φ j
  let N' : Addr → Prop := fun a => N a ∨ ∃ B c, φ id = some (B, c) ∧ a.block = B ∧ a.spot = none ∧ a.off < es.length * k
  have hφ : ∀ j, j ≠ id → φ' j = φ j := fun j hj => if_neg hj
  have hφi : φ' id = none := if_pos rfl
  have hS : Since H φ N w (H.set id (.arr e k (ver + 1) [])) φ' N' w := by
    refine ⟨by simp, rfl, rfl, rfl, Nat.le_refl _, fun _ _ _ => rfl, fun j B c hj hp _ => ?_, fun _ h => .inl h, fun j o hj => ?_⟩
    · by_cases hji : j = id
      · subst hji; rw [hφi] at hp; cases hp
      · rw [hφ j hji] at hp
        exact ⟨j, c, by simpa using hj, hp⟩
    · by_cases hji : j = id
      · subst hji
        rw [ho] at hj; cases hj
        refine ⟨.arr e k (ver + 1) [], by simp [hid], rfl, Nat.le_succ _, fun h => ?_, fun kk es' h => by cases h⟩
        simp only [AObj.ver] at h
        omega
      · refine ⟨o, by rw [List.getElem?_set_ne (Ne.symm hji)]; exact hj, rfl, Nat.le_refl _, fun _ => ⟨hφ j hji, Nat.le_refl _⟩, fun kk es' h => ⟨hφ j hji, es', h⟩⟩
  refine ⟨φ', N', ⟨fun j o hj => ?_, fun i j B c c' hi hj hpi hpj => ?_, fun a ha => ?_, fun a j B c ha hj hp => ?_⟩, hS, fun off len v hv => ?_⟩
  · by_cases hji : j = id
    · subst hji
      simp [hid] at hj
      subst hj
      exact .arr e k (ver + 1) [] hk (fun c hc => by simp at hc) (.inl ⟨hφi, rfl⟩)
    · rw [List.getElem?_set_ne (Ne.symm hji)] at hj
      exact (hR.obj j o hj).keep hR hS (hφ j hji) fun _ _ _ => rfl
  · have hi' : i ≠ id := fun h => by subst h; rw [hφi] at hpi; cases hpi
    have hj' : j ≠ id := fun h => by subst h; rw [hφi] at hpj; cases hpj
    rw [hφ i hi'] at hpi
    rw [hφ j hj'] at hpj
    exact hR.inj i j B c c' (by simpa using hi) (by simpa using hj) hpi hpj
  · rcases ha with ha | ⟨B, c, hB, h1, h2, h3⟩
    · exact hR.live a ha
    · rcases hbl with ⟨g0, _⟩ | ⟨B', cap, cur, g1, g2, g3, g4, g5, g6⟩
      · rw [g0] at hB; cases hB
      · rw [g1] at hB; cases hB
        have hlt : a.off < cur.size := by have := Nat.mul_le_mul_right k g3; omega
        refine ⟨cur[a.off], ?_⟩
        simp [World.cell?, h1, g2, h2, hlt]
  · have hj' : j ≠ id := fun h => by subst h; rw [hφi] at hp; cases hp
    rw [hφ j hj'] at hp
    have hj2 : j < H.length := by simpa using hj
    rcases ha with ha | ⟨B0, c0, hB, h1, _⟩
    · exact hR.apart a j B c ha hj2 hp
    · intro hab
      have : B0 = B := h1.symm.trans hab
      subst this
      exact hj' (hR.inj j id B0 c c0 hj2 hid hp hB)
  · cases hv with
    | sl _ _ _ _ A l m' o ho' hv' hp =>
    rw [ho] at ho'; cases ho'
    obtain ⟨rfl, h1, h2⟩ := hp rfl
    simp only [AObj.len] at h1
    by_cases hl0 : l = 0
    · subst hl0
      simp only [List.take_zero]
      exact .d (.nil _ _ (by rcases h2 with ⟨_, _, _, rfl⟩ | ⟨B, c, _, _, rfl, _⟩; exact fun _ => rfl; exact fun h => by cases h))
    rcases h2 with ⟨_, h3, _⟩ | ⟨B, c, h3, h4, rfl, rfl⟩
    · omega
    rcases hbl with ⟨g0, _⟩ | ⟨B', cap, cur, g1, g2, g3, g4, g5, g6⟩
    · rw [g0] at h3; cases h3
    have hφ3 := h3
    obtain ⟨e1, e2⟩ := Prod.mk.inj (Option.some.inj (g1.symm.trans h3))
    subst e1 e2
    have hel : ((es.drop off).take l).length = l := by simp; omega
    have key := RD.list (N := N') (w := w) false ((es.drop off).take l) ⟨B', off * k, none⟩ (cap - off) k (fun i j => cur.getD ((off + i) * k + j) undef) (by rw [hel]; omega)
      (fun e he => hes e (List.mem_of_mem_drop (List.mem_of_mem_take he))) (fun i j hi hj => by
        rw [hel] at hi
        have hlt : (off + i) * k + j < es.length * k := place_lt hj (by omega)
        have hlt2 : (off + i) * k + j < cur.size := by have := Nat.mul_le_mul_right k g3; omega
        have hpos : off * k + (i * k + j) = (off + i) * k + j := by rw [Nat.add_mul]; omega
        rw [add_plain, hpos]
        refine ⟨.inr ⟨B', cap, hφ3, rfl, rfl, hlt⟩, ?_⟩
        simp [World.cell?, g2, Array.getD, hlt2]) (fun i hi j hj => by
        rw [hel] at hi
        simp only [List.getElem_take, List.getElem_drop] at hj ⊢
        obtain ⟨u, hu, hd⟩ := g6 (off + i) (by omega) j hj
        have hget : cur.getD ((off + i) * k + j) undef = u := by
          rw [Array.getD_eq_getD_getElem?, hu]; rfl
        simp only [hget]
        exact hd.since hR hS)
    rw [hel] at key
    exact .d key
/-- What is handed on never changes again: its owner has an empty array of a later version. -/
theorem Does.freeze {P : Program} {f : FuncId} (pre : List AV) {post : List AV} {id k ver off len : Nat} {e : TypeId} {es : List (List D)} {H H' : AHeap} {res : ARes} (ho : H[id]? = some (.arr e k ver es))
    (h : Does P f (pre ++ .d (.list false ((es.drop off).take len)) :: post) (H.set id (.arr e k (ver + 1) [])) res H') : Does P f (pre ++ .sl id ver off len :: post) H res H' := by
  intro φ N w vals hR hA
  obtain ⟨φ1, N1, hR1, hS1, hv⟩ := hR.freeze ho
  have hA1 : RAs (H.set id (.arr e k (ver + 1) [])) φ1 N1 w (pre ++ .d (.list false ((es.drop off).take len)) :: post) vals := by
    refine ⟨by rw [← hA.1]; simp, fun i h1 h2 => ?_⟩
    have h3 := hA.2 i (by simpa using h1) h2
    by_cases hi : i = pre.length
    · subst hi
      simp only [List.getElem_append_right (Nat.le_refl _), Nat.sub_self, List.getElem_cons_zero] at h3 ⊢
      exact hv off len _ h3
    · rcases Nat.lt_or_ge i pre.length with hlt | hge
      · rw [List.getElem_append_left hlt] at h3 ⊢
        exact h3.since hR hS1
      · rw [List.getElem_append_right hge] at h3 ⊢
        obtain ⟨j, hj⟩ : ∃ j, i - pre.length = j + 1 := ⟨i - pre.length - 1, by omega⟩
        simp only [hj, List.getElem_cons_succ] at h3 ⊢
        exact h3.since hR hS1
  have h4 := h φ1 N1 w vals hR1 hA1
  have go : ∀ e' w', (∃ φ' N', Rel H' φ' N' w' ∧ Since (H.set id (.arr e k (ver + 1) [])) φ1 N1 w H' φ' N' w' ∧ REnd H' φ' N' w' res e') → ∃ φ' N', Rel H' φ' N' w' ∧ Since H φ N w H' φ' N' w' ∧ REnd H' φ' N' w' res e' := by
    rintro e' w' ⟨φ', N', hR', hS', hE⟩
    exact ⟨φ', N', hR', hS1.trans hS', hE⟩
  rcases h4 with ⟨h5, h6⟩ | ⟨v, w', h5, h6⟩
  · exact .inl ⟨h5, h6.mono go⟩
  · exact .inr ⟨v, w', h5, go _ _ h6⟩
theorem KCall.frz {P : Program} {f : FuncId} (pre : List AV) {post : List AV} {id k ver off len : Nat} {e : TypeId} {es : List (List D)} {H H' : AHeap} {K : AV → AHeap → Prop} {KP : Value → AHeap → Prop} {r : AV} (ho : H[id]? = some (.arr e k ver es))
    (h : Does P f (pre ++ .d (.list false ((es.drop off).take len)) :: post) (H.set id (.arr e k (ver + 1) [])) (.ok r) H') (hk : K r H') : KCall P f (pre ++ .sl id ver off len :: post) H K KP := KCall.ok (Does.freeze pre ho h) hk
end Go.Proofs.YtfmmemboakdeiaaAw

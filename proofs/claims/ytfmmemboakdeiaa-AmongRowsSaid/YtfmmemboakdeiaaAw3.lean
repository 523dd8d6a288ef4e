/- Reading and writing cells of objects; facts on types. -/
import Derived.Test.YtfmmemboakdeiaaAw2
namespace Go.Proofs.YtfmmemboakdeiaaAw
open Go.RowKit
set_option linter.unusedVariables false

/-! ### Types -/
def TI (P : Program) (t : TypeId) : Option (Value × Nat × Nat) := (P.info? t).bind fun i => i.zero.map fun z => (z, i.size, i.bytes)
theorem TI.info {P : Program} {t : TypeId} {z : Value} {k b : Nat} (h : TI P t = some (z, k, b)) : ∃ i, P.info? t = some i ∧ i.zero = some z ∧ i.size = k ∧ i.bytes = b := by
  unfold TI at h
  obtain ⟨i, hi, h⟩ := Option.bind_eq_some_iff.1 h
  obtain ⟨z', hz, h⟩ := Option.map_eq_some_iff.1 h
  cases h
  exact ⟨i, hi, hz, rfl, rfl⟩
theorem TI.sizeOf {P : Program} {t : TypeId} {z : Value} {k b : Nat} (h : TI P t = some (z, k, b)) (w : World) : (sizeOf t).run P w = .ok k w := by
  obtain ⟨i, hi, hz, rfl, rfl⟩ := TI.info h
  simp [Go.sizeOf, typeInfo, hi]
theorem TI.zero {P : Program} {t : TypeId} {z : Value} {k b : Nat} (h : TI P t = some (z, k, b)) (w : World) : (zeroValue t).run P w = .ok z w := by
  obtain ⟨i, hi, hz, rfl, rfl⟩ := TI.info h
  simp [Go.zeroValue, typeInfo, hi, hz]
def agB (P : Program) (t : TypeId) : Option Bool := (P.underlying t).map fun d => match d with | .struct _ | .array _ _ => true | _ => false
theorem agB.run {P : Program} {t : TypeId} {b : Bool} (h : agB P t = some b) (w : World) : (isAgg t).run P w = .ok b w := by
  unfold agB at h
  obtain ⟨d, hd, h⟩ := Option.map_eq_some_iff.1 h
  subst h
  cases d <;> simp [isAgg, run_underlying hd]

/-! ### One place in a row of elements -/
theorem place_inj {k i j i' j' : Nat} (hj : j < k) (hj' : j' < k) (h : i * k + j = i' * k + j') : i = i' ∧ j = j' := by
  have h1 : (i * k + j) / k = i := by rw [Nat.mul_comm, Nat.mul_add_div (by omega), Nat.div_eq_of_lt hj]; omega
  have h2 : (i' * k + j') / k = i' := by rw [Nat.mul_comm, Nat.mul_add_div (by omega), Nat.div_eq_of_lt hj']; omega
  have : i = i' := by rw [← h1, ← h2, h]
  subst this
  omega
theorem place_lt {k i j n : Nat} (hj : j < k) (hi : i < n) : i * k + j < n * k := by
  have : (i + 1) * k ≤ n * k := Nat.mul_le_mul_right k hi
  rw [Nat.add_mul] at this
  omega

def splice {α : Type} (l : List α) (j : Nat) (xs : List α) : List α := l.take j ++ xs ++ l.drop (j + xs.length)
theorem splice_length {α : Type} (l : List α) (j : Nat) (xs : List α) (h : j + xs.length ≤ l.length) : (splice l j xs).length = l.length := by
  simp [splice]; omega
theorem splice_get {α : Type} (l : List α) (j : Nat) (xs : List α) (h : j + xs.length ≤ l.length) (t : Nat) :
    (splice l j xs)[t]? = if t < j then l[t]? else if t < j + xs.length then xs[t - j]? else l[t]? := by
  unfold splice
  by_cases h1 : t < j
  · rw [if_pos h1, List.append_assoc, List.getElem?_append_left (by simp; omega), List.getElem?_take, if_pos h1]
  · rw [if_neg h1]
    by_cases h2 : t < j + xs.length
    · rw [if_pos h2, List.append_assoc, List.getElem?_append_right (by simp; omega), List.getElem?_append_left (by simp; omega)]
      congr 1
      simp; omega
    · rw [if_neg h2, List.getElem?_append_right (by simp; omega), List.getElem?_drop]
      congr 1
      simp; omega

/-! ### Reading -/
def oread (H : AHeap) (id ver i j n : Nat) : Option (List AV) :=
  match H[id]? with
  | some (.arr _ _ v es) => if v = ver then (match es[i]? with | some c => if j + n ≤ c.length then some (((c.drop j).take n).map .d) else none | none => none) else none
  | some (.box _ k v m cs) => if v = ver ∧ i * k + j + n ≤ cs.length then some ((cs.drop (i * k + j)).take n) else none
  | _ => none

theorem oread_ok {H : AHeap} {φ : Phi} {N : Addr → Prop} {w : World} (hR : Rel H φ N w) {id ver i j n : Nat} {A : Option Addr} (hA : RA H φ N w (.ptr id ver i j) (.pointer A)) {cs : List AV}
    (h : oread H id ver i j n = some cs) : cs.length = n ∧ ∃ B off, A = some ⟨B, off, none⟩ ∧ ∀ t (ht : t < cs.length), ∃ c, w.cell? ⟨B, off + t, none⟩ = some c ∧ RA H φ N w (cs[t]) c := by
  cases hA with
  | ptr _ _ _ _ _ o ho hv hp =>
  unfold oread at h
  rw [ho] at h
  cases o with
  | arr e k v es =>
    simp only at h
    split at h
    · rename_i hvv
      split at h
      · rename_i c hc
        split at h
        · rename_i hjn
          cases h
          obtain ⟨B, cp, hph, rfl⟩ := hp (by simp [AObj.ver]; omega)
          refine ⟨by simp; omega, B, _, rfl, fun t ht => ?_⟩
          have hob := hR.obj id _ ho
          cases hob with
          | arr _ _ _ _ hk hes hb =>
          have hi : i < es.length := by
            rcases Nat.lt_or_ge i es.length with h' | h'
            · exact h'
            · simp [List.getElem?_eq_none h'] at hc
          rcases hb with ⟨h0, _⟩ | ⟨B', cap, cur, h1, h2, h3, h4, h5, h6⟩
          · rw [h0] at hph; cases hph
          · rw [h1] at hph; cases hph
            simp at ht
            have hce : es[i] = c := by rw [List.getElem?_eq_getElem hi] at hc; exact Option.some.inj hc
            obtain ⟨c', hc', hd'⟩ := h6 i hi (j + t) (by rw [hce]; omega)
            refine ⟨c', ?_, ?_⟩
            · simp only [AObj.k, World.cell?, h2]
              simpa [Nat.add_assoc] using hc'
            · simp only [hce] at hd'
              simp only [List.getElem_map, List.getElem_take, List.getElem_drop]
              exact .d hd'
        · cases h
      · cases h
    · cases h
  | box e k v m bs =>
    simp only at h
    split at h
    · rename_i hvv
      cases h
      obtain ⟨B, cp, hph, rfl⟩ := hp (by simp [AObj.ver]; omega)
      refine ⟨by simp; omega, B, _, rfl, fun t ht => ?_⟩
      have hob := hR.obj id _ ho
      cases hob with
      | box _ _ _ _ _ B' cap cur hk hn hp' hb hc hm hs hcell =>
      rw [hp'] at hph; cases hph
      simp at ht
      obtain ⟨c', hc', hd'⟩ := hcell (i * k + j + t) (by omega)
      refine ⟨c', ?_, ?_⟩
      · simp only [AObj.k, World.cell?, hb]
        simpa using hc'
      · simp only [List.getElem_take, List.getElem_drop]
        exact hd'
    · cases h
  | mp kk es => cases h
  | dead v => cases h

/-! ### Writing -/
def AV.toD? : AV → Option D
  | .d x => some x
  | _ => none
def toDs : List AV → Option (List D)
  | [] => some []
  | x :: xs => match x.toD?, toDs xs with
    | some y, some ys => some (y :: ys)
    | _, _ => none
theorem toDs_map (xs : List D) : toDs (xs.map .d) = some xs := by
  induction xs with
  | nil => rfl
  | cons x xs ih => simp [toDs, AV.toD?, ih]
theorem toDs_eq : ∀ {xs : List AV} {ys : List D}, toDs xs = some ys → xs = ys.map .d
  | [], ys, h => by cases h; rfl
  | x :: xs, ys, h => by
    unfold toDs at h
    cases hx : x.toD? with
    | none => simp [hx] at h
    | some y =>
      cases hxs : toDs xs with
      | none => simp [hx, hxs] at h
      | some zs =>
        simp [hx, hxs] at h
        subst h
        rw [toDs_eq hxs]
        cases x <;> simp [AV.toD?] at hx
        subst hx
        rfl

def owrite (H : AHeap) (id ver i j : Nat) (cs : List AV) : Option AHeap :=
  match H[id]? with
  | some (.arr e k v es) => if v = ver then (match es[i]?, toDs cs with | some c, some ds => if j + ds.length ≤ c.length then some (H.set id (.arr e k v (es.set i (splice c j ds)))) else none | _, _ => none) else none
  | some (.box e k v m bs) => if v = ver ∧ i * k + j + cs.length ≤ bs.length then some (H.set id (.box e k v m (splice bs (i * k + j) cs))) else none
  | _ => none

theorem array_splice (cur : Array Value) (off : Nat) (vs : List Value) (h : off + vs.length ≤ cur.size) (t : Nat) :
    (cur.toList.take off ++ vs ++ cur.toList.drop (off + vs.length)).toArray[t]? = if t < off then cur[t]? else if t < off + vs.length then vs[t - off]? else cur[t]? := by
  have := splice_get cur.toList off vs (by simpa using h) t
  simpa [splice] using this

theorem owrite_ok {P : Program} {H H' : AHeap} {φ : Phi} {N : Addr → Prop} {w : World} (hR : Rel H φ N w) {id ver i j : Nat} {A : Option Addr} (hA : RA H φ N w (.ptr id ver i j) (.pointer A)) {cs : List AV} {vs : List Value}
    (hl : cs.length = vs.length) (hcs : ∀ t (h1 : t < cs.length) (h2 : t < vs.length), RA H φ N w (cs[t]) (vs[t])) (h1 : ∀ v ∈ vs, v.oneCell' = true)
    (h : owrite H id ver i j cs = some H') : ∃ a w', A = some a ∧ (storeCells a vs 0).run P w = .ok () w' ∧ Rel H' φ N w' ∧ Since H φ N w H' φ N w' := by
  cases hA with
  | ptr _ _ _ _ _ o ho hv hp =>
  unfold owrite at h
  rw [ho] at h
  cases o with
  | arr e k v es =>
    simp only at h
    split at h
    · rename_i hvv
      split at h
      · rename_i c ds hc hds
        split at h
        · rename_i hjn
          cases h
          obtain ⟨B, cp, hph, rfl⟩ := hp (by simp [AObj.ver]; omega)
          have hob := hR.obj id _ ho
          cases hob with
          | arr _ _ _ _ hk hes hb =>
          have hi : i < es.length := by
            rcases Nat.lt_or_ge i es.length with h' | h'
            · exact h'
            · simp [List.getElem?_eq_none h'] at hc
          have hce : es[i] = c := by rw [List.getElem?_eq_getElem hi] at hc; exact Option.some.inj hc
          have hck : c.length = k := by rw [← hce]; exact hes _ (List.getElem_mem hi)
          have hdl : ds.length = vs.length := by rw [← hl, toDs_eq hds]; simp
          rcases hb with ⟨h0, _⟩ | ⟨B', cap, cur, e1, e2, e3, e4, e5, e6⟩
          · rw [h0] at hph; cases hph
          · have hpB := e1
            rw [e1] at hph; cases hph
            have hroom : i * k + j + vs.length ≤ cur.size := by
              have := Nat.mul_le_mul_right k (show i + 1 ≤ cp by omega)
              rw [Nat.add_mul] at this
              omega
            refine ⟨_, _, rfl, run_storeCells_at (P := P) B (i * k + j) e vs 0 cur w e2 (by omega) h1, ?_⟩
            simp only [Nat.add_zero]
            generalize hnew : (cur.toList.take (i * k + j) ++ vs ++ cur.toList.drop (i * k + j + vs.length)).toArray = cur'
            have hS : Since H φ N w (H.set id (.arr e k v (es.set i (splice c j ds)))) φ N (w.setRow B cur') :=
              Since.set ho hpB rfl rfl (by simp [AObj.len]) (fun kk es he => by cases he) (by simp) (by simp) (by simp) (by simp) (fun k hk => setRow_other w B k cur' hk)
            refine ⟨hR.set ho hpB hS (fun k hk => setRow_other w B k cur' hk) ?_, hS⟩
            refine .arr e k v _ hk ?_ (.inr ⟨B, cp, cur', hpB, setRow_heap w B cur cur' e (0, 0) e2, by simpa using e3, e4, ?_, ?_⟩)
            · intro x hx
              rcases List.mem_or_eq_of_mem_set hx with hx | rfl
              · exact hes x hx
              · rw [splice_length _ _ _ (by omega)]; exact hck
            · rw [← hnew, ← e5]; simp; omega
            · intro i' hi' j' hj'
              have hget := array_splice cur (i * k + j) vs hroom (i' * k + j')
              rw [hnew] at hget
              simp only [List.length_set] at hi'
              by_cases ei : i' = i
              · subst ei
                simp only [List.getElem_set_self] at hj' ⊢
                rw [splice_length _ _ _ (by omega)] at hj'
                have hsp := splice_get c j ds hjn j'
                rw [List.getElem?_eq_getElem (by rw [splice_length _ _ _ (by omega)]; exact hj')] at hsp
                by_cases a1 : j' < j
                · rw [if_pos a1, List.getElem?_eq_getElem hj'] at hsp
                  rw [if_pos (by omega)] at hget
                  obtain ⟨c', hc', hd'⟩ := e6 i' hi j' (by rw [hce]; exact hj')
                  refine ⟨c', hget.trans hc', ?_⟩
                  rw [Option.some.inj hsp]
                  simp only [hce] at hd'
                  exact hd'.since hR hS
                · rw [if_neg a1] at hsp
                  rw [if_neg (by omega)] at hget
                  by_cases a2 : j' < j + ds.length
                  · rw [if_pos a2, List.getElem?_eq_getElem (show j' - j < ds.length by omega)] at hsp
                    rw [if_pos (by omega)] at hget
                    have hq : i' * k + j' - (i' * k + j) = j' - j := by omega
                    rw [hq, List.getElem?_eq_getElem (by omega)] at hget
                    refine ⟨_, hget, ?_⟩
                    rw [Option.some.inj hsp]
                    have := hcs (j' - j) (by omega) (by omega)
                    have hcd : cs[j' - j]'(by omega) = .d (ds[j' - j]'(by omega)) := by
                      have := toDs_eq hds
                      simp [this]
                    rw [hcd] at this
                    cases this with
                    | d hd => exact hd.since hR hS
                  · rw [if_neg a2, List.getElem?_eq_getElem hj'] at hsp
                    rw [if_neg (by omega)] at hget
                    obtain ⟨c', hc', hd'⟩ := e6 i' hi j' (by rw [hce]; exact hj')
                    refine ⟨c', hget.trans hc', ?_⟩
                    rw [Option.some.inj hsp]
                    simp only [hce] at hd'
                    exact hd'.since hR hS
              · rw [List.getElem_set_ne (Ne.symm ei)] at hj'
                have hk' : (es[i']).length = k := hes _ (List.getElem_mem hi')
                obtain ⟨c', hc', hd'⟩ := e6 i' hi' j' hj'
                have hout : i' * k + j' < i * k + j ∨ i * k + j + vs.length ≤ i' * k + j' := by
                  rcases Nat.lt_or_ge i' i with hlt | hge
                  · have := Nat.mul_le_mul_right k (show i' + 1 ≤ i by omega)
                    rw [Nat.add_mul] at this
                    omega
                  · have := Nat.mul_le_mul_right k (show i + 1 ≤ i' by omega)
                    rw [Nat.add_mul] at this
                    omega
                refine ⟨c', ?_, ?_⟩
                · rw [hget]
                  rcases hout with ho' | ho'
                  · rw [if_pos ho']; exact hc'
                  · rw [if_neg (by omega), if_neg (by omega)]; exact hc'
                · simp only [List.getElem_set_ne (Ne.symm ei)]
                  exact hd'.since hR hS
        · cases h
      · cases h
    · cases h
  | box e k v m bs =>
    simp only at h
    split at h
    · rename_i hvv
      cases h
      obtain ⟨B, cp, hph, rfl⟩ := hp (by simp [AObj.ver]; omega)
      have hob := hR.obj id _ ho
      cases hob with
      | box _ _ _ _ _ B' cap cur hk hn hp' hb hc hm hs hcell =>
      have hpB := hp'
      rw [hp'] at hph; cases hph
      have hcap := Nat.mul_le_mul_right k hc
      have hroom : i * k + j + vs.length ≤ cur.size := by omega
      refine ⟨_, _, rfl, run_storeCells_at (P := P) B (i * k + j) e vs 0 cur w hb (by omega) h1, ?_⟩
      simp only [Nat.add_zero]
      generalize hnew : (cur.toList.take (i * k + j) ++ vs ++ cur.toList.drop (i * k + j + vs.length)).toArray = cur'
      have hS : Since H φ N w (H.set id (.box e k v m (splice bs (i * k + j) cs))) φ N (w.setRow B cur') :=
        Since.set ho hpB rfl rfl rfl (fun kk es he => by cases he) (by simp) (by simp) (by simp) (by simp) (fun k hk => setRow_other w B k cur' hk)
      refine ⟨hR.set ho hpB hS (fun k hk => setRow_other w B k cur' hk) ?_, hS⟩
      refine .box e k v m _ B cp cur' hk (by rw [splice_length _ _ _ (by omega)]; exact hn) hpB (setRow_heap w B cur cur' e (0, 0) hb) hc hm (by rw [← hnew, ← hs]; simp; omega) ?_
      intro t ht
      have hget := array_splice cur (i * k + j) vs hroom t
      rw [hnew] at hget
      have hsp := splice_get bs (i * k + j) cs hvv.2 t
      rw [List.getElem?_eq_getElem ht] at hsp
      rw [splice_length _ _ _ (by omega)] at ht
      by_cases a1 : t < i * k + j
      · rw [if_pos a1, List.getElem?_eq_getElem ht] at hsp
        rw [if_pos a1] at hget
        obtain ⟨c', hc', hd'⟩ := hcell t ht
        exact ⟨c', hget.trans hc', by rw [Option.some.inj hsp]; exact hd'.since hR hS⟩
      · rw [if_neg a1] at hsp hget
        by_cases a2 : t < i * k + j + cs.length
        · rw [if_pos a2, List.getElem?_eq_getElem (by omega)] at hsp
          rw [if_pos (by omega), List.getElem?_eq_getElem (by omega)] at hget
          exact ⟨_, hget, by rw [Option.some.inj hsp]; exact (hcs _ (by omega) (by omega)).since hR hS⟩
        · rw [if_neg a2, List.getElem?_eq_getElem ht] at hsp
          rw [if_neg (by omega)] at hget
          obtain ⟨c', hc', hd'⟩ := hcell t ht
          exact ⟨c', hget.trans hc', by rw [Option.some.inj hsp]; exact hd'.since hR hS⟩
    · cases h
  | mp kk es => cases h
  | dead v => cases h

end Go.Proofs.YtfmmemboakdeiaaAw

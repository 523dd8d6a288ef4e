/- Drawn regions in which some operations change the heap: what does not depend on that. -/
import Derived.Test.YtfmmemboakdeiaaAwF
namespace Go.Proofs.YtfmmemboakdeiaaAw
open Go.RowKit
set_option linter.unusedVariables false
set_option linter.unusedSimpArgs false
/-- The old objects are still there. -/
def Ext (B H : AHeap) : Prop := ∀ (id : Nat) (o : AObj), B[id]? = some o → H[id]? = some o
theorem Ext.refl (B : AHeap) : Ext B B := fun _ _ h => h
theorem Ext.app (B T : AHeap) : Ext B (B ++ T) := fun id o h => by rw [List.getElem?_append_left (len_of_get h)]; exact h
/-- What does not look at the heap at all. -/
def hfree (hint : Bool) : Op → Bool
  | .move _ | .assign _ | .pick .. | .build .. | .field .. | .index .. | .unOp .. | .convert .. | .extract .. => true
  | .makeFunc (.func _) _ _ => true
  | .buildSlice .. => !hint
  | .binOp op _ _ _ _ => (match op with | .eql | .neq => false | _ => true)
  | _ => false
theorem hfree_eq {P : Program} {s : Nat → AV} {H H2 : AHeap} {hint : Bool} {op : Op} {K : AV → AHeap → Prop} (h : hfree hint op = true) : aop P s H hint op K = aop P s H2 hint op fun r _ => K r H := by
  by_cases hb : ∃ o t x y t', op = .binOp o t x y t'
  · obtain ⟨o, t, x, y, t', rfl⟩ := hb
    cases o <;> first | (unfold aop; simp only [nilCmp, Bool.false_and, Bool.false_eq_true, false_and]; done) | (cases h; done)
  cases op <;> first | rfl | cases h | (exact absurd ⟨_, _, _, _, _, rfl⟩ hb) | skip
  · cases hint
    · unfold aop
      rfl
    · cases h
  · rename_i f _ _
    cases f <;> first | rfl | cases h
theorem oread_ext {B H : AHeap} (hE : Ext B H) {id ver i j n : Nat} {cs : List AV} (h : oread B id ver i j n = some cs) : oread H id ver i j n = some cs := by
  unfold oread at h ⊢
  cases hb : B[id]? with
  | none => rw [hb] at h; cases h
  | some o => rw [hE id o hb]; rw [hb] at h; exact h
theorem aread_ext {B H : AHeap} (hE : Ext B H) {n : Nat} {x : AV} {cs : List AV} (h : aread B n x = some cs) : aread H n x = some cs := by
  cases x with
  | ptr id ver i j => exact oread_ext hE h
  | iptr => exact h
  | _ => cases h
def isLoad : Op → Bool
  | .load .. => true
  | _ => false
theorem load_ext {P : Program} {s : Nat → AV} {B H : AHeap} {hint : Bool} {op : Op} (hl : isLoad op = true) (hE : Ext B H) {K : AV → AHeap → Prop} {r : AV}
    (h : aop P s B hint op fun r' _ => r' = r) (hk : K r H) : aop P s H hint op K := by
  cases op <;> first | cases hl | skip
  rename_i t x
  unfold aop at h ⊢
  simp only at h ⊢
  cases hg : agB P t with
  | none => rw [hg] at h; exact h
  | some b =>
    rw [hg] at h
    cases b with
    | true =>
      simp only at h ⊢
      split at h
      · split at h
        · rename_i cs hr
          rw [aread_ext hE hr]
          subst h
          exact hk
        · exact h.elim
      · exact h.elim
    | false =>
      simp only at h ⊢
      split at h
      · rename_i c hr
        rw [aread_ext hE hr]
        subst h
        exact hk
      · exact h.elim
/-- May float: the heap's changes do not concern it. -/
def floats (hint : Nat → Bool) (first : Bool) (o : Oper) : Bool := hfree (match o.dst with | some d => hint d | none => false) o.op || (first && isLoad o.op)
section
variable (P : Program) (hint : Nat → Bool) (n : Nat) (ops : Array Oper)
def StepT (H : AHeap) (s : Nat → AV) (o : Oper) (r : AV) (H' : AHeap) : Prop := match o.guard with
  | none => ∀ K KP, K r H' → astep P hint s H o K KP
  | some (j, want) => ∃ b, ayield ops s n j want = some b ∧ if b = true then ∀ K KP, K r H' → astep P hint s H o K KP else r = .tup [] ∧ H' = H
end
section
variable {P : Program} {hint : Nat → Bool} {n : Nat} {ops : Array Oper} {Q : Post}
theorem StepT.op {H H' : AHeap} {s : Nat → AV} {o : Oper} {r : AV} (h : StepT P hint n ops H s o r H') {K : (Nat → AV) → AHeap → Prop} (hk : K (aput n s o.dst r) H') : awpOp P hint n ops Q o K s H := by
  unfold StepT at h
  unfold awpOp
  split at h
  · rename_i hg
    simp only [hg]
    exact h (fun r H' => K (aput n s o.dst r) H') _ hk
  · rename_i j want hg
    obtain ⟨b, hb, h⟩ := h
    simp only [hg, hb]
    split at h
    · rw [if_pos (by assumption)]; exact h (fun r H' => K (aput n s o.dst r) H') _ hk
    · rw [if_neg (by assumption)]; rw [h.1, h.2] at hk; exact hk
theorem StepT.congr {H H' : AHeap} {s s' : Nat → AV} {o : Oper} {r : AV} (h : StepT P hint n ops H s o r H') (h1 : ∀ t ∈ opTmps o, s t = s' t) (h2 : ∀ j w, o.guard = some (j, w) → ∀ d, dstAt ops j = some d → s d = s' d) : StepT P hint n ops H s' o r H' := by
  unfold StepT at h ⊢
  split at h
  · rename_i hg
    try simp only [hg]
    intro K KP hk
    rw [← astep_congr h1]
    exact h K KP hk
  · rename_i j want hg
    try simp only [hg]
    obtain ⟨b, hb, h⟩ := h
    refine ⟨b, ?_, ?_⟩
    · rw [← hb]
      unfold ayield
      have := h2 j want hg
      unfold dstAt at this
      cases hd : (ops[j]?).bind (·.dst) with
      | none => rfl
      | some d => simp only [this d hd]
    · split at h
      · rw [if_pos (by assumption)]
        intro K KP hk
        rw [← astep_congr h1]
        exact h K KP hk
      · rw [if_neg (by assumption)]; exact h
theorem awpAny_mix (hc : PureOk ops) (m : Nat) (hm : m ≤ ops.size) (htl : ∀ i o, ops[i]? = some o → (i = m → ∀ j, j < m → reachB ops 12 i j = true) ∧ (m < i → bindsOn o (i - 1) = true)) (s : Nat → AV) (rs : Nat → AV) (hp : Nat → AHeap) (ch : Nat → Bool)
    (hch : ∀ c c', c < c' → c' < m → ch c = true → ch c' = true → reachB ops 12 c' c = true) (hfr : ∀ i, i < m → ch i = false → hp (i + 1) = hp i)
    (hst : ∀ i o, i < m → ops[i]? = some o → ch i = true → StepT P hint n ops (hp i) (stAt n ops s rs i) o (rs i) (hp (i + 1)))
    (hsf : ∀ i o, i < m → ops[i]? = some o → ch i = false → ∀ j, j ≤ m → (∀ c, c < j → ch c = true → reachB ops 12 c i = false) → StepT P hint n ops (hp j) (stAt n ops s rs i) o (rs i) (hp j))
    (hQ : awpList P hint n ops Q (ops.toList.drop m) (stAt n ops s rs m) (hp m)) :
    ∀ (fuel : Nat) (listed : Array Bool) (s' : Nat → AV) (H : AHeap), listed.size = ops.size → (List.range ops.size).countP (fun j => !listed.getD j true) ≤ fuel →
      (∀ t j, dstAt ops j = some t → s' t = if listed.getD j false = true then (if t < n then rs j else .top) else s t) → (∀ t, (∀ j, dstAt ops j ≠ some t) → s' t = s t) →
      (∀ j oj i, ops[j]? = some oj → listed.getD j false = true → bindsOn oj i = true → listed.getD i false = true) → (∀ i, m ≤ i → i < ops.size → listed.getD i false = false) →
      (∃ q, q ≤ m ∧ H = hp q ∧ ∀ c, c < m → ch c = true → (listed.getD c false = true ↔ c < q)) → awpAny P hint n ops Q fuel listed s' H := by
  have hsame : ∀ d q, q + d ≤ m → (∀ c, c < m → ch c = true → (c < q ↔ c < q + d)) → hp (q + d) = hp q := by
    intro d
    induction d with
    | zero => intros; rfl
    | succ d ihd =>
      intro q hq hcc
      have h1 : ch (q + d) = false := by
        cases h : ch (q + d) with
        | false => rfl
        | true => have := (hcc (q + d) (by omega) h).2 (by omega); omega
      rw [← Nat.add_assoc, hfr (q + d) (by omega) h1]
      refine ihd q (by omega) fun c hcm hct => ⟨fun h => by omega, fun h => (hcc c hcm hct).2 (by omega)⟩
  have hsame2 : ∀ q i, q ≤ m → i ≤ m → (∀ c, c < m → ch c = true → (c < q ↔ c < i)) → hp q = hp i := by
    intro q i hq hi hcc
    rcases Nat.le_total q i with h | h
    · obtain ⟨d, rfl⟩ := Nat.exists_eq_add_of_le h
      exact (hsame d q hi hcc).symm
    · obtain ⟨d, rfl⟩ := Nat.exists_eq_add_of_le h
      exact hsame d i hq fun c hcm hct => (hcc c hcm hct).symm
  have st_no : ∀ k t, (∀ j, j < k → dstAt ops j ≠ some t) → stAt n ops s rs k t = s t := by
    intro k t
    induction k with
    | zero => intro _; rfl
    | succ k ih =>
      intro h
      simp only [stAt]
      cases hd : dstAt ops k with
      | none => exact ih fun j hj => h j (by omega)
      | some d =>
        simp only [aput]
        have : t ≠ d := fun e => h k (by omega) (by rw [hd, e])
        rw [if_neg this]
        exact ih fun j hj => h j (by omega)
  have st_dst : ∀ k t j, dstAt ops j = some t → j < k → stAt n ops s rs k t = if t < n then rs j else .top := by
    intro k t j hj
    induction k with
    | zero => intro h; omega
    | succ k ih =>
      intro h
      simp only [stAt]
      by_cases e : j = k
      · subst e
        rw [hj]
        simp only [aput, if_pos]
      · have := ih (by omega)
        cases hd : dstAt ops k with
        | none => exact this
        | some d =>
          simp only [aput]
          have hne : t ≠ d := fun e' => e (hc.once j k t hj (by rw [hd, e']))
          rw [if_neg hne]
          exact this
  have bind_of : ∀ (listed : Array Bool) (o : Oper) (j : Nat), (o.after.all fun e => !Region.binds .any e || listed.getD e.on false) = true → bindsOn o j = true → listed.getD j false = true := by
    intro listed o j h1 h2
    unfold bindsOn at h2
    rw [List.any_eq_true] at h2
    obtain ⟨e, he, h2⟩ := h2
    rw [Array.all_eq_true_iff_forall_mem] at h1
    have := h1 e (Array.mem_toList_iff.1 he)
    simp only [Bool.and_eq_true, beq_iff_eq] at h2
    simpa [h2.1, h2.2] using this
  have fin : ∀ (listed : Array Bool) (s' : Nat → AV), (∀ i, i < m → listed.getD i true = true) → (∀ i, m ≤ i → i < ops.size → listed.getD i false = false) → listed.size = ops.size →
      (∀ t j, dstAt ops j = some t → s' t = if listed.getD j false = true then (if t < n then rs j else .top) else s t) → (∀ t, (∀ j, dstAt ops j ≠ some t) → s' t = s t) → s' = stAt n ops s rs m := by
    intro listed s' hall hno hsz h1 h2
    funext t
    by_cases hd : ∃ j, dstAt ops j = some t
    · obtain ⟨j, hj⟩ := hd
      have hjl := dstAt_lt hj
      rcases Nat.lt_or_ge j m with hjm | hjm
      · have : listed.getD j false = true := by
          have := hall j hjm
          simpa [Array.getD, show j < listed.size by omega] using this
        rw [h1 t j hj, if_pos this, st_dst _ t j hj hjm]
      · rw [h1 t j hj, if_neg (by simp [hno j hjm hjl]), st_no m t fun j' hj' hd' => by
          have := hc.once j' j t hd' hj
          omega]
    · have hd' : ∀ j, dstAt ops j ≠ some t := fun j hj => hd ⟨j, hj⟩
      rw [h2 t hd', st_no _ t fun j _ => hd' j]
  intro fuel
  induction fuel with
  | zero =>
    intro listed s' H hsz hcnt h1 h2 hcl hno hq
    have hall : ∀ i, i < ops.size → listed.getD i true = true := by
      intro i hi
      have h0 : (List.range ops.size).countP (fun j => !listed.getD j true) = 0 := by omega
      rw [List.countP_eq_zero] at h0
      simpa using h0 i (List.mem_range.2 hi)
    have hs' := fin listed s' (fun i hi => hall i (by omega)) hno hsz h1 h2
    have hH : H = hp m := by
      obtain ⟨q, hqm, rfl, hql⟩ := hq
      refine hsame2 q m hqm (Nat.le_refl _) fun c hcm hct => ⟨fun _ => hcm, fun _ => (hql c hcm hct).1 ?_⟩
      have := hall c (by omega)
      simpa [Array.getD, show c < listed.size by omega] using this
    subst hs'
    subst hH
    exact awpAny_chain hc (fun i o ho hi => (htl i o ho).2 hi) hsz m (Nat.le_refl _) hm (fun i hi => hall i (by omega)) (fun i hi hi2 => hno i hi hi2) hQ (by
      rcases Nat.lt_or_ge m ops.size with h | h
      · have e1 := hall m h
        have e2 := hno m (Nat.le_refl _) h
        simp [Array.getD, show m < listed.size by omega] at e1 e2
        rw [e1] at e2
        cases e2
      · omega)
  | succ fuel ih =>
    intro listed s' H hsz hcnt h1 h2 hcl hno hq
    by_cases hpre : ∀ i, i < m → listed.getD i true = true
    · have hs' := fin listed s' hpre hno hsz h1 h2
      have hH : H = hp m := by
        obtain ⟨q, hqm, rfl, hql⟩ := hq
        refine hsame2 q m hqm (Nat.le_refl _) fun c hcm hct => ⟨fun _ => hcm, fun _ => (hql c hcm hct).1 ?_⟩
        have := hpre c hcm
        simpa [Array.getD, show c < listed.size by omega] using this
      subst hs'
      subst hH
      refine awpAny_chain hc (fun i o ho hi => (htl i o ho).2 hi) hsz m (Nat.le_refl _) hm hpre hno hQ ?_
      have hsub : (List.range ops.size).countP (fun j => decide (m ≤ j)) ≤ (List.range ops.size).countP (fun j => !listed.getD j true) := by
        refine List.countP_mono_left fun j hj hmj => ?_
        have hj := List.mem_range.1 hj
        have := hno j (by simpa using hmj) hj
        simp [Array.getD, show j < listed.size by omega] at this ⊢
        exact this
      have hcm : ∀ N, m ≤ N → (List.range N).countP (fun j => decide (m ≤ j)) = N - m := by
        intro N hN
        induction N with
        | zero => simp
        | succ N ihN =>
          rw [List.range_succ, List.countP_append, List.countP_singleton]
          by_cases e : m ≤ N
          · rw [ihN e]; simp [e]; omega
          · have e' : m = N + 1 := by omega
            have : (List.range N).countP (fun j => decide (m ≤ j)) = 0 := by
              rw [List.countP_eq_zero]
              intro j hj
              have := List.mem_range.1 hj
              simp; omega
            rw [this]; simp [e]; omega
      rw [hcm _ hm] at hsub
      omega
    have hex : ∃ i, i < m ∧ listed.getD i true = false ∧ ∀ j, j < i → listed.getD j true = true := by
      have : ∃ i, i < m ∧ listed.getD i true = false := by
        rcases Classical.not_forall.1 hpre with ⟨i, hi⟩
        rcases Classical.not_imp.1 hi with ⟨h1, h2⟩
        exact ⟨i, h1, by simpa using h2⟩
      obtain ⟨i, hi⟩ := this
      induction i using Nat.strongRecOn with
      | _ i ihi =>
        by_cases hj : ∃ j, j < i ∧ listed.getD j true = false
        · obtain ⟨j, hj1, hj2⟩ := hj
          exact ihi j hj1 ⟨by omega, hj2⟩
        · refine ⟨i, hi.1, hi.2, fun j hji => ?_⟩
          cases hq : listed.getD j true with
          | true => rfl
          | false => exact absurd ⟨j, hji, hq⟩ hj
    obtain ⟨i0, hi0, hu0, hb0⟩ := hex
    refine ⟨fun hr => ?_, fun i hi => ?_⟩
    · exfalso
      have hlt0 : i0 < ops.size := by omega
      have hget : ops[i0]? = some ops[i0] := by simp [hlt0]
      have : i0 ∈ Region.ready .any ops listed := by
        unfold Region.ready
        rw [List.mem_filter]
        refine ⟨List.mem_range.2 hlt0, ?_⟩
        simp only [hu0, hget, Bool.not_false, Bool.true_and, Option.map_some, Option.getD_some]
        rw [Array.all_eq_true_iff_forall_mem]
        intro e he
        cases hbe : Region.binds .any e
        · simp
        have hlt := hc.down i0 _ hget e he hbe
        have := hb0 e.on hlt
        have : listed.getD e.on false = true := by simpa [Array.getD, show e.on < listed.size by omega] using this
        simp [this]
      rw [hr] at this
      simp at this
    · unfold Region.ready at hi
      rw [List.mem_filter] at hi
      obtain ⟨hi, hrd⟩ := hi
      have hi := List.mem_range.1 hi
      have hget : ops[i]? = some ops[i] := by simp [hi]
      simp only [hget, Option.map_some, Option.getD_some, Bool.and_eq_true, Bool.not_eq_true'] at hrd
      obtain ⟨hun, haft⟩ := hrd
      simp only [hget]
      have hdst : dstAt ops i = (ops[i]).dst := by simp [dstAt, hget]
      have hun' : listed.getD i false = false := by simpa [Array.getD, show i < listed.size by omega] using hun
      have him : i < m := by
        rcases Nat.lt_or_ge i m with h | h
        · exact h
        · exfalso
          have hu0' : listed.getD i0 false = false := by simpa [Array.getD, show i0 < listed.size by omega] using hu0
          rcases Nat.lt_or_ge m i with h2 | h2
          · have := bind_of listed ops[i] (i - 1) haft ((htl i _ hget).2 h2)
            rw [hno (i - 1) (by omega) (by omega)] at this
            cases this
          · have him : i = m := by omega
            have := reachB_listed hcl 12 i _ hget (fun j hj => bind_of listed ops[i] j haft hj) i0 ((htl i _ hget).1 him i0 hi0)
            rw [this] at hu0'
            cases hu0'
      have agree : ∀ t j, dstAt ops j = some t → bindsOn ops[i] j = true → stAt n ops s rs i t = s' t := by
        intro t j hj hb
        have hl := bind_of listed ops[i] j haft hb
        have hlt : j < i := by
          unfold bindsOn at hb
          rw [List.any_eq_true] at hb
          obtain ⟨e, he, hb⟩ := hb
          simp only [Bool.and_eq_true, beq_iff_eq] at hb
          have := hc.down i _ hget e (Array.mem_toList_iff.1 he) hb.1
          omega
        rw [st_dst i t j hj hlt, h1 t j hj, if_pos hl]
      have hrd : ∀ t ∈ opTmps ops[i], stAt n ops s rs i t = s' t := by
        intro t ht
        by_cases hd : ∃ j, dstAt ops j = some t
        · obtain ⟨j, hj⟩ := hd
          rcases hc.reads i _ hget t ht j hj with hb | ⟨oj, hoj, hb⟩
          · exact agree t j hj hb
          · have hnl : listed.getD j false = false := by
              cases hq : listed.getD j false with
              | false => rfl
              | true => rw [hcl j oj i hoj hq hb] at hun'; cases hun'
            have hlt : i < j := by
              unfold bindsOn at hb
              rw [List.any_eq_true] at hb
              obtain ⟨e, he, hb⟩ := hb
              simp only [Bool.and_eq_true, beq_iff_eq] at hb
              have := hc.down j _ hoj e (Array.mem_toList_iff.1 he) hb.1
              omega
            rw [h1 t j hj, if_neg (by simp [hnl]), st_no i t fun j' hj' hd' => by
              have := hc.once j' j t hd' hj
              omega]
        · have hd' : ∀ j, dstAt ops j ≠ some t := fun j hj => hd ⟨j, hj⟩
          rw [st_no i t fun j _ => hd' j, h2 t hd']
      have hgd : ∀ j w, (ops[i]).guard = some (j, w) → ∀ d, dstAt ops j = some d → stAt n ops s rs i d = s' d := fun j w hg d hd => agree d j hd (hc.guard i _ hget j w hg)
      have hset : ∀ j b, (listed.setIfInBounds i true).getD j b = if j = i then true else listed.getD j b := by
        intro j b
        simp only [Array.getD_eq_getD_getElem?, Array.getElem?_setIfInBounds]
        by_cases e : i = j
        · subst e; simp [hsz, hi]
        · rw [if_neg e, if_neg (Ne.symm e)]
      obtain ⟨q, hqm, rfl, hql⟩ := hq
      have go : ∀ H2, (∃ q, q ≤ m ∧ H2 = hp q ∧ ∀ c, c < m → ch c = true → ((listed.setIfInBounds i true).getD c false = true ↔ c < q)) → awpAny P hint n ops Q fuel (listed.setIfInBounds i true) (aput n s' (ops[i]).dst (rs i)) H2 := by
        intro H2 hq2
        refine ih _ _ _ (by simpa using hsz) ?_ ?_ ?_ ?_ ?_ hq2
        · have := countP_lt (p := fun j => !(listed.setIfInBounds i true).getD j true) (q := fun j => !listed.getD j true) (i := i) (fun j hj => by
            simp only [hset] at hj ⊢
            by_cases e : j = i
            · simp [e] at hj
            · simpa [e] using hj) (by simp [hset]) (by simp [hun]) (List.range ops.size) (List.mem_range.2 hi)
          omega
        · intro t j hj
          rw [hset]
          by_cases e : j = i
          · subst e
            rw [hdst] at hj
            rw [if_pos rfl, if_pos rfl, hj]
            simp only [aput, if_pos]
          · rw [if_neg e]
            cases hd : (ops[i]).dst with
            | none => exact h1 t j hj
            | some d =>
              simp only [aput]
              have : t ≠ d := fun e' => e (hc.once j i t hj (by rw [hdst, hd, e']))
              rw [if_neg this]
              exact h1 t j hj
        · intro t ht
          cases hd : (ops[i]).dst with
          | none => exact h2 t ht
          | some d =>
            simp only [aput]
            have : t ≠ d := fun e' => ht i (by rw [hdst, hd, e'])
            rw [if_neg this]
            exact h2 t ht
        · intro j oj i' hoj hlj hb
          rw [hset] at hlj ⊢
          by_cases e' : i' = i
          · rw [if_pos e']
          · rw [if_neg e']
            by_cases e : j = i
            · subst e
              rw [hget] at hoj
              cases hoj
              exact bind_of listed _ i' haft hb
            · rw [if_neg e] at hlj
              exact hcl j oj i' hoj hlj hb
        · intro j hj hj2
          rw [hset, if_neg (by omega)]
          exact hno j hj hj2
      cases hci : ch i with
      | false =>
        have hnr : ∀ c, c < q → ch c = true → reachB ops 12 c i = false := fun c hcq hct => by
          cases hr : reachB ops 12 c i with
          | false => rfl
          | true =>
            exfalso
            have hgc : ops[c]? = some ops[c] := by simp [show c < ops.size by omega]
            have hl := (hql c (by omega) hct).2 hcq
            have := reachB_listed hcl 12 c _ hgc (fun j hj => hcl c _ j hgc hl hj) i hr
            rw [hun'] at this
            cases this
        refine StepT.op ((hsf i _ him hget hci q hqm hnr).congr hrd hgd) (go _ ⟨q, hqm, rfl, fun c hcm hct => ?_⟩)
        rw [hset, if_neg (by intro e; rw [e, hci] at hct; cases hct)]
        exact hql c hcm hct
      | true =>
        have hbef : ∀ c, c < m → ch c = true → (listed.getD c false = true ↔ c < i) := by
          intro c hcm hct
          refine ⟨fun hl => ?_, fun hlt => ?_⟩
          · rcases Nat.lt_trichotomy c i with h | h | h
            · exact h
            · subst h; rw [hun'] at hl; cases hl
            · exfalso
              have hcs : c < ops.size := by omega
              have hgc : ops[c]? = some ops[c] := by simp [hcs]
              have := reachB_listed hcl 12 c _ hgc (fun j hj => hcl c _ j hgc hl hj) i (hch i c h hcm hci hct)
              rw [hun'] at this
              cases this
          · exact reachB_listed hcl 12 i _ hget (fun j hj => bind_of listed ops[i] j haft hj) c (hch c i hlt him hct hci)
        have hqi : hp q = hp i := hsame2 q i hqm (by omega) fun c hcm hct => (hql c hcm hct).symm.trans (hbef c hcm hct)
        rw [hqi]
        refine StepT.op ((hst i _ him hget hci).congr hrd hgd) (go _ ⟨i + 1, by omega, rfl, fun c hcm hct => ?_⟩)
        rw [hset]
        by_cases e : c = i
        · subst e; simp
        · rw [if_neg e]
          refine (hbef c hcm hct).trans ⟨fun h => by omega, fun h => by omega⟩
end
section
variable (P : Program) (hint : Nat → Bool) (n : Nat) (ops : Array Oper)
/-- The region in the order of its text; where a mark says so, an operation may change the heap, but for the old objects. -/
def awpMix (B : AHeap) (Q : Post) : List Bool → List Oper → (Nat → AV) → AHeap → Prop
  | [], l, s, H => awpList P hint n ops Q l s H
  | _ :: _, [], s, H => awpList P hint n ops Q [] s H
  | true :: bs, o :: rest, s, H => awpOp P hint n ops (fun _ _ _ => False) o (fun s' H' => Ext B H' ∧ awpMix B Q bs rest s' H') s H
  | false :: bs, o :: rest, s, H => awpOp P hint n ops (fun _ _ _ => False) o (fun s' H' => H' = H ∧ awpMix B Q bs rest s' H') s H
end
section
variable {P : Program} {hint : Nat → Bool} {n : Nat} {ops : Array Oper} {Q : Post}
theorem step_of {o : Oper} {s : Nat → AV} {H : AHeap} {K : (Nat → AV) → AHeap → Prop} (h : awpOp P hint n ops (fun _ _ _ => False) o K s H) : ∃ r H', StepT P hint n ops H s o r H' ∧ K (aput n s o.dst r) H' := by
  unfold awpOp at h
  split at h
  · rename_i hg
    obtain ⟨r, H', hr, hdet⟩ := astep_det h
    exact ⟨r, H', by unfold StepT; simp only [hg]; exact fun K KP hk => hdet K KP hk, hr⟩
  · rename_i j want hg
    split at h
    · rename_i b hb
      split at h
      · rename_i hbw
        obtain ⟨r, H', hr, hdet⟩ := astep_det h
        exact ⟨r, H', by unfold StepT; simp only [hg]; exact ⟨b, hb, by rw [if_pos hbw]; exact fun K KP hk => hdet K KP hk⟩, hr⟩
      · rename_i hbw
        exact ⟨.tup [], H, by unfold StepT; simp only [hg]; exact ⟨b, hb, by simp [hbw]⟩, h⟩
    · exact h.elim
theorem awpMix_steps {B : AHeap} (s0 : Nat → AV) : ∀ (bs : List Bool) (k : Nat) (rs0 : Nat → AV) (hp0 : Nat → AHeap), k + bs.length ≤ ops.size → awpMix P hint n ops B Q bs (ops.toList.drop k) (stAt n ops s0 rs0 k) (hp0 k) →
    ∃ (rs : Nat → AV) (hp : Nat → AHeap), (∀ i, i < k → rs i = rs0 i) ∧ (∀ i, i ≤ k → hp i = hp0 i) ∧
      (∀ i o, k ≤ i → i < k + bs.length → ops[i]? = some o → (bs[i - k]? = some true → StepT P hint n ops (hp i) (stAt n ops s0 rs i) o (rs i) (hp (i + 1)) ∧ Ext B (hp (i + 1))) ∧
        (bs[i - k]? = some false → StepT P hint n ops (hp i) (stAt n ops s0 rs i) o (rs i) (hp i) ∧ hp (i + 1) = hp i)) ∧
      awpList P hint n ops Q (ops.toList.drop (k + bs.length)) (stAt n ops s0 rs (k + bs.length)) (hp (k + bs.length))
  | [], k, rs0, hp0, hk, h => ⟨rs0, hp0, fun _ _ => rfl, fun _ _ => rfl, fun i o h1 h2 => by simp at h2; omega, by
      have h : awpList P hint n ops Q (ops.toList.drop k) (stAt n ops s0 rs0 k) (hp0 k) := by
        cases hd : ops.toList.drop k <;> (rw [hd] at h; exact h)
      exact h⟩
  | b :: bs, k, rs0, hp0, hk, h => by
    simp only [List.length_cons] at hk
    have hlt : k < ops.size := by omega
    have hget : ops[k]? = some ops[k] := by simp [hlt]
    have hd : ops.toList.drop k = ops[k] :: ops.toList.drop (k + 1) := by
      rw [List.drop_eq_getElem_cons (by simpa using hlt)]; simp
    rw [hd] at h
    have hdst : dstAt ops k = (ops[k]).dst := by simp [dstAt, hget]
    have step : ∃ r H', StepT P hint n ops (hp0 k) (stAt n ops s0 rs0 k) ops[k] r H' ∧ (b = true → Ext B H') ∧ (b = false → H' = hp0 k) ∧ awpMix P hint n ops B Q bs (ops.toList.drop (k + 1)) (aput n (stAt n ops s0 rs0 k) (ops[k]).dst r) H' := by
      cases b with
      | true =>
        obtain ⟨r, H', h1, h2, h3⟩ := step_of h
        exact ⟨r, H', h1, fun _ => h2, fun e => (by cases e), h3⟩
      | false =>
        obtain ⟨r, H', h1, rfl, h3⟩ := step_of h
        exact ⟨r, _, h1, fun e => (by cases e), fun _ => rfl, h3⟩
    obtain ⟨r, H', h1, h2, h3, h4⟩ := step
    let rs1 : Nat → AV := fun i => if i = k then r else rs0 i
    let hp1 : Nat → AHeap := fun i => if i = k + 1 then H' else hp0 i
    have e1 : rs1 k = r := if_pos rfl
    have e2 : hp1 (k + 1) = H' := if_pos rfl
    have hst : ∀ (rs : Nat → AV) i, i ≤ k → (∀ j, j < i → rs j = rs0 j) → stAt n ops s0 rs i = stAt n ops s0 rs0 i := by
      intro rs i
      induction i with
      | zero => intros; rfl
      | succ i ih =>
        intro hi hr
        simp only [stAt, ih (by omega) fun j hj => hr j (by omega), hr i (by omega)]
    have h5 : awpMix P hint n ops B Q bs (ops.toList.drop (k + 1)) (stAt n ops s0 rs1 (k + 1)) (hp1 (k + 1)) := by
      rw [e2]
      simp only [stAt, e1, hdst]
      rw [hst rs1 k (Nat.le_refl _) fun j hj => if_neg (by omega)]
      exact h4
    obtain ⟨rs, hp, g1, g2, g3, g4⟩ := awpMix_steps s0 bs (k + 1) rs1 hp1 (by omega) h5
    have f1 : ∀ i, i < k → rs i = rs0 i := fun i hi => by rw [g1 i (by omega)]; exact if_neg (by omega)
    have f2 : ∀ i, i ≤ k → hp i = hp0 i := fun i hi => by rw [g2 i (by omega)]; exact if_neg (by omega)
    have f3 : rs k = r := by rw [g1 k (by omega)]; exact e1
    have f4 : hp (k + 1) = H' := by rw [g2 (k + 1) (by omega)]; exact e2
    refine ⟨rs, hp, f1, f2, fun i o hi hi2 ho => ?_, by rw [List.length_cons, show k + (bs.length + 1) = k + 1 + bs.length from by omega]; exact g4⟩
    rcases Nat.lt_or_ge k i with hki | hki
    · have := g3 i o hki (by simp only [List.length_cons] at hi2; omega) ho
      rw [show i - k = (i - (k + 1)) + 1 from by omega, List.getElem?_cons_succ]
      exact this
    · obtain rfl : i = k := by omega
      rw [hget] at ho
      cases ho
      rw [Nat.sub_self, List.getElem?_cons_zero, f2 i (Nat.le_refl _), f3, f4, hst rs i (Nat.le_refl _) fun j hj => f1 j hj]
      refine ⟨fun e => ?_, fun e => ?_⟩
      · exact ⟨h1, h2 (Option.some.inj e)⟩
      · have := h3 (Option.some.inj e)
        subst this
        exact ⟨h1, rfl⟩
theorem astep_aop {o : Oper} {s : Nat → AV} {H : AHeap} {K : AV → AHeap → Prop} {KP : Value → AHeap → Prop} (h1 : ∀ x, o.op ≠ .panic x) (h2 : ∀ c, o.op ≠ .call c) : astep P hint s H o K KP = aop P s H (match o.dst with | some d => hint d | none => false) o.op K := by
  unfold astep
  split
  · rename_i x hx; exact absurd hx (h1 x)
  · rename_i c hx; exact absurd hx (h2 c)
  · rfl
theorem floats_step {o : Oper} {s : Nat → AV} {B H H2 : AHeap} {r : AV} {first : Bool} (hf : floats hint first o = true) (hE : first = true → Ext H H2) (h : ∀ K KP, K r H → astep P hint s H o K KP) : ∀ K KP, K r H2 → astep P hint s H2 o K KP := by
  intro K KP hk
  have h0 := h (fun r' _ => r' = r) (fun _ _ => False) rfl
  unfold floats at hf
  rw [Bool.or_eq_true] at hf
  rcases hf with hf | hf
  · have n1 : ∀ x, o.op ≠ .panic x := fun x e => by rw [e] at hf; cases hf
    have n2 : ∀ c, o.op ≠ .call c := fun x e => by rw [e] at hf; cases hf
    rw [astep_aop n1 n2] at h0 ⊢
    rw [hfree_eq (H := H2) (H2 := H) hf]
    exact aop_mono (fun r' _ e => by rw [e]; exact hk) h0
  · rw [Bool.and_eq_true] at hf
    have n1 : ∀ x, o.op ≠ .panic x := fun x e => by rw [e] at hf; cases hf.2
    have n2 : ∀ c, o.op ≠ .call c := fun x e => by rw [e] at hf; cases hf.2
    rw [astep_aop n1 n2] at h0 ⊢
    exact load_ext hf.2 (hE hf.1) h0 hk
theorem floats_stepT {o : Oper} {s : Nat → AV} {H H2 : AHeap} {r : AV} {first : Bool} (hf : floats hint first o = true) (hE : first = true → Ext H H2) (h : StepT P hint n ops H s o r H) : StepT P hint n ops H2 s o r H2 := by
  unfold StepT at h ⊢
  split at h
  · rename_i hg
    try simp only [hg]
    exact floats_step (B := H) hf hE h
  · rename_i j want hg
    try simp only [hg]
    obtain ⟨b, hb, h⟩ := h
    refine ⟨b, hb, ?_⟩
    split at h
    · rw [if_pos (by assumption)]; exact floats_step (B := H) hf hE h
    · rw [if_neg (by assumption)]; simp [h.1]
end
def mixCheck (hint : Nat → Bool) (ops : Array Oper) (bs : List Bool) : Bool := (List.range bs.length).all fun i => match bs[i]?, ops[i]? with
  | some false, some o => floats hint ((bs.take i).all (!·)) o
  | some true, some _ => (List.range i).all fun c => bs[c]? == some false || reachB ops 12 i c
  | _, _ => false
section
variable {P : Program} {hint : Nat → Bool} {n : Nat} {ops : Array Oper} {Q : Post}
/-- A drawn region some of whose marked operations, all bound one behind the other, change the heap. -/
theorem awp_drawM (bs : List Bool) {H0 H : AHeap} {id : Nat} {s : Nat → AV} (hm : P.follows .mixedOrders = true) (hc : pureCheck ops = true) (ht : tailCheck ops bs.length = true) (hx : mixCheck hint ops bs = true)
    (h : awpMix P hint n ops H Q bs ops.toList s H) : awp P hint n H0 (.region id ops true) Q s H := by
  obtain ⟨hms, htl⟩ := tailCheck_ok ht
  refine ⟨hm, ?_⟩
  obtain ⟨rs, hp, _, g2, g3, g4⟩ := awpMix_steps s bs 0 (fun _ => .top) (fun _ => H) (by omega) h
  have g20 : hp 0 = H := g2 0 (Nat.le_refl _)
  simp only [Nat.zero_add, Nat.sub_zero, Nat.zero_le, true_implies] at g3 g4
  unfold mixCheck at hx
  rw [List.all_eq_true] at hx
  have hget : ∀ i, i < bs.length → ∃ o, ops[i]? = some o := fun i hi => ⟨ops[i]'(by omega), by simp [show i < ops.size by omega]⟩
  have hbs : ∀ i (hi : i < bs.length), bs[i]? = some bs[i] := fun i hi => List.getElem?_eq_getElem hi
  have hext : ∀ j, j ≤ bs.length → Ext H (hp j) := by
    intro j
    induction j with
    | zero => intro _; rw [g20]; exact Ext.refl H
    | succ j ihj =>
      intro hj
      obtain ⟨o, ho⟩ := hget j (by omega)
      have g := g3 j o (by omega) ho
      have hb := hbs j (by omega)
      cases hbj : bs[j]'(by omega) with
      | true => rw [hbj] at hb; exact (g.1 hb).2
      | false => rw [hbj] at hb; rw [(g.2 hb).2]; exact ihj (by omega)
  let ch : Nat → Bool := fun i => bs[i]?.getD false
  have chT : ∀ i, i < bs.length → ch i = true → bs[i]? = some true := fun i hi h => by
    have h : bs[i]?.getD false = true := h
    rw [hbs i hi] at h ⊢
    simpa using h
  have chF : ∀ i, i < bs.length → ch i = false → bs[i]? = some false := fun i hi h => by
    have h : bs[i]?.getD false = false := h
    rw [hbs i hi] at h ⊢
    simpa using h
  have hbase : ∀ i, i ≤ bs.length → (∀ c, c < i → ch c = false) → hp i = H := by
    intro i
    induction i with
    | zero => intros; exact g20
    | succ i ihi =>
      intro hi hcf
      obtain ⟨o, ho⟩ := hget i (by omega)
      rw [((g3 i o (by omega) ho).2 (chF i (by omega) (hcf i (by omega)))).2]
      exact ihi (by omega) fun c hc => hcf c (by omega)
  refine awpAny_mix (pureCheck_ok hc) bs.length hms htl s rs hp ch ?_ ?_ ?_ ?_ g4 ops.size (Array.replicate ops.size false) s H (by simp) ?_ ?_ ?_ ?_ ?_ ⟨0, Nat.zero_le _, g20.symm, fun c hcm hct => ?_⟩
  · intro c c' h1 h2 h3 h4
    have := hx c' (List.mem_range.2 h2)
    obtain ⟨o, ho⟩ := hget c' h2
    rw [chT c' h2 h4, ho] at this
    simp only [List.all_eq_true] at this
    have := this c (List.mem_range.2 h1)
    rw [chT c (by omega) h3] at this
    simpa using this
  · intro i hi hci
    obtain ⟨o, ho⟩ := hget i hi
    exact ((g3 i o hi ho).2 (chF i hi hci)).2
  · intro i o hi ho hci
    exact ((g3 i o hi ho).1 (chT i hi hci)).1
  · intro i o hi ho hci j hj _
    have hfl := hx i (List.mem_range.2 hi)
    rw [chF i hi hci, ho] at hfl
    refine floats_stepT hfl (fun hfirst => ?_) ((g3 i o hi ho).2 (chF i hi hci)).1
    rw [hbase i (by omega) fun c hc => ?_]
    · exact hext j hj
    · rw [List.all_eq_true] at hfirst
      have := hfirst (bs[c]'(by omega)) (by
        rw [List.mem_iff_getElem]
        exact ⟨c, by simp; omega, by simp⟩)
      show bs[c]?.getD false = false
      rw [hbs c (by omega)]
      simpa using this
  · exact Nat.le_trans List.countP_le_length (by simp)
  · intro t j hj
    have hjl := dstAt_lt hj
    rw [if_neg (by simp [Array.getD, hjl])]
  · intro t _; rfl
  · intro j oj i hoj hl
    have hjl := (Array.getElem?_eq_some_iff.1 hoj).1
    simp [Array.getD, hjl] at hl
  · intro i hi hi2
    simp [Array.getD, hi2]
  · have : c < ops.size := by omega
    simp [Array.getD, this]
end
def mixCheckN (hint : Nat → Bool) (ops : Array Oper) (bs : List Bool) (c0 : Nat) : Bool := bs[c0]? == some true && (List.range bs.length).all fun i => match bs[i]?, ops[i]? with
  | some false, some o => floats hint false o || (decide (i < c0) && reachB ops 12 c0 i)
  | some true, some _ => decide (c0 ≤ i) && (List.range i).all fun c => bs[c]? == some false || reachB ops 12 i c
  | _, _ => false
theorem Ext.nil (H : AHeap) : Ext [] H = True := eq_true fun id o h => by simp at h
section
variable {P : Program} {hint : Nat → Bool} {n : Nat} {ops : Array Oper} {Q : Post}
/-- A drawn region whose marked operations, all bound one behind the other, change the heap in any way: what reads it is bound ahead of the first of them. -/
theorem awp_drawN (bs : List Bool) (c0 : Nat) {H0 H : AHeap} {id : Nat} {s : Nat → AV} (hm : P.follows .mixedOrders = true) (hc : pureCheck ops = true) (ht : tailCheck ops bs.length = true) (hx : mixCheckN hint ops bs c0 = true)
    (h : awpMix P hint n ops [] Q bs ops.toList s H) : awp P hint n H0 (.region id ops true) Q s H := by
  obtain ⟨hms, htl⟩ := tailCheck_ok ht
  refine ⟨hm, ?_⟩
  obtain ⟨rs, hp, _, g2, g3, g4⟩ := awpMix_steps s bs 0 (fun _ => .top) (fun _ => H) (by omega) h
  have g20 : hp 0 = H := g2 0 (Nat.le_refl _)
  simp only [Nat.zero_add, Nat.sub_zero, Nat.zero_le, true_implies] at g3 g4
  unfold mixCheckN at hx
  rw [Bool.and_eq_true, List.all_eq_true] at hx
  obtain ⟨hx0, hx⟩ := hx
  have hx0 : bs[c0]? = some true := by simpa using hx0
  have hget : ∀ i, i < bs.length → ∃ o, ops[i]? = some o := fun i hi => ⟨ops[i]'(by omega), by simp [show i < ops.size by omega]⟩
  have hbs : ∀ i (hi : i < bs.length), bs[i]? = some bs[i] := fun i hi => List.getElem?_eq_getElem hi
  let ch : Nat → Bool := fun i => bs[i]?.getD false
  have chT : ∀ i, i < bs.length → ch i = true → bs[i]? = some true := fun i hi h => by
    have h : bs[i]?.getD false = true := h
    rw [hbs i hi] at h ⊢
    simpa using h
  have chF : ∀ i, i < bs.length → ch i = false → bs[i]? = some false := fun i hi h => by
    have h : bs[i]?.getD false = false := h
    rw [hbs i hi] at h ⊢
    simpa using h
  have hc0 : ch c0 = true := by show bs[c0]?.getD false = true; rw [hx0]; rfl
  have hfirst : ∀ i, i < bs.length → i < c0 → ch i = false := by
    intro i hi hlt
    cases hci : ch i with
    | false => rfl
    | true =>
      exfalso
      obtain ⟨o, ho⟩ := hget i hi
      have := hx i (List.mem_range.2 hi)
      rw [chT i hi hci, ho] at this
      simp only [Bool.and_eq_true, decide_eq_true_eq] at this
      omega
  have hbase : ∀ i, i ≤ bs.length → i ≤ c0 → hp i = H := by
    intro i
    induction i with
    | zero => intros; exact g20
    | succ i ihi =>
      intro hi hcf
      obtain ⟨o, ho⟩ := hget i (by omega)
      rw [((g3 i o (by omega) ho).2 (chF i (by omega) (hfirst i (by omega) (by omega)))).2]
      exact ihi (by omega) (by omega)
  refine awpAny_mix (pureCheck_ok hc) bs.length hms htl s rs hp ch ?_ ?_ ?_ ?_ g4 ops.size (Array.replicate ops.size false) s H (by simp) ?_ ?_ ?_ ?_ ?_ ⟨0, Nat.zero_le _, g20.symm, fun c hcm hct => ?_⟩
  · intro c c' h1 h2 h3 h4
    have := hx c' (List.mem_range.2 h2)
    obtain ⟨o, ho⟩ := hget c' h2
    rw [chT c' h2 h4, ho] at this
    simp only [Bool.and_eq_true, List.all_eq_true] at this
    have := this.2 c (List.mem_range.2 h1)
    rw [chT c (by omega) h3] at this
    simpa using this
  · intro i hi hci
    obtain ⟨o, ho⟩ := hget i hi
    exact ((g3 i o hi ho).2 (chF i hi hci)).2
  · intro i o hi ho hci
    exact ((g3 i o hi ho).1 (chT i hi hci)).1
  · intro i o hi ho hci j hj hnr
    have hfl := hx i (List.mem_range.2 hi)
    rw [chF i hi hci, ho] at hfl
    simp only [Bool.or_eq_true, Bool.and_eq_true, decide_eq_true_eq] at hfl
    have hs := ((g3 i o hi ho).2 (chF i hi hci)).1
    rcases hfl with hfl | ⟨hlt, hre⟩
    · exact floats_stepT hfl (fun hf => by cases hf) hs
    · have hjc : j ≤ c0 := by
        rcases Nat.lt_or_ge c0 j with h1 | h1
        · have := hnr c0 h1 hc0
          rw [hre] at this; cases this
        · exact h1
      rw [hbase j hj hjc]
      rw [hbase i (by omega) (by omega)] at hs
      exact hs
  · exact Nat.le_trans List.countP_le_length (by simp)
  · intro t j hj
    have hjl := dstAt_lt hj
    rw [if_neg (by simp [Array.getD, hjl])]
  · intro t _; rfl
  · intro j oj i hoj hl
    have hjl := (Array.getElem?_eq_some_iff.1 hoj).1
    simp [Array.getD, hjl] at hl
  · intro i hi hi2
    simp [Array.getD, hi2]
  · have : c < ops.size := by omega
    simp [Array.getD, this]
end
section
variable (P : Program) (hint : Nat → Bool) (n : Nat) (ops : Array Oper) (Q : Post) (rest : List Oper) (s : Nat → AV) (H B : AHeap) (bs : List Bool)
def KMix (b : Bool) (d : Option Tmp) (H0 : AHeap) : AV → AHeap → Prop := fun r H' => (match b with | true => Ext B H' | false => H' = H0) ∧ awpMix P hint n ops B Q bs rest (aput n s d r) H'
theorem KMix_true (d : Option Tmp) (H0 : AHeap) (r : AV) : KMix P hint n ops Q rest s B bs true d H0 r H = (Ext B H ∧ awpMix P hint n ops B Q bs rest (aput n s d r) H) := rfl
theorem KMix_false (d : Option Tmp) (H0 : AHeap) (r : AV) : KMix P hint n ops Q rest s B bs false d H0 r H = (H = H0 ∧ awpMix P hint n ops B Q bs rest (aput n s d r) H) := rfl
theorem awpMix_end (l : List Oper) : awpMix P hint n ops B Q [] l s H = awpList P hint n ops Q l s H := by cases l <;> rfl
theorem awpMix_none (b : Bool) (d : Option Tmp) (op : Op) (ty : TypeId) (p : String) (af : Array Edge) : awpMix P hint n ops B Q (b :: bs) (⟨d, op, ty, p, af, none⟩ :: rest) s H = astep P hint s H ⟨d, op, ty, p, af, none⟩ (KMix P hint n ops Q rest s B bs b d H) KNo := by
  cases b <;> simp only [awpMix, awpOp] <;> rfl
theorem awpMix_mk (l : List Oper) : awpMix P hint n ops B Q bs l.toArray.toList s H = awpMix P hint n ops B Q bs l s H := rfl
end
@[congr] theorem cg_mix {P : Program} {hint : Nat → Bool} {n : Nat} {ops : Array Oper} {Q : Post} {bs : List Bool} {l : List Oper} {s : Nat → AV} {B H H' : AHeap} (h : nf H = H') : awpMix P hint n ops B Q bs l s H = awpMix P hint n ops B Q bs l s H' := by rw [← h]; rfl
@[congr] theorem cg_KMix {P : Program} {hint : Nat → Bool} {n : Nat} {ops : Array Oper} {Q : Post} {rest : List Oper} {s : Nat → AV} {bs : List Bool} {b : Bool} {d : Option Tmp} {B H0 H H' : AHeap} {r r' : AV} (g : nf r = r') (h : nf H = H') : KMix P hint n ops Q rest s B bs b d H0 r H = KMix P hint n ops Q rest s B bs b d H0 r' H' := by rw [← g, ← h]; rfl
attribute [go_sem] Ext.nil KMix_true KMix_false awpMix_end awpMix_none awpMix_mk
end Go.Proofs.YtfmmemboakdeiaaAw

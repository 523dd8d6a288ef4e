/- Drawn regions in which some operations change the heap: what does not depend on that. What a function leaves may be frozen afterwards. The document's Holds and All (layer 13): what they do. Stable sorting, in plain Lean: what is sorted, and stands alike within each class, is one list. Three-way comparing functions: what they have in common; val.Compare is one. Neighbours that are alike, each once: in plain Lean. What is sorted, each once: in plain Lean. Lists of numbers and of bytes. slices.IndexFunc, ContainsFunc of values with a closure: what they do. The reference's Below (layer 9): what it does. Words that are put in one by one are the words: plain facts. sorted.at, sorted.Cols, among.some: what they do. The document's Same for values. A slot that is nil may be taken for an empty list. The document's Words (layer 9), At (layer 16), Holds, All (layer 13), Lists (layer 5): what they do. slices' swapRange, rotate, insertion sort over Val: what they do. slices' rotate over Val: what it does. slices' insertion sort over Val: what it does. Numbers that are not negative, in the machine's operations. -/
import Derived.Test.YtfmmemboakdeiaaM03
namespace Go.Proofs.YtfmmemboakdeiaaAw
open Go.RowKit
set_option linter.unusedVariables false
set_option linter.unusedSimpArgs false
/-- The old objects are still there. -/
def Ext (B H : AHeap) : Prop := ∀ (id : Nat) (o : AObj), B[id]? = some o → H[id]? = some o
theorem Ext.refl (B : AHeap) : Ext B B := fun _ _ h => h
theorem Ext.app (B T : AHeap) : Ext B (B ++ T) := fun id o h => by rw [List.getElem?_append_left (len_of_get h)]; exact h
/-- What does not look at the heap at all. -/
def hfree (hint : Bool) : Op → Bool
  | .move _ | .assign _ | .pick .. | .build .. | .field .. | .index .. | .unOp .. | .convert .. | .extract .. => true
  | .makeFunc (.func _) _ _ => true
  | .buildSlice .. => !hint
  | .binOp op _ _ _ _ => (match op with | .eql | .neq => false | _ => true)
  | _ => false
theorem hfree_eq {P : Program} {s : Nat → AV} {H H2 : AHeap} {hint : Bool} {op : Op} {K : AV → AHeap → Prop} (h : hfree hint op = true) : aop P s H hint op K = aop P s H2 hint op fun r _ => K r H := by
  by_cases hb : ∃ o t x y t', op = .binOp o t x y t'
  · obtain ⟨o, t, x, y, t', rfl⟩ := hb
    cases o <;> first | (unfold aop; simp only [nilCmp, Bool.false_and, Bool.false_eq_true, false_and]; done) | (cases h; done)
  cases op <;> first | rfl | cases h | (exact absurd ⟨_, _, _, _, _, rfl⟩ hb) | skip
  · cases hint
    · unfold aop
      rfl
    · cases h
  · rename_i f _ _
    cases f <;> first | rfl | cases h
theorem oread_ext {B H : AHeap} (hE : Ext B H) {id ver i j n : Nat} {cs : List AV} (h : oread B id ver i j n = some cs) : oread H id ver i j n = some cs := by
  unfold oread at h ⊢
  cases hb : B[id]? with
  | none => rw [hb] at h; cases h
  | some o => rw [hE id o hb]; rw [hb] at h; exact h
theorem aread_ext {B H : AHeap} (hE : Ext B H) {n : Nat} {x : AV} {cs : List AV} (h : aread B n x = some cs) : aread H n x = some cs := by
  cases x with
  | ptr id ver i j => exact oread_ext hE h
  | iptr => exact h
  | _ => cases h
def isLoad : Op → Bool
  | .load .. => true
  | _ => false
theorem load_ext {P : Program} {s : Nat → AV} {B H : AHeap} {hint : Bool} {op : Op} (hl : isLoad op = true) (hE : Ext B H) {K : AV → AHeap → Prop} {r : AV}
    (h : aop P s B hint op fun r' _ => r' = r) (hk : K r H) : aop P s H hint op K := by
  cases op <;> first | cases hl | skip
  rename_i t x
  unfold aop at h ⊢
  simp only at h ⊢
  cases hg : agB P t with
  | none => rw [hg] at h; exact h
  | some b =>
    rw [hg] at h
    cases b with
    | true =>
      simp only at h ⊢
      split at h
      · split at h
        · rename_i cs hr
          rw [aread_ext hE hr]
          subst h
          exact hk
        · exact h.elim
      · exact h.elim
    | false =>
      simp only at h ⊢
      split at h
      · rename_i c hr
        rw [aread_ext hE hr]
        subst h
        exact hk
      · exact h.elim
/-- May float: the heap's changes do not concern it. -/
def floats (hint : Nat → Bool) (first : Bool) (o : Oper) : Bool := hfree (match o.dst with | some d => hint d | none => false) o.op || (first && isLoad o.op)
section
variable (P : Program) (hint : Nat → Bool) (n : Nat) (ops : Array Oper)
def StepT (H : AHeap) (s : Nat → AV) (o : Oper) (r : AV) (H' : AHeap) : Prop := match o.guard with
  | none => ∀ K KP, K r H' → astep P hint s H o K KP
  | some (j, want) => ∃ b, ayield ops s n j want = some b ∧ if b = true then ∀ K KP, K r H' → astep P hint s H o K KP else r = .tup [] ∧ H' = H
end
section
variable {P : Program} {hint : Nat → Bool} {n : Nat} {ops : Array Oper} {Q : Post}
theorem StepT.op {H H' : AHeap} {s : Nat → AV} {o : Oper} {r : AV} (h : StepT P hint n ops H s o r H') {K : (Nat → AV) → AHeap → Prop} (hk : K (aput n s o.dst r) H') : awpOp P hint n ops Q o K s H := by
  unfold StepT at h
  unfold awpOp
  split at h
  · rename_i hg
    simp only [hg]
    exact h (fun r H' => K (aput n s o.dst r) H') _ hk
  · rename_i j want hg
    obtain ⟨b, hb, h⟩ := h
    simp only [hg, hb]
    split at h
    · rw [if_pos (by assumption)]; exact h (fun r H' => K (aput n s o.dst r) H') _ hk
    · rw [if_neg (by assumption)]; rw [h.1, h.2] at hk; exact hk
theorem StepT.congr {H H' : AHeap} {s s' : Nat → AV} {o : Oper} {r : AV} (h : StepT P hint n ops H s o r H') (h1 : ∀ t ∈ opTmps o, s t = s' t) (h2 : ∀ j w, o.guard = some (j, w) → ∀ d, dstAt ops j = some d → s d = s' d) : StepT P hint n ops H s' o r H' := by
  unfold StepT at h ⊢
  split at h
  · rename_i hg
    try simp only [hg]
    intro K KP hk
    rw [← astep_congr h1]
    exact h K KP hk
  · rename_i j want hg
    try simp only [hg]
    obtain ⟨b, hb, h⟩ := h
    refine ⟨b, ?_, ?_⟩
    · rw [← hb]
      unfold ayield
      have := h2 j want hg
      unfold dstAt at this
      cases hd : (ops[j]?).bind (·.dst) with
      | none => rfl
      | some d => simp only [this d hd]
    · split at h
      · rw [if_pos (by assumption)]
        intro K KP hk
        rw [← astep_congr h1]
        exact h K KP hk
      · rw [if_neg (by assumption)]; exact h
theorem awpAny_mix (hc : PureOk ops) (m : Nat) (hm : m ≤ ops.size) (htl : ∀ i o, ops[i]? = some o → (i = m → ∀ j, j < m → reachB ops 12 i j = true) ∧ (m < i → bindsOn o (i - 1) = true)) (s : Nat → AV) (rs : Nat → AV) (hp : Nat → AHeap) (ch : Nat → Bool)
    (hch : ∀ c c', c < c' → c' < m → ch c = true → ch c' = true → reachB ops 12 c' c = true) (hfr : ∀ i, i < m → ch i = false → hp (i + 1) = hp i)
    (hst : ∀ i o, i < m → ops[i]? = some o → ch i = true → StepT P hint n ops (hp i) (stAt n ops s rs i) o (rs i) (hp (i + 1)))
    (hsf : ∀ i o, i < m → ops[i]? = some o → ch i = false → ∀ j, j ≤ m → (∀ c, c < j → ch c = true → reachB ops 12 c i = false) → StepT P hint n ops (hp j) (stAt n ops s rs i) o (rs i) (hp j))
    (hQ : awpList P hint n ops Q (ops.toList.drop m) (stAt n ops s rs m) (hp m)) :
    ∀ (fuel : Nat) (listed : Array Bool) (s' : Nat → AV) (H : AHeap), listed.size = ops.size → (List.range ops.size).countP (fun j => !listed.getD j true) ≤ fuel →
      (∀ t j, dstAt ops j = some t → s' t = if listed.getD j false = true then (if t < n then rs j else .top) else s t) → (∀ t, (∀ j, dstAt ops j ≠ some t) → s' t = s t) →
      (∀ j oj i, ops[j]? = some oj → listed.getD j false = true → bindsOn oj i = true → listed.getD i false = true) → (∀ i, m ≤ i → i < ops.size → listed.getD i false = false) →
      (∃ q, q ≤ m ∧ H = hp q ∧ ∀ c, c < m → ch c = true → (listed.getD c false = true ↔ c < q)) → awpAny P hint n ops Q fuel listed s' H := by
  have hsame : ∀ d q, q + d ≤ m → (∀ c, c < m → ch c = true → (c < q ↔ c < q + d)) → hp (q + d) = hp q := by
    intro d
    induction d with
    | zero => intros; rfl
    | succ d ihd =>
      intro q hq hcc
      have h1 : ch (q + d) = false := by
        cases h : ch (q + d) with
        | false => rfl
        | true => have := (hcc (q + d) (by omega) h).2 (by omega); omega
      rw [← Nat.add_assoc, hfr (q + d) (by omega) h1]
      refine ihd q (by omega) fun c hcm hct => ⟨fun h => by omega, fun h => (hcc c hcm hct).2 (by omega)⟩
  have hsame2 : ∀ q i, q ≤ m → i ≤ m → (∀ c, c < m → ch c = true → (c < q ↔ c < i)) → hp q = hp i := by
    intro q i hq hi hcc
    rcases Nat.le_total q i with h | h
    · obtain ⟨d, rfl⟩ := Nat.exists_eq_add_of_le h
      exact (hsame d q hi hcc).symm
    · obtain ⟨d, rfl⟩ := Nat.exists_eq_add_of_le h
      exact hsame d i hq fun c hcm hct => (hcc c hcm hct).symm
  have st_no : ∀ k t, (∀ j, j < k → dstAt ops j ≠ some t) → stAt n ops s rs k t = s t := by
    intro k t
    induction k with
    | zero => intro _; rfl
    | succ k ih =>
      intro h
      simp only [stAt]
      cases hd : dstAt ops k with
      | none => exact ih fun j hj => h j (by omega)
      | some d =>
        simp only [aput]
        have : t ≠ d := fun e => h k (by omega) (by rw [hd, e])
        rw [if_neg this]
        exact ih fun j hj => h j (by omega)
  have st_dst : ∀ k t j, dstAt ops j = some t → j < k → stAt n ops s rs k t = if t < n then rs j else .top := by
    intro k t j hj
    induction k with
    | zero => intro h; omega
    | succ k ih =>
      intro h
      simp only [stAt]
      by_cases e : j = k
      · subst e
        rw [hj]
        simp only [aput, if_pos]
      · have := ih (by omega)
        cases hd : dstAt ops k with
        | none => exact this
        | some d =>
          simp only [aput]
          have hne : t ≠ d := fun e' => e (hc.once j k t hj (by rw [hd, e']))
          rw [if_neg hne]
          exact this
  have bind_of : ∀ (listed : Array Bool) (o : Oper) (j : Nat), (o.after.all fun e => !Region.binds .any e || listed.getD e.on false) = true → bindsOn o j = true → listed.getD j false = true := by
    intro listed o j h1 h2
    unfold bindsOn at h2
    rw [List.any_eq_true] at h2
    obtain ⟨e, he, h2⟩ := h2
    rw [Array.all_eq_true_iff_forall_mem] at h1
    have := h1 e (Array.mem_toList_iff.1 he)
    simp only [Bool.and_eq_true, beq_iff_eq] at h2
    simpa [h2.1, h2.2] using this
  have fin : ∀ (listed : Array Bool) (s' : Nat → AV), (∀ i, i < m → listed.getD i true = true) → (∀ i, m ≤ i → i < ops.size → listed.getD i false = false) → listed.size = ops.size →
      (∀ t j, dstAt ops j = some t → s' t = if listed.getD j false = true then (if t < n then rs j else .top) else s t) → (∀ t, (∀ j, dstAt ops j ≠ some t) → s' t = s t) → s' = stAt n ops s rs m := by
    intro listed s' hall hno hsz h1 h2
    funext t
    by_cases hd : ∃ j, dstAt ops j = some t
    · obtain ⟨j, hj⟩ := hd
      have hjl := dstAt_lt hj
      rcases Nat.lt_or_ge j m with hjm | hjm
      · have : listed.getD j false = true := by
          have := hall j hjm
          simpa [Array.getD, show j < listed.size by omega] using this
        rw [h1 t j hj, if_pos this, st_dst _ t j hj hjm]
      · rw [h1 t j hj, if_neg (by simp [hno j hjm hjl]), st_no m t fun j' hj' hd' => by
          have := hc.once j' j t hd' hj
          omega]
    · have hd' : ∀ j, dstAt ops j ≠ some t := fun j hj => hd ⟨j, hj⟩
      rw [h2 t hd', st_no _ t fun j _ => hd' j]
  intro fuel
  induction fuel with
  | zero =>
    intro listed s' H hsz hcnt h1 h2 hcl hno hq
    have hall : ∀ i, i < ops.size → listed.getD i true = true := by
      intro i hi
      have h0 : (List.range ops.size).countP (fun j => !listed.getD j true) = 0 := by omega
      rw [List.countP_eq_zero] at h0
      simpa using h0 i (List.mem_range.2 hi)
    have hs' := fin listed s' (fun i hi => hall i (by omega)) hno hsz h1 h2
    have hH : H = hp m := by
      obtain ⟨q, hqm, rfl, hql⟩ := hq
      refine hsame2 q m hqm (Nat.le_refl _) fun c hcm hct => ⟨fun _ => hcm, fun _ => (hql c hcm hct).1 ?_⟩
      have := hall c (by omega)
      simpa [Array.getD, show c < listed.size by omega] using this
    subst hs'
    subst hH
    exact awpAny_chain hc (fun i o ho hi => (htl i o ho).2 hi) hsz m (Nat.le_refl _) hm (fun i hi => hall i (by omega)) (fun i hi hi2 => hno i hi hi2) hQ (by
      rcases Nat.lt_or_ge m ops.size with h | h
      · have e1 := hall m h
        have e2 := hno m (Nat.le_refl _) h
        simp [Array.getD, show m < listed.size by omega] at e1 e2
        rw [e1] at e2
        cases e2
      · omega)
  | succ fuel ih =>
    intro listed s' H hsz hcnt h1 h2 hcl hno hq
    by_cases hpre : ∀ i, i < m → listed.getD i true = true
    · have hs' := fin listed s' hpre hno hsz h1 h2
      have hH : H = hp m := by
        obtain ⟨q, hqm, rfl, hql⟩ := hq
        refine hsame2 q m hqm (Nat.le_refl _) fun c hcm hct => ⟨fun _ => hcm, fun _ => (hql c hcm hct).1 ?_⟩
        have := hpre c hcm
        simpa [Array.getD, show c < listed.size by omega] using this
      subst hs'
      subst hH
      refine awpAny_chain hc (fun i o ho hi => (htl i o ho).2 hi) hsz m (Nat.le_refl _) hm hpre hno hQ ?_
      have hsub : (List.range ops.size).countP (fun j => decide (m ≤ j)) ≤ (List.range ops.size).countP (fun j => !listed.getD j true) := by
        refine List.countP_mono_left fun j hj hmj => ?_
        have hj := List.mem_range.1 hj
        have := hno j (by simpa using hmj) hj
        simp [Array.getD, show j < listed.size by omega] at this ⊢
        exact this
      have hcm : ∀ N, m ≤ N → (List.range N).countP (fun j => decide (m ≤ j)) = N - m := by
        intro N hN
        induction N with
        | zero => simp
        | succ N ihN =>
          rw [List.range_succ, List.countP_append, List.countP_singleton]
          by_cases e : m ≤ N
          · rw [ihN e]; simp [e]; omega
          · have e' : m = N + 1 := by omega
            have : (List.range N).countP (fun j => decide (m ≤ j)) = 0 := by
              rw [List.countP_eq_zero]
              intro j hj
              have := List.mem_range.1 hj
              simp; omega
            rw [this]; simp [e]; omega
      rw [hcm _ hm] at hsub
      omega
    have hex : ∃ i, i < m ∧ listed.getD i true = false ∧ ∀ j, j < i → listed.getD j true = true := by
      have : ∃ i, i < m ∧ listed.getD i true = false := by
        rcases Classical.not_forall.1 hpre with ⟨i, hi⟩
        rcases Classical.not_imp.1 hi with ⟨h1, h2⟩
        exact ⟨i, h1, by simpa using h2⟩
      obtain ⟨i, hi⟩ := this
      induction i using Nat.strongRecOn with
      | _ i ihi =>
        by_cases hj : ∃ j, j < i ∧ listed.getD j true = false
        · obtain ⟨j, hj1, hj2⟩ := hj
          exact ihi j hj1 ⟨by omega, hj2⟩
        · refine ⟨i, hi.1, hi.2, fun j hji => ?_⟩
          cases hq : listed.getD j true with
          | true => rfl
          | false => exact absurd ⟨j, hji, hq⟩ hj
    obtain ⟨i0, hi0, hu0, hb0⟩ := hex
    refine ⟨fun hr => ?_, fun i hi => ?_⟩
    · exfalso
      have hlt0 : i0 < ops.size := by omega
      have hget : ops[i0]? = some ops[i0] := by simp [hlt0]
      have : i0 ∈ Region.ready .any ops listed := by
        unfold Region.ready
        rw [List.mem_filter]
        refine ⟨List.mem_range.2 hlt0, ?_⟩
        simp only [hu0, hget, Bool.not_false, Bool.true_and, Option.map_some, Option.getD_some]
        rw [Array.all_eq_true_iff_forall_mem]
        intro e he
        cases hbe : Region.binds .any e
        · simp
        have hlt := hc.down i0 _ hget e he hbe
        have := hb0 e.on hlt
        have : listed.getD e.on false = true := by simpa [Array.getD, show e.on < listed.size by omega] using this
        simp [this]
      rw [hr] at this
      simp at this
    · unfold Region.ready at hi
      rw [List.mem_filter] at hi
      obtain ⟨hi, hrd⟩ := hi
      have hi := List.mem_range.1 hi
      have hget : ops[i]? = some ops[i] := by simp [hi]
      simp only [hget, Option.map_some, Option.getD_some, Bool.and_eq_true, Bool.not_eq_true'] at hrd
      obtain ⟨hun, haft⟩ := hrd
      simp only [hget]
      have hdst : dstAt ops i = (ops[i]).dst := by simp [dstAt, hget]
      have hun' : listed.getD i false = false := by simpa [Array.getD, show i < listed.size by omega] using hun
      have him : i < m := by
        rcases Nat.lt_or_ge i m with h | h
        · exact h
        · exfalso
          have hu0' : listed.getD i0 false = false := by simpa [Array.getD, show i0 < listed.size by omega] using hu0
          rcases Nat.lt_or_ge m i with h2 | h2
          · have := bind_of listed ops[i] (i - 1) haft ((htl i _ hget).2 h2)
            rw [hno (i - 1) (by omega) (by omega)] at this
            cases this
          · have him : i = m := by omega
            have := reachB_listed hcl 12 i _ hget (fun j hj => bind_of listed ops[i] j haft hj) i0 ((htl i _ hget).1 him i0 hi0)
            rw [this] at hu0'
            cases hu0'
      have agree : ∀ t j, dstAt ops j = some t → bindsOn ops[i] j = true → stAt n ops s rs i t = s' t := by
        intro t j hj hb
        have hl := bind_of listed ops[i] j haft hb
        have hlt : j < i := by
          unfold bindsOn at hb
          rw [List.any_eq_true] at hb
          obtain ⟨e, he, hb⟩ := hb
          simp only [Bool.and_eq_true, beq_iff_eq] at hb
          have := hc.down i _ hget e (Array.mem_toList_iff.1 he) hb.1
          omega
        rw [st_dst i t j hj hlt, h1 t j hj, if_pos hl]
      have hrd : ∀ t ∈ opTmps ops[i], stAt n ops s rs i t = s' t := by
        intro t ht
        by_cases hd : ∃ j, dstAt ops j = some t
        · obtain ⟨j, hj⟩ := hd
          rcases hc.reads i _ hget t ht j hj with hb | ⟨oj, hoj, hb⟩
          · exact agree t j hj hb
          · have hnl : listed.getD j false = false := by
              cases hq : listed.getD j false with
              | false => rfl
              | true => rw [hcl j oj i hoj hq hb] at hun'; cases hun'
            have hlt : i < j := by
              unfold bindsOn at hb
              rw [List.any_eq_true] at hb
              obtain ⟨e, he, hb⟩ := hb
              simp only [Bool.and_eq_true, beq_iff_eq] at hb
              have := hc.down j _ hoj e (Array.mem_toList_iff.1 he) hb.1
              omega
            rw [h1 t j hj, if_neg (by simp [hnl]), st_no i t fun j' hj' hd' => by
              have := hc.once j' j t hd' hj
              omega]
        · have hd' : ∀ j, dstAt ops j ≠ some t := fun j hj => hd ⟨j, hj⟩
          rw [st_no i t fun j _ => hd' j, h2 t hd']
      have hgd : ∀ j w, (ops[i]).guard = some (j, w) → ∀ d, dstAt ops j = some d → stAt n ops s rs i d = s' d := fun j w hg d hd => agree d j hd (hc.guard i _ hget j w hg)
      have hset : ∀ j b, (listed.setIfInBounds i true).getD j b = if j = i then true else listed.getD j b := by
        intro j b
        simp only [Array.getD_eq_getD_getElem?, Array.getElem?_setIfInBounds]
        by_cases e : i = j
        · subst e; simp [hsz, hi]
        · rw [if_neg e, if_neg (Ne.symm e)]
      obtain ⟨q, hqm, rfl, hql⟩ := hq
      have go : ∀ H2, (∃ q, q ≤ m ∧ H2 = hp q ∧ ∀ c, c < m → ch c = true → ((listed.setIfInBounds i true).getD c false = true ↔ c < q)) → awpAny P hint n ops Q fuel (listed.setIfInBounds i true) (aput n s' (ops[i]).dst (rs i)) H2 := by
        intro H2 hq2
        refine ih _ _ _ (by simpa using hsz) ?_ ?_ ?_ ?_ ?_ hq2
        · have := countP_lt (p := fun j => !(listed.setIfInBounds i true).getD j true) (q := fun j => !listed.getD j true) (i := i) (fun j hj => by
            simp only [hset] at hj ⊢
            by_cases e : j = i
            · simp [e] at hj
            · simpa [e] using hj) (by simp [hset]) (by simp [hun]) (List.range ops.size) (List.mem_range.2 hi)
          omega
        · intro t j hj
          rw [hset]
          by_cases e : j = i
          · subst e
            rw [hdst] at hj
            rw [if_pos rfl, if_pos rfl, hj]
            simp only [aput, if_pos]
          · rw [if_neg e]
            cases hd : (ops[i]).dst with
            | none => exact h1 t j hj
            | some d =>
              simp only [aput]
              have : t ≠ d := fun e' => e (hc.once j i t hj (by rw [hdst, hd, e']))
              rw [if_neg this]
              exact h1 t j hj
        · intro t ht
          cases hd : (ops[i]).dst with
          | none => exact h2 t ht
          | some d =>
            simp only [aput]
            have : t ≠ d := fun e' => ht i (by rw [hdst, hd, e'])
            rw [if_neg this]
            exact h2 t ht
        · intro j oj i' hoj hlj hb
          rw [hset] at hlj ⊢
          by_cases e' : i' = i
          · rw [if_pos e']
          · rw [if_neg e']
            by_cases e : j = i
            · subst e
              rw [hget] at hoj
              cases hoj
              exact bind_of listed _ i' haft hb
            · rw [if_neg e] at hlj
              exact hcl j oj i' hoj hlj hb
        · intro j hj hj2
          rw [hset, if_neg (by omega)]
          exact hno j hj hj2
      cases hci : ch i with
      | false =>
        have hnr : ∀ c, c < q → ch c = true → reachB ops 12 c i = false := fun c hcq hct => by
          cases hr : reachB ops 12 c i with
          | false => rfl
          | true =>
            exfalso
            have hgc : ops[c]? = some ops[c] := by simp [show c < ops.size by omega]
            have hl := (hql c (by omega) hct).2 hcq
            have := reachB_listed hcl 12 c _ hgc (fun j hj => hcl c _ j hgc hl hj) i hr
            rw [hun'] at this
            cases this
        refine StepT.op ((hsf i _ him hget hci q hqm hnr).congr hrd hgd) (go _ ⟨q, hqm, rfl, fun c hcm hct => ?_⟩)
        rw [hset, if_neg (by intro e; rw [e, hci] at hct; cases hct)]
        exact hql c hcm hct
      | true =>
        have hbef : ∀ c, c < m → ch c = true → (listed.getD c false = true ↔ c < i) := by
          intro c hcm hct
          refine ⟨fun hl => ?_, fun hlt => ?_⟩
          · rcases Nat.lt_trichotomy c i with h | h | h
            · exact h
            · subst h; rw [hun'] at hl; cases hl
            · exfalso
              have hcs : c < ops.size := by omega
              have hgc : ops[c]? = some ops[c] := by simp [hcs]
              have := reachB_listed hcl 12 c _ hgc (fun j hj => hcl c _ j hgc hl hj) i (hch i c h hcm hci hct)
              rw [hun'] at this
              cases this
          · exact reachB_listed hcl 12 i _ hget (fun j hj => bind_of listed ops[i] j haft hj) c (hch c i hlt him hct hci)
        have hqi : hp q = hp i := hsame2 q i hqm (by omega) fun c hcm hct => (hql c hcm hct).symm.trans (hbef c hcm hct)
        rw [hqi]
        refine StepT.op ((hst i _ him hget hci).congr hrd hgd) (go _ ⟨i + 1, by omega, rfl, fun c hcm hct => ?_⟩)
        rw [hset]
        by_cases e : c = i
        · subst e; simp
        · rw [if_neg e]
          refine (hbef c hcm hct).trans ⟨fun h => by omega, fun h => by omega⟩
end
section
variable (P : Program) (hint : Nat → Bool) (n : Nat) (ops : Array Oper)
/-- The region in the order of its text; where a mark says so, an operation may change the heap, but for the old objects. -/
def awpMix (B : AHeap) (Q : Post) : List Bool → List Oper → (Nat → AV) → AHeap → Prop
  | [], l, s, H => awpList P hint n ops Q l s H
  | _ :: _, [], s, H => awpList P hint n ops Q [] s H
  | true :: bs, o :: rest, s, H => awpOp P hint n ops (fun _ _ _ => False) o (fun s' H' => Ext B H' ∧ awpMix B Q bs rest s' H') s H
  | false :: bs, o :: rest, s, H => awpOp P hint n ops (fun _ _ _ => False) o (fun s' H' => H' = H ∧ awpMix B Q bs rest s' H') s H
end
section
variable {P : Program} {hint : Nat → Bool} {n : Nat} {ops : Array Oper} {Q : Post}
theorem step_of {o : Oper} {s : Nat → AV} {H : AHeap} {K : (Nat → AV) → AHeap → Prop} (h : awpOp P hint n ops (fun _ _ _ => False) o K s H) : ∃ r H', StepT P hint n ops H s o r H' ∧ K (aput n s o.dst r) H' := by
  unfold awpOp at h
  split at h
  · rename_i hg
    obtain ⟨r, H', hr, hdet⟩ := astep_det h
    exact ⟨r, H', by unfold StepT; simp only [hg]; exact fun K KP hk => hdet K KP hk, hr⟩
  · rename_i j want hg
    split at h
    · rename_i b hb
      split at h
      · rename_i hbw
        obtain ⟨r, H', hr, hdet⟩ := astep_det h
        exact ⟨r, H', by unfold StepT; simp only [hg]; exact ⟨b, hb, by rw [if_pos hbw]; exact fun K KP hk => hdet K KP hk⟩, hr⟩
      · rename_i hbw
        exact ⟨.tup [], H, by unfold StepT; simp only [hg]; exact ⟨b, hb, by simp [hbw]⟩, h⟩
    · exact h.elim
theorem awpMix_steps {B : AHeap} (s0 : Nat → AV) : ∀ (bs : List Bool) (k : Nat) (rs0 : Nat → AV) (hp0 : Nat → AHeap), k + bs.length ≤ ops.size → awpMix P hint n ops B Q bs (ops.toList.drop k) (stAt n ops s0 rs0 k) (hp0 k) →
    ∃ (rs : Nat → AV) (hp : Nat → AHeap), (∀ i, i < k → rs i = rs0 i) ∧ (∀ i, i ≤ k → hp i = hp0 i) ∧
      (∀ i o, k ≤ i → i < k + bs.length → ops[i]? = some o → (bs[i - k]? = some true → StepT P hint n ops (hp i) (stAt n ops s0 rs i) o (rs i) (hp (i + 1)) ∧ Ext B (hp (i + 1))) ∧
        (bs[i - k]? = some false → StepT P hint n ops (hp i) (stAt n ops s0 rs i) o (rs i) (hp i) ∧ hp (i + 1) = hp i)) ∧
      awpList P hint n ops Q (ops.toList.drop (k + bs.length)) (stAt n ops s0 rs (k + bs.length)) (hp (k + bs.length))
  | [], k, rs0, hp0, hk, h => ⟨rs0, hp0, fun _ _ => rfl, fun _ _ => rfl, fun i o h1 h2 => by simp at h2; omega, by
      have h : awpList P hint n ops Q (ops.toList.drop k) (stAt n ops s0 rs0 k) (hp0 k) := by
        cases hd : ops.toList.drop k <;> (rw [hd] at h; exact h)
      exact h⟩
  | b :: bs, k, rs0, hp0, hk, h => by
    simp only [List.length_cons] at hk
    have hlt : k < ops.size := by omega
    have hget : ops[k]? = some ops[k] := by simp [hlt]
    have hd : ops.toList.drop k = ops[k] :: ops.toList.drop (k + 1) := by
      rw [List.drop_eq_getElem_cons (by simpa using hlt)]; simp
    rw [hd] at h
    have hdst : dstAt ops k = (ops[k]).dst := by simp [dstAt, hget]
    have step : ∃ r H', StepT P hint n ops (hp0 k) (stAt n ops s0 rs0 k) ops[k] r H' ∧ (b = true → Ext B H') ∧ (b = false → H' = hp0 k) ∧ awpMix P hint n ops B Q bs (ops.toList.drop (k + 1)) (aput n (stAt n ops s0 rs0 k) (ops[k]).dst r) H' := by
      cases b with
      | true =>
        obtain ⟨r, H', h1, h2, h3⟩ := step_of h
        exact ⟨r, H', h1, fun _ => h2, fun e => (by cases e), h3⟩
      | false =>
        obtain ⟨r, H', h1, rfl, h3⟩ := step_of h
        exact ⟨r, _, h1, fun e => (by cases e), fun _ => rfl, h3⟩
    obtain ⟨r, H', h1, h2, h3, h4⟩ := step
    let rs1 : Nat → AV := fun i => if i = k then r else rs0 i
    let hp1 : Nat → AHeap := fun i => if i = k + 1 then H' else hp0 i
    have e1 : rs1 k = r := if_pos rfl
    have e2 : hp1 (k + 1) = H' := if_pos rfl
    have hst : ∀ (rs : Nat → AV) i, i ≤ k → (∀ j, j < i → rs j = rs0 j) → stAt n ops s0 rs i = stAt n ops s0 rs0 i := by
      intro rs i
      induction i with
      | zero => intros; rfl
      | succ i ih =>
        intro hi hr
        simp only [stAt, ih (by omega) fun j hj => hr j (by omega), hr i (by omega)]
    have h5 : awpMix P hint n ops B Q bs (ops.toList.drop (k + 1)) (stAt n ops s0 rs1 (k + 1)) (hp1 (k + 1)) := by
      rw [e2]
      simp only [stAt, e1, hdst]
      rw [hst rs1 k (Nat.le_refl _) fun j hj => if_neg (by omega)]
      exact h4
    obtain ⟨rs, hp, g1, g2, g3, g4⟩ := awpMix_steps s0 bs (k + 1) rs1 hp1 (by omega) h5
    have f1 : ∀ i, i < k → rs i = rs0 i := fun i hi => by rw [g1 i (by omega)]; exact if_neg (by omega)
    have f2 : ∀ i, i ≤ k → hp i = hp0 i := fun i hi => by rw [g2 i (by omega)]; exact if_neg (by omega)
    have f3 : rs k = r := by rw [g1 k (by omega)]; exact e1
    have f4 : hp (k + 1) = H' := by rw [g2 (k + 1) (by omega)]; exact e2
    refine ⟨rs, hp, f1, f2, fun i o hi hi2 ho => ?_, by rw [List.length_cons, show k + (bs.length + 1) = k + 1 + bs.length from by omega]; exact g4⟩
    rcases Nat.lt_or_ge k i with hki | hki
    · have := g3 i o hki (by simp only [List.length_cons] at hi2; omega) ho
      rw [show i - k = (i - (k + 1)) + 1 from by omega, List.getElem?_cons_succ]
      exact this
    · obtain rfl : i = k := by omega
      rw [hget] at ho
      cases ho
      rw [Nat.sub_self, List.getElem?_cons_zero, f2 i (Nat.le_refl _), f3, f4, hst rs i (Nat.le_refl _) fun j hj => f1 j hj]
      refine ⟨fun e => ?_, fun e => ?_⟩
      · exact ⟨h1, h2 (Option.some.inj e)⟩
      · have := h3 (Option.some.inj e)
        subst this
        exact ⟨h1, rfl⟩
theorem astep_aop {o : Oper} {s : Nat → AV} {H : AHeap} {K : AV → AHeap → Prop} {KP : Value → AHeap → Prop} (h1 : ∀ x, o.op ≠ .panic x) (h2 : ∀ c, o.op ≠ .call c) : astep P hint s H o K KP = aop P s H (match o.dst with | some d => hint d | none => false) o.op K := by
  unfold astep
  split
  · rename_i x hx; exact absurd hx (h1 x)
  · rename_i c hx; exact absurd hx (h2 c)
  · rfl
theorem floats_step {o : Oper} {s : Nat → AV} {B H H2 : AHeap} {r : AV} {first : Bool} (hf : floats hint first o = true) (hE : first = true → Ext H H2) (h : ∀ K KP, K r H → astep P hint s H o K KP) : ∀ K KP, K r H2 → astep P hint s H2 o K KP := by
  intro K KP hk
  have h0 := h (fun r' _ => r' = r) (fun _ _ => False) rfl
  unfold floats at hf
  rw [Bool.or_eq_true] at hf
  rcases hf with hf | hf
  · have n1 : ∀ x, o.op ≠ .panic x := fun x e => by rw [e] at hf; cases hf
    have n2 : ∀ c, o.op ≠ .call c := fun x e => by rw [e] at hf; cases hf
    rw [astep_aop n1 n2] at h0 ⊢
    rw [hfree_eq (H := H2) (H2 := H) hf]
    exact aop_mono (fun r' _ e => by rw [e]; exact hk) h0
  · rw [Bool.and_eq_true] at hf
    have n1 : ∀ x, o.op ≠ .panic x := fun x e => by rw [e] at hf; cases hf.2
    have n2 : ∀ c, o.op ≠ .call c := fun x e => by rw [e] at hf; cases hf.2
    rw [astep_aop n1 n2] at h0 ⊢
    exact load_ext hf.2 (hE hf.1) h0 hk
theorem floats_stepT {o : Oper} {s : Nat → AV} {H H2 : AHeap} {r : AV} {first : Bool} (hf : floats hint first o = true) (hE : first = true → Ext H H2) (h : StepT P hint n ops H s o r H) : StepT P hint n ops H2 s o r H2 := by
  unfold StepT at h ⊢
  split at h
  · rename_i hg
    try simp only [hg]
    exact floats_step (B := H) hf hE h
  · rename_i j want hg
    try simp only [hg]
    obtain ⟨b, hb, h⟩ := h
    refine ⟨b, hb, ?_⟩
    split at h
    · rw [if_pos (by assumption)]; exact floats_step (B := H) hf hE h
    · rw [if_neg (by assumption)]; simp [h.1]
end
def mixCheck (hint : Nat → Bool) (ops : Array Oper) (bs : List Bool) : Bool := (List.range bs.length).all fun i => match bs[i]?, ops[i]? with
  | some false, some o => floats hint ((bs.take i).all (!·)) o
  | some true, some _ => (List.range i).all fun c => bs[c]? == some false || reachB ops 12 i c
  | _, _ => false
section
variable {P : Program} {hint : Nat → Bool} {n : Nat} {ops : Array Oper} {Q : Post}
/-- A drawn region some of whose marked operations, all bound one behind the other, change the heap. -/
theorem awp_drawM (bs : List Bool) {H0 H : AHeap} {id : Nat} {s : Nat → AV} (hm : P.follows .mixedOrders = true) (hc : pureCheck ops = true) (ht : tailCheck ops bs.length = true) (hx : mixCheck hint ops bs = true)
    (h : awpMix P hint n ops H Q bs ops.toList s H) : awp P hint n H0 (.region id ops true) Q s H := by
  obtain ⟨hms, htl⟩ := tailCheck_ok ht
  refine ⟨hm, ?_⟩
  obtain ⟨rs, hp, _, g2, g3, g4⟩ := awpMix_steps s bs 0 (fun _ => .top) (fun _ => H) (by omega) h
  have g20 : hp 0 = H := g2 0 (Nat.le_refl _)
  simp only [Nat.zero_add, Nat.sub_zero, Nat.zero_le, true_implies] at g3 g4
  unfold mixCheck at hx
  rw [List.all_eq_true] at hx
  have hget : ∀ i, i < bs.length → ∃ o, ops[i]? = some o := fun i hi => ⟨ops[i]'(by omega), by simp [show i < ops.size by omega]⟩
  have hbs : ∀ i (hi : i < bs.length), bs[i]? = some bs[i] := fun i hi => List.getElem?_eq_getElem hi
  have hext : ∀ j, j ≤ bs.length → Ext H (hp j) := by
    intro j
    induction j with
    | zero => intro _; rw [g20]; exact Ext.refl H
    | succ j ihj =>
      intro hj
      obtain ⟨o, ho⟩ := hget j (by omega)
      have g := g3 j o (by omega) ho
      have hb := hbs j (by omega)
      cases hbj : bs[j]'(by omega) with
      | true => rw [hbj] at hb; exact (g.1 hb).2
      | false => rw [hbj] at hb; rw [(g.2 hb).2]; exact ihj (by omega)
  let ch : Nat → Bool := fun i => bs[i]?.getD false
  have chT : ∀ i, i < bs.length → ch i = true → bs[i]? = some true := fun i hi h => by
    have h : bs[i]?.getD false = true := h
    rw [hbs i hi] at h ⊢
    simpa using h
  have chF : ∀ i, i < bs.length → ch i = false → bs[i]? = some false := fun i hi h => by
    have h : bs[i]?.getD false = false := h
    rw [hbs i hi] at h ⊢
    simpa using h
  have hbase : ∀ i, i ≤ bs.length → (∀ c, c < i → ch c = false) → hp i = H := by
    intro i
    induction i with
    | zero => intros; exact g20
    | succ i ihi =>
      intro hi hcf
      obtain ⟨o, ho⟩ := hget i (by omega)
      rw [((g3 i o (by omega) ho).2 (chF i (by omega) (hcf i (by omega)))).2]
      exact ihi (by omega) fun c hc => hcf c (by omega)
  refine awpAny_mix (pureCheck_ok hc) bs.length hms htl s rs hp ch ?_ ?_ ?_ ?_ g4 ops.size (Array.replicate ops.size false) s H (by simp) ?_ ?_ ?_ ?_ ?_ ⟨0, Nat.zero_le _, g20.symm, fun c hcm hct => ?_⟩
  · intro c c' h1 h2 h3 h4
    have := hx c' (List.mem_range.2 h2)
    obtain ⟨o, ho⟩ := hget c' h2
    rw [chT c' h2 h4, ho] at this
    simp only [List.all_eq_true] at this
    have := this c (List.mem_range.2 h1)
    rw [chT c (by omega) h3] at this
    simpa using this
  · intro i hi hci
    obtain ⟨o, ho⟩ := hget i hi
    exact ((g3 i o hi ho).2 (chF i hi hci)).2
  · intro i o hi ho hci
    exact ((g3 i o hi ho).1 (chT i hi hci)).1
  · intro i o hi ho hci j hj _
    have hfl := hx i (List.mem_range.2 hi)
    rw [chF i hi hci, ho] at hfl
    refine floats_stepT hfl (fun hfirst => ?_) ((g3 i o hi ho).2 (chF i hi hci)).1
    rw [hbase i (by omega) fun c hc => ?_]
    · exact hext j hj
    · rw [List.all_eq_true] at hfirst
      have := hfirst (bs[c]'(by omega)) (by
        rw [List.mem_iff_getElem]
        exact ⟨c, by simp; omega, by simp⟩)
      show bs[c]?.getD false = false
      rw [hbs c (by omega)]
      simpa using this
  · exact Nat.le_trans List.countP_le_length (by simp)
  · intro t j hj
    have hjl := dstAt_lt hj
    rw [if_neg (by simp [Array.getD, hjl])]
  · intro t _; rfl
  · intro j oj i hoj hl
    have hjl := (Array.getElem?_eq_some_iff.1 hoj).1
    simp [Array.getD, hjl] at hl
  · intro i hi hi2
    simp [Array.getD, hi2]
  · have : c < ops.size := by omega
    simp [Array.getD, this]
end
def mixCheckN (hint : Nat → Bool) (ops : Array Oper) (bs : List Bool) (c0 : Nat) : Bool := bs[c0]? == some true && (List.range bs.length).all fun i => match bs[i]?, ops[i]? with
  | some false, some o => floats hint false o || (decide (i < c0) && reachB ops 12 c0 i)
  | some true, some _ => decide (c0 ≤ i) && (List.range i).all fun c => bs[c]? == some false || reachB ops 12 i c
  | _, _ => false
theorem Ext.nil (H : AHeap) : Ext [] H = True := eq_true fun id o h => by simp at h
section
variable {P : Program} {hint : Nat → Bool} {n : Nat} {ops : Array Oper} {Q : Post}
/-- A drawn region whose marked operations, all bound one behind the other, change the heap in any way: what reads it is bound ahead of the first of them. -/
theorem awp_drawN (bs : List Bool) (c0 : Nat) {H0 H : AHeap} {id : Nat} {s : Nat → AV} (hm : P.follows .mixedOrders = true) (hc : pureCheck ops = true) (ht : tailCheck ops bs.length = true) (hx : mixCheckN hint ops bs c0 = true)
    (h : awpMix P hint n ops [] Q bs ops.toList s H) : awp P hint n H0 (.region id ops true) Q s H := by
  obtain ⟨hms, htl⟩ := tailCheck_ok ht
  refine ⟨hm, ?_⟩
  obtain ⟨rs, hp, _, g2, g3, g4⟩ := awpMix_steps s bs 0 (fun _ => .top) (fun _ => H) (by omega) h
  have g20 : hp 0 = H := g2 0 (Nat.le_refl _)
  simp only [Nat.zero_add, Nat.sub_zero, Nat.zero_le, true_implies] at g3 g4
  unfold mixCheckN at hx
  rw [Bool.and_eq_true, List.all_eq_true] at hx
  obtain ⟨hx0, hx⟩ := hx
  have hx0 : bs[c0]? = some true := by simpa using hx0
  have hget : ∀ i, i < bs.length → ∃ o, ops[i]? = some o := fun i hi => ⟨ops[i]'(by omega), by simp [show i < ops.size by omega]⟩
  have hbs : ∀ i (hi : i < bs.length), bs[i]? = some bs[i] := fun i hi => List.getElem?_eq_getElem hi
  let ch : Nat → Bool := fun i => bs[i]?.getD false
  have chT : ∀ i, i < bs.length → ch i = true → bs[i]? = some true := fun i hi h => by
    have h : bs[i]?.getD false = true := h
    rw [hbs i hi] at h ⊢
    simpa using h
  have chF : ∀ i, i < bs.length → ch i = false → bs[i]? = some false := fun i hi h => by
    have h : bs[i]?.getD false = false := h
    rw [hbs i hi] at h ⊢
    simpa using h
  have hc0 : ch c0 = true := by show bs[c0]?.getD false = true; rw [hx0]; rfl
  have hfirst : ∀ i, i < bs.length → i < c0 → ch i = false := by
    intro i hi hlt
    cases hci : ch i with
    | false => rfl
    | true =>
      exfalso
      obtain ⟨o, ho⟩ := hget i hi
      have := hx i (List.mem_range.2 hi)
      rw [chT i hi hci, ho] at this
      simp only [Bool.and_eq_true, decide_eq_true_eq] at this
      omega
  have hbase : ∀ i, i ≤ bs.length → i ≤ c0 → hp i = H := by
    intro i
    induction i with
    | zero => intros; exact g20
    | succ i ihi =>
      intro hi hcf
      obtain ⟨o, ho⟩ := hget i (by omega)
      rw [((g3 i o (by omega) ho).2 (chF i (by omega) (hfirst i (by omega) (by omega)))).2]
      exact ihi (by omega) (by omega)
  refine awpAny_mix (pureCheck_ok hc) bs.length hms htl s rs hp ch ?_ ?_ ?_ ?_ g4 ops.size (Array.replicate ops.size false) s H (by simp) ?_ ?_ ?_ ?_ ?_ ⟨0, Nat.zero_le _, g20.symm, fun c hcm hct => ?_⟩
  · intro c c' h1 h2 h3 h4
    have := hx c' (List.mem_range.2 h2)
    obtain ⟨o, ho⟩ := hget c' h2
    rw [chT c' h2 h4, ho] at this
    simp only [Bool.and_eq_true, List.all_eq_true] at this
    have := this.2 c (List.mem_range.2 h1)
    rw [chT c (by omega) h3] at this
    simpa using this
  · intro i hi hci
    obtain ⟨o, ho⟩ := hget i hi
    exact ((g3 i o hi ho).2 (chF i hi hci)).2
  · intro i o hi ho hci
    exact ((g3 i o hi ho).1 (chT i hi hci)).1
  · intro i o hi ho hci j hj hnr
    have hfl := hx i (List.mem_range.2 hi)
    rw [chF i hi hci, ho] at hfl
    simp only [Bool.or_eq_true, Bool.and_eq_true, decide_eq_true_eq] at hfl
    have hs := ((g3 i o hi ho).2 (chF i hi hci)).1
    rcases hfl with hfl | ⟨hlt, hre⟩
    · exact floats_stepT hfl (fun hf => by cases hf) hs
    · have hjc : j ≤ c0 := by
        rcases Nat.lt_or_ge c0 j with h1 | h1
        · have := hnr c0 h1 hc0
          rw [hre] at this; cases this
        · exact h1
      rw [hbase j hj hjc]
      rw [hbase i (by omega) (by omega)] at hs
      exact hs
  · exact Nat.le_trans List.countP_le_length (by simp)
  · intro t j hj
    have hjl := dstAt_lt hj
    rw [if_neg (by simp [Array.getD, hjl])]
  · intro t _; rfl
  · intro j oj i hoj hl
    have hjl := (Array.getElem?_eq_some_iff.1 hoj).1
    simp [Array.getD, hjl] at hl
  · intro i hi hi2
    simp [Array.getD, hi2]
  · have : c < ops.size := by omega
    simp [Array.getD, this]
end
section
variable (P : Program) (hint : Nat → Bool) (n : Nat) (ops : Array Oper) (Q : Post) (rest : List Oper) (s : Nat → AV) (H B : AHeap) (bs : List Bool)
def KMix (b : Bool) (d : Option Tmp) (H0 : AHeap) : AV → AHeap → Prop := fun r H' => (match b with | true => Ext B H' | false => H' = H0) ∧ awpMix P hint n ops B Q bs rest (aput n s d r) H'
theorem KMix_true (d : Option Tmp) (H0 : AHeap) (r : AV) : KMix P hint n ops Q rest s B bs true d H0 r H = (Ext B H ∧ awpMix P hint n ops B Q bs rest (aput n s d r) H) := rfl
theorem KMix_false (d : Option Tmp) (H0 : AHeap) (r : AV) : KMix P hint n ops Q rest s B bs false d H0 r H = (H = H0 ∧ awpMix P hint n ops B Q bs rest (aput n s d r) H) := rfl
theorem awpMix_end (l : List Oper) : awpMix P hint n ops B Q [] l s H = awpList P hint n ops Q l s H := by cases l <;> rfl
theorem awpMix_none (b : Bool) (d : Option Tmp) (op : Op) (ty : TypeId) (p : String) (af : Array Edge) : awpMix P hint n ops B Q (b :: bs) (⟨d, op, ty, p, af, none⟩ :: rest) s H = astep P hint s H ⟨d, op, ty, p, af, none⟩ (KMix P hint n ops Q rest s B bs b d H) KNo := by
  cases b <;> simp only [awpMix, awpOp] <;> rfl
theorem awpMix_mk (l : List Oper) : awpMix P hint n ops B Q bs l.toArray.toList s H = awpMix P hint n ops B Q bs l s H := rfl
end
@[congr] theorem cg_mix {P : Program} {hint : Nat → Bool} {n : Nat} {ops : Array Oper} {Q : Post} {bs : List Bool} {l : List Oper} {s : Nat → AV} {B H H' : AHeap} (h : nf H = H') : awpMix P hint n ops B Q bs l s H = awpMix P hint n ops B Q bs l s H' := by rw [← h]; rfl
@[congr] theorem cg_KMix {P : Program} {hint : Nat → Bool} {n : Nat} {ops : Array Oper} {Q : Post} {rest : List Oper} {s : Nat → AV} {bs : List Bool} {b : Bool} {d : Option Tmp} {B H0 H H' : AHeap} {r r' : AV} (g : nf r = r') (h : nf H = H') : KMix P hint n ops Q rest s B bs b d H0 r H = KMix P hint n ops Q rest s B bs b d H0 r' H' := by rw [← g, ← h]; rfl
attribute [go_sem] Ext.nil KMix_true KMix_false awpMix_end awpMix_none awpMix_mk
end Go.Proofs.YtfmmemboakdeiaaAw
namespace Go.Proofs.YtfmmemboakdeiaaAw
open Go.RowKit
set_option linter.unusedVariables false
theorem CallsV.mono {P : Program} {f : FuncId} {vals : Array Value} {w : World} {R R' : Ending → World → Prop} (h : CallsV P f vals w R) (hR : ∀ e w', R e w' → R' e w') : CallsV P f vals w R' := by
  rcases h with ⟨h1, h2⟩ | ⟨v, w', h1, h2⟩
  · exact .inl ⟨h1, h2.mono hR⟩
  · exact .inr ⟨v, w', h1, hR _ _ h2⟩
def sOne (r : AV) : Nat → AV := fun t => if t = 0 then r else .top
/-- A result may be weakened: forgotten, frozen. -/
theorem Does.weak {P : Program} {f : FuncId} {args : List AV} {H H1 H2 : AHeap} {r : AV} {s' : Nat → AV} (h : Does P f args H (.ok r) H1) (hW : Weak H (sOne r) H1 s' H2) : Does P f args H (.ok (s' 0)) H2 := by
  intro φ N w vals hR hA
  refine (h φ N w vals hR hA).mono ?_
  rintro e w' ⟨φ1, N1, hR1, hS1, hE⟩
  cases e with
  | returned v =>
    have hI : Inv H φ N w 1 [] (sOne r) H1 φ1 N1 { tmps := #[v], defers := [] } w' := by
      refine ⟨hR1, fun t => ?_, hS1, rfl, rfl⟩
      unfold sOne
      by_cases ht : t = 0
      · subst ht; exact hE
      · rw [if_neg ht]; exact .top _
    obtain ⟨φ2, N2, hI2⟩ := hW.ok hR hI
    exact ⟨φ2, N2, hI2.rel, hI2.since, hI2.tmps 0⟩
  | panicked _ => exact hE.elim
  | outgrown => exact hE.elim
theorem Does.drop {P : Program} {f : FuncId} {args : List AV} {H T : AHeap} {r : AV} (h : Does P f args H (.ok r) (H ++ T)) : Does P f args H (.ok (frz (H ++ T) H.length r)) H := h.weak (Weak.drop H T _)
theorem frz_new (H : AHeap) (e : TypeId) (k v n : Nat) (es : List (List D)) (h : es.length = n) : frz (H ++ [.arr e k v es]) H.length (.sl H.length v 0 n) = .d (.list false es) := by
  rw [frz_sl, frz0_sl, if_neg (Nat.lt_irrefl _), get_snoc_self]
  simp only [if_true, List.drop_zero]
  rw [take_len _ _ h]
/-- A new array that is left may be taken for a list that never changes. -/
theorem Does.list {P : Program} {f : FuncId} {args : List AV} {H : AHeap} {e : TypeId} {k v n : Nat} {es : List (List D)} (h : Does P f args H (.ok (.sl H.length v 0 n)) (H ++ [.arr e k v es])) (hn : es.length = n) : Does P f args H (.ok (.d (.list false es))) H := by
  have := h.drop
  rwa [frz_new _ _ _ _ _ _ hn] at this
theorem AEnd.ret' {rs : List Tmp} {H H' T : AHeap} {s : Nat → AV} {r : AV} (e : H' = H ++ T) (h : r = ares rs fun t => frz H' H.length (s t)) : AEnd rs H (.ok r) H .ret s H' := by subst e; exact AEnd.ret h
theorem Does.imp {P : Program} {f : FuncId} {args : List AV} {H H' : AHeap} {r r' : AV} (h : Does P f args H (.ok r) H') (hr : ∀ φ N w v, RA H' φ N w r v → RA H' φ N w r' v) : Does P f args H (.ok r') H' := by
  have := h.weak (s' := sOne r') (.imp _ _ _ fun φ N w u v hv => ?_)
  · exact this
  · unfold sOne at hv ⊢
    by_cases hu : u = 0
    · rw [if_pos hu] at hv ⊢; exact hr _ _ _ _ hv
    · rw [if_neg hu] at hv ⊢; exact hv
theorem RA.tupSub {H : AHeap} {φ : Phi} {N : Addr → Prop} {w : World} {cs cs' : List AV} {v : Value} (hs : SubL cs cs') (h : RA H φ N w (.tup cs) v) : RA H φ N w (.tup cs') v := by
  cases h with
  | tup cs vs hl hh => exact .tup _ vs (hs.len.symm.trans hl) fun i h1 h2 => hs.ra i (by rw [hs.len]; exact h1) h1 (hh i (by rw [hs.len]; exact h1) h2)
theorem Does.sub1 {P : Program} {f : FuncId} {args : List AV} {H H' : AHeap} {r r' : AV} (h : Does P f args H (.ok r) H') (hs : Sub r r') : Does P f args H (.ok r') H' := h.imp fun _ _ _ _ hv => hs.ra hv
theorem Does.subT {P : Program} {f : FuncId} {args : List AV} {H H' : AHeap} {cs cs' : List AV} (h : Does P f args H (.ok (.tup cs)) H') (hs : SubL cs cs') : Does P f args H (.ok (.tup cs')) H' := h.imp fun _ _ _ _ hv => hv.tupSub hs
/-- An empty list is nil, or it is not. -/
theorem RA.empty {H : AHeap} {φ : Phi} {N : Addr → Prop} {w : World} {v : Value} (h : RA H φ N w (.d (.list false [])) v) : RA H φ N w (.d (.v (.slice none 0 0))) v ∨ RA H φ N w (.d (.list true [])) v := by
  cases h with
  | d h =>
    cases h with
    | nil A c hA =>
      cases A with
      | none => rw [hA rfl]; exact .inl (.d (.v _ rfl))
      | some ad => exact .inr (.d (RD.list true [] ad c 0 (fun _ _ => undef) (Nat.zero_le _) (fun e he => by simp at he) (fun i j hi => by simp at hi) (fun i hi => by simp at hi)))
    | list _ _ ad cap k c hc hk hh hd => exact .inr (.d (RD.list true [] ad cap k c hc hk hh hd))
theorem Does.splitNil {P : Program} {f : FuncId} {H H' : AHeap} {res : ARes} (pre post : List AV) (h1 : Does P f (pre ++ .d (.v (.slice none 0 0)) :: post) H res H') (h2 : Does P f (pre ++ .d (.list true []) :: post) H res H') : Does P f (pre ++ .d (.list false []) :: post) H res H' := by
  intro φ N w vals hR hA
  have hlt : pre.length < vals.size := by rw [← hA.1]; simp
  have h0 := hA.2 pre.length (by simp) hlt
  simp only [List.getElem_append_right (Nat.le_refl _), Nat.sub_self, List.getElem_cons_zero] at h0
  have go : ∀ x, RA H φ N w x (vals[pre.length]) → RAs H φ N w (pre ++ x :: post) vals := fun x hx => by
    refine ⟨by rw [← hA.1]; simp, fun i g1 g2 => ?_⟩
    have h3 := hA.2 i (by simpa using g1) g2
    by_cases hi : i = pre.length
    · subst hi
      simp only [List.getElem_append_right (Nat.le_refl _), Nat.sub_self, List.getElem_cons_zero]
      exact hx
    · rcases Nat.lt_or_ge i pre.length with hlt2 | hge
      · rw [List.getElem_append_left hlt2] at h3 ⊢; exact h3
      · rw [List.getElem_append_right hge] at h3 ⊢
        obtain ⟨j, hj⟩ : ∃ j, i - pre.length = j + 1 := ⟨i - pre.length - 1, by omega⟩
        simp only [hj, List.getElem_cons_succ] at h3 ⊢
        exact h3
  rcases RA.empty h0 with h | h
  · exact h1 φ N w vals hR (go _ h)
  · exact h2 φ N w vals hR (go _ h)
theorem nilEq_run {P : Program} (d : Nat) (t e : TypeId) (h : P.underlying t = some (.slice e)) (w : World) : (Op.equalIn (d + 1) t (.slice none 0 0) (.slice none 0 0)).run P w = .ok true w := by simp [Op.equalIn, run_underlying h]
theorem nilEq_pure {P : Program} {t e : TypeId} (hu : P.underlying t = some (.slice e)) : PureBin P .eql t (.slice none 0 0) (.slice none 0 0) (.bool true) := fun x y w => by
  have hg : (eqGuard .eql t x y (.slice none 0 0) (.slice none 0 0)).run P w = .ok () w := by simp [eqGuard]
  have he : (Op.equal t (.slice none 0 0) (.slice none 0 0)).run P w = .ok true w := nilEq_run 9999 t e hu w
  rw [Sem.run_bind, hg]
  simp only [Result.andThen_ok, Go.binOp]
  simp [he]
/-- Nil held against nil. -/
theorem nilEq_bin {P : Program} {t e : TypeId} (hu : P.underlying t = some (.slice e)) (K : Value → Prop) : binK P .eql t (.slice none 0 0) (.slice none 0 0) K = K (.bool true) := by
  have h := nilEq_pure hu
  have : binK P .eql t (.slice none 0 0) (.slice none 0 0) K = ∃ r, PureBin P .eql t (.slice none 0 0) (.slice none 0 0) r ∧ K r := by unfold binK; rfl
  rw [this]
  exact propext ⟨fun ⟨r', h', k⟩ => by rw [h.inj h']; exact k, fun k => ⟨_, h, k⟩⟩
/-! ### A cut between two parts -/
def KMid (I : (Nat → AV) → AHeap → Prop) : Post := fun e s H => match e with | .normal => I s H | _ => False
theorem KMid_normal (I : (Nat → AV) → AHeap → Prop) (s : Nat → AV) (H : AHeap) : KMid I .normal s H = I s H := rfl
attribute [go_sem] KMid_normal
section
variable {P : Program} {hint : Nat → Bool} {n : Nat} {H0 : AHeap} {Q : Post} {s : Nat → AV} {H : AHeap}
theorem awp_cut {x y : Code} (I : (Nat → AV) → AHeap → Prop) (hh : hintAt hint y = false) (h1 : awp P hint n H0 x (KMid I) s H) (h2 : ∀ s H, I s H → awp P hint n H0 y Q s H) : awp P hint n H0 x (KSeq P hint n H0 y Q) s H := by
  refine awp_mono x (fun e s H h => ?_) s H h1
  cases e with
  | normal => rw [KSeq_normal, hh, aite_false]; exact h2 s H h
  | _ => exact h.elim
theorem acond_cut {x x' y : Code} {b : Bool} (I : (Nat → AV) → AHeap → Prop) (hh : hintAt hint y = false) (h1 : acond (some b) (awp P hint n H0 x (KMid I) s H) (awp P hint n H0 x' (KMid I) s H)) (h2 : ∀ s H, I s H → awp P hint n H0 y Q s H) :
    acond (some b) (awp P hint n H0 x (KSeq P hint n H0 y Q) s H) (awp P hint n H0 x' (KSeq P hint n H0 y Q) s H) := by
  cases b
  · exact awp_cut I hh h1 h2
  · exact awp_cut I hh h1 h2
theorem awp_cutB {x y : Code} {b : Nat} (I : (Nat → AV) → AHeap → Prop) (hh : hintAt hint y = false) (h1 : awp P hint n H0 x (KBlock b (KMid I)) s H) (h2 : ∀ s H, I s H → awp P hint n H0 y Q s H) : awp P hint n H0 x (KBlock b (KSeq P hint n H0 y Q)) s H := by
  refine awp_mono x (fun e s H h => ?_) s H h1
  cases e with
  | normal => show KSeq P hint n H0 y Q .normal s H; rw [KSeq_normal, hh, aite_false]; exact h2 s H h
  | exit i =>
    rw [KBlock_exit] at h ⊢
    by_cases hi : i = b
    · rw [if_pos hi] at h ⊢; rw [KSeq_normal, hh, aite_false]; exact h2 s H h
    · rw [if_neg hi] at h; exact h.elim
  | _ => exact h.elim
end
end Go.Proofs.YtfmmemboakdeiaaAw
namespace Go.Proofs.Ytfmmemboakdeiaa
open Go.Proofs.YtfmmemboakdeiaaAw Go.RowKit
set_option linter.unusedVariables false
set_option linter.unusedSimpArgs false
theorem askP_eq (op c : Int) : askP op c = if op = 1 then decide (c = 0) else if op = 2 then !decide (c = 0) else if op = 3 then decide (c < 0) else if op = 4 then decide (c ≤ 0) else if op = 5 then decide (0 < c) else if op = 6 then decide (0 ≤ c) else false := rfl
set_option maxRecDepth 10000 in
set_option maxHeartbeats 2000000 in
theorem rholds_does (a : Atom) (v : Val) (hs : v.s.size ≤ 9223372036854775807) (H : AHeap) : Does Try.prog 44 [a.av, v.av] H (.ok (bA (holdsP a v))) H := by
  have hP : holdsP a v = if bareP a.op then decide (v.kind = 0) == decide (a.op = 7) else if v.kind = 0 ∨ v.kind ≠ a.val.kind then false else askP a.op (cmpV v a.val) := rfl
  have hB : bareP a.op = (decide (a.op = 7) || decide (a.op = 8)) := rfl
  refine Does.of_awp (hint := (fun _ => false)) Try.func44 (by kernel_rfl) rfl [4] (by kernel_rfl) (by decide) (by simp [Try.ntmps44]) ?_
  rw [Try.ntmps44]
  by_cases h7 : a.op = 7
  · have e : holdsP a v = decide (v.kind = 0) := by rw [hP, hB]; simp [h7]
    simp (implicitDefEqProofs := false) only [↓reduceIte, go_sem, oread, owrite, Nat.reduceAdd, Nat.reduceSub, Nat.reduceMul, Nat.reduceLT, Nat.reduceLeDiff, Nat.reduceEqDiff, Nat.reduceBEq, Int.reduceLE, Int.reduceLT, Int.reduceEq, Int.reduceNe, Int.reduceAdd, Int.reduceSub, Int.reduceMul, Int.reduceNeg, Int.reduceToNat, Int.reduceNatCast, reduceCtorEq, eq_self, eq_true h7]
    refine AEnd.ret ?_
    simp (implicitDefEqProofs := false) only [↓reduceIte, go_sem, oread, owrite, Nat.reduceAdd, Nat.reduceSub, Nat.reduceMul, Nat.reduceLT, Nat.reduceLeDiff, Nat.reduceEqDiff, Nat.reduceBEq, Int.reduceLE, Int.reduceLT, Int.reduceEq, Int.reduceNe, Int.reduceAdd, Int.reduceSub, Int.reduceMul, Int.reduceNeg, Int.reduceToNat, Int.reduceNatCast, reduceCtorEq, eq_self, e]
  by_cases h8 : a.op = 8
  · have e : holdsP a v = !decide (v.kind = 0) := by rw [hP, hB]; simp [h8]
    simp (implicitDefEqProofs := false) only [↓reduceIte, go_sem, oread, owrite, Nat.reduceAdd, Nat.reduceSub, Nat.reduceMul, Nat.reduceLT, Nat.reduceLeDiff, Nat.reduceEqDiff, Nat.reduceBEq, Int.reduceLE, Int.reduceLT, Int.reduceEq, Int.reduceNe, Int.reduceAdd, Int.reduceSub, Int.reduceMul, Int.reduceNeg, Int.reduceToNat, Int.reduceNatCast, reduceCtorEq, eq_self, h7, eq_true h8]
    refine AEnd.ret ?_
    simp (implicitDefEqProofs := false) only [↓reduceIte, go_sem, oread, owrite, Nat.reduceAdd, Nat.reduceSub, Nat.reduceMul, Nat.reduceLT, Nat.reduceLeDiff, Nat.reduceEqDiff, Nat.reduceBEq, Int.reduceLE, Int.reduceLT, Int.reduceEq, Int.reduceNe, Int.reduceAdd, Int.reduceSub, Int.reduceMul, Int.reduceNeg, Int.reduceToNat, Int.reduceNatCast, reduceCtorEq, eq_self, e]
  have hb : bareP a.op = false := by rw [hB]; simp [h7, h8]
  rw [hb] at hP
  simp only [Bool.false_eq_true, if_false] at hP
  by_cases h0 : v.kind = 0
  · rw [if_pos (.inl h0)] at hP
    simp (implicitDefEqProofs := false) only [↓reduceIte, go_sem, oread, owrite, Nat.reduceAdd, Nat.reduceSub, Nat.reduceMul, Nat.reduceLT, Nat.reduceLeDiff, Nat.reduceEqDiff, Nat.reduceBEq, Int.reduceLE, Int.reduceLT, Int.reduceEq, Int.reduceNe, Int.reduceAdd, Int.reduceSub, Int.reduceMul, Int.reduceNeg, Int.reduceToNat, Int.reduceNatCast, reduceCtorEq, eq_self, h7, h8, eq_true h0]
    refine AEnd.ret ?_
    simp (implicitDefEqProofs := false) only [↓reduceIte, go_sem, oread, owrite, Nat.reduceAdd, Nat.reduceSub, Nat.reduceMul, Nat.reduceLT, Nat.reduceLeDiff, Nat.reduceEqDiff, Nat.reduceBEq, Int.reduceLE, Int.reduceLT, Int.reduceEq, Int.reduceNe, Int.reduceAdd, Int.reduceSub, Int.reduceMul, Int.reduceNeg, Int.reduceToNat, Int.reduceNatCast, reduceCtorEq, eq_self, hP]
  by_cases hk : v.kind = a.val.kind
  · rw [if_neg (fun h => h.elim h0 fun h => h hk), askP_eq] at hP
    have hc := vcmp05_does v a.val hs
    simp (implicitDefEqProofs := false) only [↓reduceIte, go_sem, oread, owrite, Nat.reduceAdd, Nat.reduceSub, Nat.reduceMul, Nat.reduceLT, Nat.reduceLeDiff, Nat.reduceEqDiff, Nat.reduceBEq, Int.reduceLE, Int.reduceLT, Int.reduceEq, Int.reduceNe, Int.reduceAdd, Int.reduceSub, Int.reduceMul, Int.reduceNeg, Int.reduceToNat, Int.reduceNatCast, reduceCtorEq, eq_self, h7, h8, h0, eq_true hk]
    rw [Atom.val_av]
    refine KCall.ok (hc _) ?_
    generalize cmpV v a.val = c at *
    by_cases h1 : a.op = 1
    · simp only [h1, if_true] at hP
      simp (implicitDefEqProofs := false) only [↓reduceIte, go_sem, oread, owrite, Nat.reduceAdd, Nat.reduceSub, Nat.reduceMul, Nat.reduceLT, Nat.reduceLeDiff, Nat.reduceEqDiff, Nat.reduceBEq, Int.reduceLE, Int.reduceLT, Int.reduceEq, Int.reduceNe, Int.reduceAdd, Int.reduceSub, Int.reduceMul, Int.reduceNeg, Int.reduceToNat, Int.reduceNatCast, reduceCtorEq, eq_self, eq_true h1]
      refine AEnd.ret ?_
      simp (implicitDefEqProofs := false) only [↓reduceIte, go_sem, oread, owrite, Nat.reduceAdd, Nat.reduceSub, Nat.reduceMul, Nat.reduceLT, Nat.reduceLeDiff, Nat.reduceEqDiff, Nat.reduceBEq, Int.reduceLE, Int.reduceLT, Int.reduceEq, Int.reduceNe, Int.reduceAdd, Int.reduceSub, Int.reduceMul, Int.reduceNeg, Int.reduceToNat, Int.reduceNatCast, reduceCtorEq, eq_self, hP]
    by_cases h2 : a.op = 2
    · rw [if_neg h1, if_pos h2] at hP
      simp (implicitDefEqProofs := false) only [↓reduceIte, go_sem, oread, owrite, Nat.reduceAdd, Nat.reduceSub, Nat.reduceMul, Nat.reduceLT, Nat.reduceLeDiff, Nat.reduceEqDiff, Nat.reduceBEq, Int.reduceLE, Int.reduceLT, Int.reduceEq, Int.reduceNe, Int.reduceAdd, Int.reduceSub, Int.reduceMul, Int.reduceNeg, Int.reduceToNat, Int.reduceNatCast, reduceCtorEq, eq_self, h1, eq_true h2]
      refine AEnd.ret ?_
      simp (implicitDefEqProofs := false) only [↓reduceIte, go_sem, oread, owrite, Nat.reduceAdd, Nat.reduceSub, Nat.reduceMul, Nat.reduceLT, Nat.reduceLeDiff, Nat.reduceEqDiff, Nat.reduceBEq, Int.reduceLE, Int.reduceLT, Int.reduceEq, Int.reduceNe, Int.reduceAdd, Int.reduceSub, Int.reduceMul, Int.reduceNeg, Int.reduceToNat, Int.reduceNatCast, reduceCtorEq, eq_self, hP]
    by_cases h3 : a.op = 3
    · rw [if_neg h1, if_neg h2, if_pos h3] at hP
      simp (implicitDefEqProofs := false) only [↓reduceIte, go_sem, oread, owrite, Nat.reduceAdd, Nat.reduceSub, Nat.reduceMul, Nat.reduceLT, Nat.reduceLeDiff, Nat.reduceEqDiff, Nat.reduceBEq, Int.reduceLE, Int.reduceLT, Int.reduceEq, Int.reduceNe, Int.reduceAdd, Int.reduceSub, Int.reduceMul, Int.reduceNeg, Int.reduceToNat, Int.reduceNatCast, reduceCtorEq, eq_self, h1, h2, eq_true h3]
      refine AEnd.ret ?_
      simp (implicitDefEqProofs := false) only [↓reduceIte, go_sem, oread, owrite, Nat.reduceAdd, Nat.reduceSub, Nat.reduceMul, Nat.reduceLT, Nat.reduceLeDiff, Nat.reduceEqDiff, Nat.reduceBEq, Int.reduceLE, Int.reduceLT, Int.reduceEq, Int.reduceNe, Int.reduceAdd, Int.reduceSub, Int.reduceMul, Int.reduceNeg, Int.reduceToNat, Int.reduceNatCast, reduceCtorEq, eq_self, hP]
    by_cases h4 : a.op = 4
    · rw [if_neg h1, if_neg h2, if_neg h3, if_pos h4] at hP
      simp (implicitDefEqProofs := false) only [↓reduceIte, go_sem, oread, owrite, Nat.reduceAdd, Nat.reduceSub, Nat.reduceMul, Nat.reduceLT, Nat.reduceLeDiff, Nat.reduceEqDiff, Nat.reduceBEq, Int.reduceLE, Int.reduceLT, Int.reduceEq, Int.reduceNe, Int.reduceAdd, Int.reduceSub, Int.reduceMul, Int.reduceNeg, Int.reduceToNat, Int.reduceNatCast, reduceCtorEq, eq_self, h1, h2, h3, eq_true h4]
      refine AEnd.ret ?_
      simp (implicitDefEqProofs := false) only [↓reduceIte, go_sem, oread, owrite, Nat.reduceAdd, Nat.reduceSub, Nat.reduceMul, Nat.reduceLT, Nat.reduceLeDiff, Nat.reduceEqDiff, Nat.reduceBEq, Int.reduceLE, Int.reduceLT, Int.reduceEq, Int.reduceNe, Int.reduceAdd, Int.reduceSub, Int.reduceMul, Int.reduceNeg, Int.reduceToNat, Int.reduceNatCast, reduceCtorEq, eq_self, hP]
    by_cases h5 : a.op = 5
    · rw [if_neg h1, if_neg h2, if_neg h3, if_neg h4, if_pos h5] at hP
      simp (implicitDefEqProofs := false) only [↓reduceIte, go_sem, oread, owrite, Nat.reduceAdd, Nat.reduceSub, Nat.reduceMul, Nat.reduceLT, Nat.reduceLeDiff, Nat.reduceEqDiff, Nat.reduceBEq, Int.reduceLE, Int.reduceLT, Int.reduceEq, Int.reduceNe, Int.reduceAdd, Int.reduceSub, Int.reduceMul, Int.reduceNeg, Int.reduceToNat, Int.reduceNatCast, reduceCtorEq, eq_self, h1, h2, h3, h4, eq_true h5]
      refine AEnd.ret ?_
      simp (implicitDefEqProofs := false) only [↓reduceIte, go_sem, oread, owrite, Nat.reduceAdd, Nat.reduceSub, Nat.reduceMul, Nat.reduceLT, Nat.reduceLeDiff, Nat.reduceEqDiff, Nat.reduceBEq, Int.reduceLE, Int.reduceLT, Int.reduceEq, Int.reduceNe, Int.reduceAdd, Int.reduceSub, Int.reduceMul, Int.reduceNeg, Int.reduceToNat, Int.reduceNatCast, reduceCtorEq, eq_self, hP]
    by_cases h6 : a.op = 6
    · rw [if_neg h1, if_neg h2, if_neg h3, if_neg h4, if_neg h5, if_pos h6] at hP
      simp (implicitDefEqProofs := false) only [↓reduceIte, go_sem, oread, owrite, Nat.reduceAdd, Nat.reduceSub, Nat.reduceMul, Nat.reduceLT, Nat.reduceLeDiff, Nat.reduceEqDiff, Nat.reduceBEq, Int.reduceLE, Int.reduceLT, Int.reduceEq, Int.reduceNe, Int.reduceAdd, Int.reduceSub, Int.reduceMul, Int.reduceNeg, Int.reduceToNat, Int.reduceNatCast, reduceCtorEq, eq_self, h1, h2, h3, h4, h5, eq_true h6]
      refine AEnd.ret ?_
      simp (implicitDefEqProofs := false) only [↓reduceIte, go_sem, oread, owrite, Nat.reduceAdd, Nat.reduceSub, Nat.reduceMul, Nat.reduceLT, Nat.reduceLeDiff, Nat.reduceEqDiff, Nat.reduceBEq, Int.reduceLE, Int.reduceLT, Int.reduceEq, Int.reduceNe, Int.reduceAdd, Int.reduceSub, Int.reduceMul, Int.reduceNeg, Int.reduceToNat, Int.reduceNatCast, reduceCtorEq, eq_self, hP]
    rw [if_neg h1, if_neg h2, if_neg h3, if_neg h4, if_neg h5, if_neg h6] at hP
    simp (implicitDefEqProofs := false) only [↓reduceIte, go_sem, oread, owrite, Nat.reduceAdd, Nat.reduceSub, Nat.reduceMul, Nat.reduceLT, Nat.reduceLeDiff, Nat.reduceEqDiff, Nat.reduceBEq, Int.reduceLE, Int.reduceLT, Int.reduceEq, Int.reduceNe, Int.reduceAdd, Int.reduceSub, Int.reduceMul, Int.reduceNeg, Int.reduceToNat, Int.reduceNatCast, reduceCtorEq, eq_self, h1, h2, h3, h4, h5, h6]
    refine AEnd.ret ?_
    simp (implicitDefEqProofs := false) only [↓reduceIte, go_sem, oread, owrite, Nat.reduceAdd, Nat.reduceSub, Nat.reduceMul, Nat.reduceLT, Nat.reduceLeDiff, Nat.reduceEqDiff, Nat.reduceBEq, Int.reduceLE, Int.reduceLT, Int.reduceEq, Int.reduceNe, Int.reduceAdd, Int.reduceSub, Int.reduceMul, Int.reduceNeg, Int.reduceToNat, Int.reduceNatCast, reduceCtorEq, eq_self, hP]
  · rw [if_pos (.inr hk)] at hP
    simp (implicitDefEqProofs := false) only [↓reduceIte, go_sem, oread, owrite, Nat.reduceAdd, Nat.reduceSub, Nat.reduceMul, Nat.reduceLT, Nat.reduceLeDiff, Nat.reduceEqDiff, Nat.reduceBEq, Int.reduceLE, Int.reduceLT, Int.reduceEq, Int.reduceNe, Int.reduceAdd, Int.reduceSub, Int.reduceMul, Int.reduceNeg, Int.reduceToNat, Int.reduceNatCast, reduceCtorEq, eq_self, h7, h8, h0, hk]
    refine AEnd.ret ?_
    simp (implicitDefEqProofs := false) only [↓reduceIte, go_sem, oread, owrite, Nat.reduceAdd, Nat.reduceSub, Nat.reduceMul, Nat.reduceLT, Nat.reduceLeDiff, Nat.reduceEqDiff, Nat.reduceBEq, Int.reduceLE, Int.reduceLT, Int.reduceEq, Int.reduceNe, Int.reduceAdd, Int.reduceSub, Int.reduceMul, Int.reduceNeg, Int.reduceToNat, Int.reduceNatCast, reduceCtorEq, eq_self, hP]
set_option maxRecDepth 10000 in
set_option maxHeartbeats 1000000 in
theorem rall_does (l : List Atom) (row : List Val) (n1 n2 : Bool) (H : AHeap) (hl : l.length ≤ 1000000000000) (hs : ∀ v ∈ row, v.s.size ≤ 9223372036854775807) : Does Try.prog 23 [.d (.list n1 (l.map Atom.enc)), .d (.list n2 (row.map Val.enc))] H (.ok (bA (allP l row))) H := by
  refine Does.of_awp (hint := (fun _ => false)) Try.func23 (by kernel_rfl) rfl [4] (by kernel_rfl) (by decide) (by simp [Try.ntmps23]) ?_
  rw [Try.ntmps23]
  simp (implicitDefEqProofs := false) only [↓reduceIte, go_sem, oread, owrite, Nat.reduceAdd, Nat.reduceSub, Nat.reduceMul, Nat.reduceLT, Nat.reduceLeDiff, Nat.reduceEqDiff, Nat.reduceBEq, Int.reduceLE, Int.reduceLT, Int.reduceEq, Int.reduceNe, Int.reduceAdd, Int.reduceSub, Int.reduceMul, Int.reduceNeg, Int.reduceToNat, Int.reduceNatCast, reduceCtorEq, eq_self]
  refine awp_for3 (fun k s H' => H' = H ∧ (∀ i (hi : i < k) (hl : i < l.length), ∃ v, 0 ≤ (l[i]).col ∧ row[(l[i]).col.toNat]? = some v ∧ holdsP l[i] v = true) ∧ s 0 = .d (.list n1 (l.map Atom.enc)) ∧ s 1 = .d (.list n2 (row.map Val.enc)) ∧ s 5 = iA k) l.length (by omega) (Weak.refl _ _) ?_ ?_ ?_
  · refine ⟨rfl, fun i hi => by omega, ?_⟩
    simp (implicitDefEqProofs := false) only [↓reduceIte, go_sem, oread, owrite, Nat.reduceAdd, Nat.reduceSub, Nat.reduceMul, Nat.reduceLT, Nat.reduceLeDiff, Nat.reduceEqDiff, Nat.reduceBEq, Int.reduceLE, Int.reduceLT, Int.reduceEq, Int.reduceNe, Int.reduceAdd, Int.reduceSub, Int.reduceMul, Int.reduceNeg, Int.reduceToNat, Int.reduceNatCast, reduceCtorEq, eq_self]
  · rintro k s H' hk hw ⟨rfl, hp, t0, t1, t5⟩
    have hx := List.getElem?_eq_getElem hk
    have hall : (∃ v, 0 ≤ (l[k]).col ∧ row[(l[k]).col.toNat]? = some v ∧ holdsP l[k] v = true) → ∀ i (hi : i < k + 1) (hl : i < l.length), ∃ v, 0 ≤ (l[i]).col ∧ row[(l[i]).col.toNat]? = some v ∧ holdsP l[i] v = true := fun h0 i hi hl' => by
      rcases Nat.lt_or_ge i k with h | h
      · exact hp i h hl'
      · obtain rfl : i = k := by omega
        exact h0
    have hfin := allP_cons_false (row := row) hk
    generalize l[k] = a at hx hall hfin
    by_cases hc : a.col < 0
    · simp (implicitDefEqProofs := false) only [↓reduceIte, go_sem, oread, owrite, Nat.reduceAdd, Nat.reduceSub, Nat.reduceMul, Nat.reduceLT, Nat.reduceLeDiff, Nat.reduceEqDiff, Nat.reduceBEq, Int.reduceLE, Int.reduceLT, Int.reduceEq, Int.reduceNe, Int.reduceAdd, Int.reduceSub, Int.reduceMul, Int.reduceNeg, Int.reduceToNat, Int.reduceNatCast, reduceCtorEq, eq_self, t0, t5, List.length_map, hk, hx, Atom.enc, hc]
      refine AEnd.ret0 ?_
      rw [hfin fun v _ h => by omega]
      simp (implicitDefEqProofs := false) only [↓reduceIte, go_sem, oread, owrite, Nat.reduceAdd, Nat.reduceSub, Nat.reduceMul, Nat.reduceLT, Nat.reduceLeDiff, Nat.reduceEqDiff, Nat.reduceBEq, Int.reduceLE, Int.reduceLT, Int.reduceEq, Int.reduceNe, Int.reduceAdd, Int.reduceSub, Int.reduceMul, Int.reduceNeg, Int.reduceToNat, Int.reduceNatCast, reduceCtorEq, eq_self]
    · by_cases hlt : (row.length : Int) ≤ a.col
      · simp (implicitDefEqProofs := false) only [↓reduceIte, go_sem, oread, owrite, Nat.reduceAdd, Nat.reduceSub, Nat.reduceMul, Nat.reduceLT, Nat.reduceLeDiff, Nat.reduceEqDiff, Nat.reduceBEq, Int.reduceLE, Int.reduceLT, Int.reduceEq, Int.reduceNe, Int.reduceAdd, Int.reduceSub, Int.reduceMul, Int.reduceNeg, Int.reduceToNat, Int.reduceNatCast, reduceCtorEq, eq_self, t0, t1, t5, List.length_map, hk, hx, Atom.enc, hc, hlt]
        refine AEnd.ret0 ?_
        rw [hfin fun v hv h => by rw [List.getElem?_eq_none (by omega)] at hv; cases hv]
        simp (implicitDefEqProofs := false) only [↓reduceIte, go_sem, oread, owrite, Nat.reduceAdd, Nat.reduceSub, Nat.reduceMul, Nat.reduceLT, Nat.reduceLeDiff, Nat.reduceEqDiff, Nat.reduceBEq, Int.reduceLE, Int.reduceLT, Int.reduceEq, Int.reduceNe, Int.reduceAdd, Int.reduceSub, Int.reduceMul, Int.reduceNeg, Int.reduceToNat, Int.reduceNatCast, reduceCtorEq, eq_self]
      · obtain ⟨v, hv⟩ : ∃ v, row[a.col.toNat]? = some v := ⟨_, List.getElem?_eq_getElem (show a.col.toNat < row.length by omega)⟩
        simp (implicitDefEqProofs := false) only [↓reduceIte, go_sem, oread, owrite, Nat.reduceAdd, Nat.reduceSub, Nat.reduceMul, Nat.reduceLT, Nat.reduceLeDiff, Nat.reduceEqDiff, Nat.reduceBEq, Int.reduceLE, Int.reduceLT, Int.reduceEq, Int.reduceNe, Int.reduceAdd, Int.reduceSub, Int.reduceMul, Int.reduceNeg, Int.reduceToNat, Int.reduceNatCast, reduceCtorEq, eq_self, t0, t1, t5, List.length_map, hk, hx, Atom.enc, hc, hlt]
        refine awp_draw K.mixed (by kernel_rfl) ?_
        simp (implicitDefEqProofs := false) only [↓reduceIte, go_sem, oread, owrite, Nat.reduceAdd, Nat.reduceSub, Nat.reduceMul, Nat.reduceLT, Nat.reduceLeDiff, Nat.reduceEqDiff, Nat.reduceBEq, Int.reduceLE, Int.reduceLT, Int.reduceEq, Int.reduceNe, Int.reduceAdd, Int.reduceSub, Int.reduceMul, Int.reduceNeg, Int.reduceToNat, Int.reduceNatCast, reduceCtorEq, eq_self, t0, t1, t5, List.length_map, hk, hx, Atom.enc, show 0 ≤ a.col from by omega, hlt, hv, Val.enc]
        refine KCall.ok (rholds_does a v (hs v (List.mem_of_getElem? hv)) _) ?_
        cases hh : holdsP a v with
        | true =>
          simp (implicitDefEqProofs := false) only [↓reduceIte, go_sem, oread, owrite, Nat.reduceAdd, Nat.reduceSub, Nat.reduceMul, Nat.reduceLT, Nat.reduceLeDiff, Nat.reduceEqDiff, Nat.reduceBEq, Int.reduceLE, Int.reduceLT, Int.reduceEq, Int.reduceNe, Int.reduceAdd, Int.reduceSub, Int.reduceMul, Int.reduceNeg, Int.reduceToNat, Int.reduceNatCast, reduceCtorEq, eq_self, hh, t5]
          refine Rnd.same ⟨rfl, hall ⟨v, by omega, hv, hh⟩, ?_⟩
          simp (implicitDefEqProofs := false) only [↓reduceIte, go_sem, oread, owrite, Nat.reduceAdd, Nat.reduceSub, Nat.reduceMul, Nat.reduceLT, Nat.reduceLeDiff, Nat.reduceEqDiff, Nat.reduceBEq, Int.reduceLE, Int.reduceLT, Int.reduceEq, Int.reduceNe, Int.reduceAdd, Int.reduceSub, Int.reduceMul, Int.reduceNeg, Int.reduceToNat, Int.reduceNatCast, reduceCtorEq, eq_self, t0, t1, hw]
        | false =>
          simp (implicitDefEqProofs := false) only [↓reduceIte, go_sem, oread, owrite, Nat.reduceAdd, Nat.reduceSub, Nat.reduceMul, Nat.reduceLT, Nat.reduceLeDiff, Nat.reduceEqDiff, Nat.reduceBEq, Int.reduceLE, Int.reduceLT, Int.reduceEq, Int.reduceNe, Int.reduceAdd, Int.reduceSub, Int.reduceMul, Int.reduceNeg, Int.reduceToNat, Int.reduceNatCast, reduceCtorEq, eq_self, hh]
          refine AEnd.ret0 ?_
          rw [hfin fun v' hv' h => by rw [hv] at hv'; cases hv'; exact hh]
          simp (implicitDefEqProofs := false) only [↓reduceIte, go_sem, oread, owrite, Nat.reduceAdd, Nat.reduceSub, Nat.reduceMul, Nat.reduceLT, Nat.reduceLeDiff, Nat.reduceEqDiff, Nat.reduceBEq, Int.reduceLE, Int.reduceLT, Int.reduceEq, Int.reduceNe, Int.reduceAdd, Int.reduceSub, Int.reduceMul, Int.reduceNeg, Int.reduceToNat, Int.reduceNatCast, reduceCtorEq, eq_self]
  · rintro s H' ⟨rfl, hp, t0, t1, t5⟩
    simp (implicitDefEqProofs := false) only [↓reduceIte, go_sem, oread, owrite, Nat.reduceAdd, Nat.reduceSub, Nat.reduceMul, Nat.reduceLT, Nat.reduceLeDiff, Nat.reduceEqDiff, Nat.reduceBEq, Int.reduceLE, Int.reduceLT, Int.reduceEq, Int.reduceNe, Int.reduceAdd, Int.reduceSub, Int.reduceMul, Int.reduceNeg, Int.reduceToNat, Int.reduceNatCast, reduceCtorEq, eq_self, t0, t5, List.length_map]
    refine AEnd.ret0 ?_
    rw [allP_true fun k hk => hp k hk hk]
    simp (implicitDefEqProofs := false) only [↓reduceIte, go_sem, oread, owrite, Nat.reduceAdd, Nat.reduceSub, Nat.reduceMul, Nat.reduceLT, Nat.reduceLeDiff, Nat.reduceEqDiff, Nat.reduceBEq, Int.reduceLE, Int.reduceLT, Int.reduceEq, Int.reduceNe, Int.reduceAdd, Int.reduceSub, Int.reduceMul, Int.reduceNeg, Int.reduceToNat, Int.reduceNatCast, reduceCtorEq, eq_self]
end Go.Proofs.Ytfmmemboakdeiaa
namespace Go.Proofs.Ytfmmemboakdeiaa
set_option linter.unusedVariables false
namespace St
variable {α : Type}
/-- Which of two is ahead: a strict order in which what is not ahead of one another is alike. -/
structure Ord (lt : α → α → Bool) : Prop where
  asym : ∀ x y, lt x y = true → lt y x = false
  ntrans : ∀ x y z, lt x z = true → lt x y = true ∨ lt y z = true
variable {lt : α → α → Bool} {l : List α}
theorem Ord.irr (h : Ord lt) (x : α) : lt x x = false := by
  cases e : lt x x with
  | false => rfl
  | true => rw [h.asym x x e] at e; cases e
theorem Ord.trans (h : Ord lt) {x y z : α} (h1 : lt x y = true) (h2 : lt y z = true) : lt x z = true := by
  rcases h.ntrans x z y h1 with h3 | h3
  · exact h3
  · rw [h.asym y z h2] at h3; cases h3
theorem Ord.le_trans (h : Ord lt) {x y z : α} (h1 : lt y x = false) (h2 : lt z y = false) : lt z x = false := by
  cases e : lt z x with
  | false => rfl
  | true =>
    rcases h.ntrans z y x e with h3 | h3
    · rw [h2] at h3; cases h3
    · rw [h1] at h3; cases h3
theorem Ord.lt_le (h : Ord lt) {x y z : α} (h1 : lt x y = true) (h2 : lt z y = false) : lt x z = true := by
  rcases h.ntrans x z y h1 with h3 | h3
  · exact h3
  · rw [h2] at h3; cases h3
theorem Ord.le_lt (h : Ord lt) {x y z : α} (h1 : lt y x = false) (h2 : lt y z = true) : lt x z = true := by
  rcases h.ntrans y x z h2 with h3 | h3
  · rw [h1] at h3; cases h3
  · exact h3
def Sorted (lt : α → α → Bool) (l : List α) : Prop := l.Pairwise fun x y => lt y x = false
def eqv (lt : α → α → Bool) (x y : α) : Bool := !lt x y && !lt y x
theorem eqv_iff {x y : α} : eqv lt x y = true ↔ lt x y = false ∧ lt y x = false := by simp [eqv]
def StEq (lt : α → α → Bool) (l m : List α) : Prop := ∀ x, l.filter (eqv lt x) = m.filter (eqv lt x)
theorem StEq.refl (l : List α) : StEq lt l l := fun _ => rfl
theorem StEq.symm {l m : List α} (h : StEq lt l m) : StEq lt m l := fun x => (h x).symm
theorem StEq.trans {l m n : List α} (h : StEq lt l m) (g : StEq lt m n) : StEq lt l n := fun x => (h x).trans (g x)
theorem StEq.app {l l' m m' : List α} (h : StEq lt l l') (g : StEq lt m m') : StEq lt (l ++ m) (l' ++ m') := fun x => by rw [List.filter_append, List.filter_append, h x, g x]
theorem eqv_self (ho : Ord lt) (x : α) : eqv lt x x = true := eqv_iff.2 ⟨ho.irr x, ho.irr x⟩
theorem StEq.mem (ho : Ord lt) {l m : List α} (h : StEq lt l m) {x : α} (hx : x ∈ l) : x ∈ m := by
  have : x ∈ l.filter (eqv lt x) := List.mem_filter.2 ⟨hx, eqv_self ho x⟩
  rw [h x] at this
  exact (List.mem_filter.1 this).1
theorem StEq.mem_iff (ho : Ord lt) {l m : List α} (h : StEq lt l m) {x : α} : x ∈ l ↔ x ∈ m := ⟨h.mem ho, h.symm.mem ho⟩
/-- Neighbours of which all of the one are ahead of all of the other change places. -/
theorem StEq.swap (ho : Ord lt) {u v : List α} (h : ∀ x ∈ u, ∀ y ∈ v, lt y x = true) : StEq lt (u ++ v) (v ++ u) := by
  intro c
  rw [List.filter_append, List.filter_append]
  by_cases hu : ∃ x ∈ u, eqv lt c x = true
  · obtain ⟨x, hx, hc⟩ := hu
    have : v.filter (eqv lt c) = [] := by
      rw [List.filter_eq_nil_iff]
      intro y hy hcy
      have h1 := eqv_iff.1 hc
      have h2 := eqv_iff.1 hcy
      have h3 := h x hx y hy
      rcases ho.ntrans y c x h3 with h4 | h4
      · rw [h2.2] at h4; cases h4
      · rw [h1.1] at h4; cases h4
    rw [this]; simp
  · have : u.filter (eqv lt c) = [] := by
      rw [List.filter_eq_nil_iff]
      intro x hx hc
      exact hu ⟨x, hx, hc⟩
    rw [this]; simp
theorem uniq (ho : Ord lt) : ∀ {l m : List α}, Sorted lt l → Sorted lt m → StEq lt l m → l = m
  | [], [], _, _, _ => rfl
  | [], b :: t, _, _, h => by have := h.symm.mem ho (List.mem_cons_self (a := b) (l := t)); simp at this
  | a :: t, [], _, _, h => by have := h.mem ho (List.mem_cons_self (a := a) (l := t)); simp at this
  | a :: t, b :: t', hl, hm, h => by
    have ha : a ∈ b :: t' := h.mem ho (List.mem_cons_self ..)
    have hb : b ∈ a :: t := h.symm.mem ho (List.mem_cons_self ..)
    have h1 : lt a b = false := by
      rcases List.mem_cons.1 ha with rfl | ha
      · exact ho.irr _
      · exact (List.pairwise_cons.1 hm).1 a ha
    have h2 : lt b a = false := by
      rcases List.mem_cons.1 hb with rfl | hb
      · exact ho.irr _
      · exact (List.pairwise_cons.1 hl).1 b hb
    have e1 : eqv lt a a = true := eqv_self ho a
    have e2 : eqv lt a b = true := eqv_iff.2 ⟨h1, h2⟩
    have h3 := h a
    rw [List.filter_cons_of_pos e1, List.filter_cons_of_pos e2] at h3
    obtain rfl : a = b := (List.cons.inj h3).1
    have : t = t' := uniq ho (List.pairwise_cons.1 hl).2 (List.pairwise_cons.1 hm).2 fun x => by
      have h4 := h x
      by_cases hx : eqv lt x a = true
      · rw [List.filter_cons_of_pos hx, List.filter_cons_of_pos hx] at h4
        exact (List.cons.inj h4).2
      · rw [List.filter_cons_of_neg hx, List.filter_cons_of_neg hx] at h4
        exact h4
    rw [this]
/-! ### The sorted list -/
def ins (lt : α → α → Bool) (x : α) : List α → List α
  | [] => [x]
  | y :: t => if lt y x then y :: ins lt x t else x :: y :: t
def sortS (lt : α → α → Bool) (l : List α) : List α := l.foldr (ins lt) []
theorem ins_mem {x z : α} : ∀ {l : List α}, z ∈ ins lt x l ↔ z = x ∨ z ∈ l
  | [] => by simp [ins]
  | y :: t => by
    unfold ins
    split
    · rw [List.mem_cons, ins_mem, List.mem_cons]
      constructor
      · rintro (h | h | h)
        · exact .inr (.inl h)
        · exact .inl h
        · exact .inr (.inr h)
      · rintro (h | h | h)
        · exact .inr (.inl h)
        · exact .inl h
        · exact .inr (.inr h)
    · simp
theorem ins_sorted (ho : Ord lt) (x : α) : ∀ {l : List α}, Sorted lt l → Sorted lt (ins lt x l)
  | [], _ => by simp [ins, Sorted]
  | y :: t, h => by
    have h' := List.pairwise_cons.1 h
    unfold ins
    split
    · rename_i hy
      refine List.pairwise_cons.2 ⟨fun z hz => ?_, ins_sorted ho x h'.2⟩
      rcases ins_mem.1 hz with rfl | hz
      · exact ho.asym _ _ hy
      · exact h'.1 z hz
    · rename_i hy
      have hy : lt y x = false := by simpa using hy
      refine List.pairwise_cons.2 ⟨fun z hz => ?_, h⟩
      rcases List.mem_cons.1 hz with rfl | hz
      · exact hy
      · exact ho.le_trans hy (h'.1 z hz)
theorem ins_steq (ho : Ord lt) (x : α) : ∀ l : List α, StEq lt (ins lt x l) (x :: l)
  | [] => .refl _
  | y :: t => by
    unfold ins
    split
    · rename_i hy
      have h1 : StEq lt ([y] ++ ins lt x t) ([y] ++ (x :: t)) := StEq.app (.refl _) (ins_steq ho x t)
      refine h1.trans ?_
      have h2 : StEq lt ([y] ++ [x]) ([x] ++ [y]) := (StEq.swap ho (u := [x]) (v := [y]) (by simpa using hy)).symm
      have := StEq.app h2 (.refl t)
      simpa using this
    · exact .refl _
theorem sortS_sorted (ho : Ord lt) : ∀ l : List α, Sorted lt (sortS lt l)
  | [] => List.Pairwise.nil
  | x :: l => ins_sorted ho x (sortS_sorted ho l)
theorem sortS_steq (ho : Ord lt) : ∀ l : List α, StEq lt (sortS lt l) l
  | [] => .refl _
  | x :: l => (ins_steq ho x _).trans (StEq.app (l := [x]) (.refl _) (sortS_steq ho l))
theorem ins_len (x : α) : ∀ l : List α, (ins lt x l).length = l.length + 1
  | [] => rfl
  | y :: t => by unfold ins; split <;> simp [ins_len x t]
theorem sortS_len : ∀ l : List α, (sortS lt l).length = l.length
  | [] => rfl
  | x :: l => by
    show (ins lt x (sortS lt l)).length = _
    rw [ins_len, sortS_len l]; rfl
theorem sortS_mem (ho : Ord lt) {l : List α} {x : α} : x ∈ sortS lt l ↔ x ∈ l := (sortS_steq ho l).mem_iff ho
theorem sortS_eq (ho : Ord lt) {l m : List α} (h1 : Sorted lt m) (h2 : StEq lt m l) : sortS lt l = m := uniq ho (sortS_sorted ho l) h1 ((sortS_steq ho l).trans h2.symm)
theorem sortS_self (ho : Ord lt) {l : List α} (h : Sorted lt l) : sortS lt l = l := sortS_eq ho h (.refl _)
theorem Sorted.app {l m : List α} (hl : Sorted lt l) (hm : Sorted lt m) (h : ∀ x ∈ l, ∀ y ∈ m, lt y x = false) : Sorted lt (l ++ m) := List.pairwise_append.2 ⟨hl, hm, h⟩
theorem Sorted.left {l m : List α} (h : Sorted lt (l ++ m)) : Sorted lt l := (List.pairwise_append.1 h).1
theorem Sorted.right {l m : List α} (h : Sorted lt (l ++ m)) : Sorted lt m := (List.pairwise_append.1 h).2.1
theorem Sorted.cross {l m : List α} (h : Sorted lt (l ++ m)) : ∀ x ∈ l, ∀ y ∈ m, lt y x = false := (List.pairwise_append.1 h).2.2
/-- Insertion: what stands behind is all greater, what stands ahead is not. -/
theorem insert_eq (ho : Ord lt) {A B l : List α} {x : α} (hS : A ++ B = sortS lt l) (hB : ∀ y ∈ B, lt x y = true) (hA : ∀ y ∈ A, lt x y = false) : A ++ x :: B = sortS lt (l ++ [x]) := by
  refine (sortS_eq ho ?_ ?_).symm
  · have hs := sortS_sorted ho l
    rw [← hS] at hs
    refine Sorted.app hs.left (List.pairwise_cons.2 ⟨fun y hy => ho.asym _ _ (hB y hy), hs.right⟩) ?_
    intro y hy z hz
    rcases List.mem_cons.1 hz with rfl | hz
    · exact hA y hy
    · exact hs.cross y hy z hz
  · have h1 : StEq lt (x :: B) (B ++ [x]) := (StEq.swap ho (u := B) (v := [x]) (by simpa using hB)).symm
    have h2 : StEq lt (A ++ x :: B) ((A ++ B) ++ [x]) := by rw [List.append_assoc]; exact StEq.app (.refl A) h1
    refine h2.trans (StEq.app ?_ (.refl _))
    rw [hS]
    exact sortS_steq ho l
/-! ### Merging -/
theorem sym_ok (ho : Ord lt) {A U V B : List α} (h1 : Sorted lt (A ++ U)) (h2 : Sorted lt (V ++ B)) (h3 : ∀ u ∈ U, ∀ v ∈ V, lt v u = true) (h4 : ∀ x ∈ A, ∀ y ∈ B, lt y x = false) :
    sortS lt (A ++ V) ++ sortS lt (U ++ B) = sortS lt ((A ++ U) ++ (V ++ B)) := by
  refine (sortS_eq ho ?_ ?_).symm
  · refine Sorted.app (sortS_sorted ho _) (sortS_sorted ho _) fun x hx y hy => ?_
    rw [sortS_mem ho, List.mem_append] at hx hy
    rcases hx with hx | hx <;> rcases hy with hy | hy
    · exact h1.cross x hx y hy
    · exact h4 x hx y hy
    · exact ho.asym _ _ (h3 y hy x hx)
    · exact h2.cross x hx y hy
  · refine (StEq.app (sortS_steq ho _) (sortS_steq ho _)).trans ?_
    have := StEq.app (StEq.app (.refl A) (StEq.swap ho h3).symm) (.refl B)
    simpa [List.append_assoc] using this
theorem Sorted.get (h : Sorted lt l) {i j : Nat} (hi : i < j) {x y : α} (hx : l[i]? = some x) (hy : l[j]? = some y) : lt y x = false := by
  obtain ⟨h1, rfl⟩ := List.getElem?_eq_some_iff.1 hx
  obtain ⟨h2, rfl⟩ := List.getElem?_eq_some_iff.1 hy
  exact List.pairwise_iff_getElem.1 h i j h1 h2 hi
theorem Sorted.get_le (ho : Ord lt) (h : Sorted lt l) {i j : Nat} (hi : i ≤ j) {x y : α} (hx : l[i]? = some x) (hy : l[j]? = some y) : lt y x = false := by
  rcases Nat.lt_or_ge i j with h1 | h1
  · exact h.get h1 hx hy
  · obtain rfl : i = j := by omega
    rw [hx] at hy; cases hy
    exact ho.irr _
/-- Two sorted lists, cut where the search ended. -/
theorem merge_cut (ho : Ord lt) {X Y : List α} (hX : Sorted lt X) (hY : Sorted lt Y) {s e : Nat} (hs : s ≤ X.length) (he : e ≤ Y.length)
    (hu : s = X.length ∨ e = 0 ∨ ∃ x y, X[s]? = some x ∧ Y[e - 1]? = some y ∧ lt y x = true) (hl : s = 0 ∨ e = Y.length ∨ ∃ x y, X[s - 1]? = some x ∧ Y[e]? = some y ∧ lt y x = false) :
    sortS lt (X.take s ++ Y.take e) ++ sortS lt (X.drop s ++ Y.drop e) = sortS lt (X ++ Y) := by
  have key := sym_ok ho (A := X.take s) (U := X.drop s) (V := Y.take e) (B := Y.drop e) (by rw [List.take_append_drop]; exact hX) (by rw [List.take_append_drop]; exact hY) ?_ ?_
  · rwa [List.take_append_drop, List.take_append_drop] at key
  · intro u hu' v hv'
    obtain ⟨i, hi⟩ := List.getElem?_of_mem hu'
    obtain ⟨j, hj⟩ := List.getElem?_of_mem hv'
    rw [List.getElem?_drop] at hi
    have hj' := (List.getElem?_eq_some_iff.1 hj).1
    simp only [List.length_take] at hj'
    rw [List.getElem?_take, if_pos (by omega)] at hj
    have hi' := (List.getElem?_eq_some_iff.1 hi).1
    rcases hu with h | h | ⟨x, y, hx, hy, h⟩
    · omega
    · omega
    · have h5 := hX.get_le ho (show s ≤ s + i by omega) hx hi
      have h6 := hY.get_le ho (show j ≤ e - 1 by omega) hj hy
      exact ho.lt_le (ho.le_lt h6 h) h5
  · intro x hx' y hy'
    obtain ⟨i, hi⟩ := List.getElem?_of_mem hx'
    obtain ⟨j, hj⟩ := List.getElem?_of_mem hy'
    rw [List.getElem?_drop] at hj
    have hi' := (List.getElem?_eq_some_iff.1 hi).1
    simp only [List.length_take] at hi'
    rw [List.getElem?_take, if_pos (by omega)] at hi
    have hj' := (List.getElem?_eq_some_iff.1 hj).1
    rcases hl with h | h | ⟨x0, y0, hx, hy, h⟩
    · omega
    · omega
    · have h5 := hX.get_le ho (show i ≤ s - 1 by omega) hi hx
      have h6 := hY.get_le ho (show e ≤ e + j by omega) hy hj
      exact ho.le_trans h5 (ho.le_trans h h6)
/-- One element into a sorted list, at the first place that is not ahead of it. -/
theorem merge_one (ho : Ord lt) {x : α} {Y : List α} (hY : Sorted lt Y) {e : Nat} (he : e ≤ Y.length) (hu : e = 0 ∨ ∃ y, Y[e - 1]? = some y ∧ lt y x = true) (hl : e = Y.length ∨ ∃ y, Y[e]? = some y ∧ lt y x = false) :
    Y.take e ++ x :: Y.drop e = sortS lt (x :: Y) := by
  have key := merge_cut ho (X := [x]) (s := 0) (by simp [Sorted]) hY (by simp) he (by rcases hu with h | ⟨y, h1, h2⟩; exact .inr (.inl h); exact .inr (.inr ⟨x, y, rfl, h1, h2⟩)) (.inl rfl)
  have h1 : Sorted lt (Y.take e) := by have := hY; rw [← List.take_append_drop e Y] at this; exact this.left
  have h2 : Sorted lt (x :: Y.drop e) := by
    have h3 : Sorted lt (Y.drop e) := by have := hY; rw [← List.take_append_drop e Y] at this; exact this.right
    refine List.pairwise_cons.2 ⟨fun y hy => ?_, h3⟩
    obtain ⟨j, hj⟩ := List.getElem?_of_mem hy
    rw [List.getElem?_drop] at hj
    rcases hl with h | ⟨y0, hy0, h⟩
    · have := (List.getElem?_eq_some_iff.1 hj).1; omega
    · exact ho.le_trans h (hY.get_le ho (Nat.le_add_right _ _) hy0 hj)
  simp only [List.take_zero, List.nil_append, List.drop_zero, List.singleton_append] at key
  rw [sortS_self ho h1, sortS_self ho h2] at key
  exact key
/-- The last element into a sorted list, at the first place that it is ahead of. -/
theorem merge_last (ho : Ord lt) {x : α} {X : List α} (hX : Sorted lt X) {s : Nat} (hs : s ≤ X.length) (hu : s = X.length ∨ ∃ y, X[s]? = some y ∧ lt x y = true) (hl : s = 0 ∨ ∃ y, X[s - 1]? = some y ∧ lt x y = false) :
    X.take s ++ x :: X.drop s = sortS lt (X ++ [x]) := by
  refine insert_eq ho (by rw [List.take_append_drop, sortS_self ho hX]) (fun y hy => ?_) fun y hy => ?_
  · obtain ⟨j, hj⟩ := List.getElem?_of_mem hy
    rw [List.getElem?_drop] at hj
    rcases hu with h | ⟨y0, h1, h2⟩
    · have := (List.getElem?_eq_some_iff.1 hj).1; omega
    · exact ho.lt_le h2 (hX.get_le ho (Nat.le_add_right _ _) h1 hj)
  · obtain ⟨j, hj⟩ := List.getElem?_of_mem hy
    have hj' := (List.getElem?_eq_some_iff.1 hj).1
    simp only [List.length_take] at hj'
    rw [List.getElem?_take, if_pos (by omega)] at hj
    rcases hl with h | ⟨y0, h1, h2⟩
    · omega
    · exact ho.le_trans (hX.get_le ho (show j ≤ s - 1 by omega) hj h1) h2
/-! ### All blocks sorted -/
def Blocks (lt : α → α → Bool) (s : Nat) (l : List α) : Prop := ∀ k, Sorted lt ((l.drop (k * s)).take s)
theorem Blocks.all {s : Nat} {l : List α} (h : Blocks lt s l) (hs : l.length ≤ s) : Sorted lt l := by
  have := h 0
  rwa [Nat.zero_mul, List.drop_zero, List.take_of_length_le hs] at this
end St
end Go.Proofs.Ytfmmemboakdeiaa
namespace Go.Proofs.Ytfmmemboakdeiaa
open Go.Proofs.YtfmmemboakdeiaaAw Go.RowKit
set_option linter.unusedVariables false
set_option linter.unusedSimpArgs false
structure Tri {α : Type} (c : α → α → Int) : Prop where
  anti : ∀ x y, c x y < 0 ↔ 0 < c y x
  ntrans : ∀ x y z, c x z < 0 → c x y < 0 ∨ c y z < 0
def ltT {α : Type} (c : α → α → Int) (x y : α) : Bool := decide (c x y < 0)
theorem Tri.ord {α : Type} {c : α → α → Int} (h : Tri c) : St.Ord (ltT c) where
  asym x y hx := by
    simp only [ltT, decide_eq_true_eq, decide_eq_false_iff_not] at hx ⊢
    have := (h.anti x y).1 hx
    omega
  ntrans x y z hx := by
    simp only [ltT, decide_eq_true_eq] at hx ⊢
    exact h.ntrans x y z hx
theorem Tri.zero {α : Type} {c : α → α → Int} (h : Tri c) (x y : α) : c x y = 0 ↔ c y x = 0 := by
  have h1 := h.anti x y
  have h2 := h.anti y x
  omega
theorem Tri.self {α : Type} {c : α → α → Int} (h : Tri c) (x : α) : c x x = 0 := by
  have h1 := h.anti x x
  omega
theorem Tri.le_trans {α : Type} {c : α → α → Int} (h : Tri c) {x y z : α} (h1 : c x y ≤ 0) (h2 : c y z ≤ 0) : c x z ≤ 0 := by
  have a1 := h.anti y x
  have a2 := h.anti z y
  have a3 := h.anti z x
  have := h.ntrans z y x
  omega
theorem Tri.zero_trans {α : Type} {c : α → α → Int} (h : Tri c) {x y z : α} (h1 : c x y = 0) (h2 : c y z = 0) : c x z = 0 := by
  have a1 := h.le_trans (x := x) (y := y) (z := z) (by omega) (by omega)
  have a2 := h.le_trans (x := z) (y := y) (z := x) (by have := (h.zero y z).1 h2; omega) (by have := (h.zero x y).1 h1; omega)
  have a3 := h.anti x z
  have a4 := h.anti z x
  omega
/-- First by the one, then, where it tells nothing, by the other. -/
theorem Tri.lex {α : Type} {c d e : α → α → Int} (h : Tri c) (h1 : ∀ x y, c x y ≠ 0 → e x y = c x y) (h2 : ∀ x y, c x y = 0 → e x y = d x y) (da : ∀ x y, c x y = 0 → (d x y < 0 ↔ 0 < d y x)) (dn : ∀ x y z, c x y = 0 → c y z = 0 → d x z < 0 → d x y < 0 ∨ d y z < 0) : Tri e where
  anti x y := by
    by_cases hc : c x y = 0
    · rw [h2 x y hc, h2 y x ((h.zero x y).1 hc)]
      exact da x y hc
    · rw [h1 x y hc, h1 y x fun h0 => hc ((h.zero x y).2 h0)]
      exact h.anti x y
  ntrans x y z hx := by
    by_cases hxy : c x y = 0
    · by_cases hyz : c y z = 0
      · have hxz := h.zero_trans hxy hyz
        rw [h2 x z hxz] at hx
        rw [h2 x y hxy, h2 y z hyz]
        exact dn x y z hxy hyz hx
      · have hxz : c x z ≠ 0 := fun h0 => hyz (h.zero_trans ((h.zero x y).1 hxy) h0)
        rw [h1 x z hxz] at hx
        rw [h1 y z hyz]
        rcases h.ntrans x y z hx with h3 | h3
        · omega
        · exact .inr h3
    · by_cases hyz : c y z = 0
      · have hxz : c x z ≠ 0 := fun h0 => hxy (h.zero_trans h0 ((h.zero y z).1 hyz))
        rw [h1 x z hxz] at hx
        rw [h1 x y hxy]
        rcases h.ntrans x y z hx with h3 | h3
        · exact .inl h3
        · omega
      · rw [h1 x y hxy, h1 y z hyz]
        by_cases hxz : c x z = 0
        · have a1 := h.anti x y
          have a2 := h.anti y x
          have a3 := h.anti y z
          have a4 := h.anti z y
          have n1 := h.ntrans y x z
          have n2 := h.ntrans y z x
          have n3 := h.ntrans z x y
          have z1 := (h.zero x z).1 hxz
          omega
        · rw [h1 x z hxz] at hx
          exact h.ntrans x y z hx
theorem ordI_tri {α : Type} {lt : α → α → Bool} {c : α → α → Int} (ho : St.Ord lt) (h1 : ∀ x y, lt x y = true → c x y < 0) (h2 : ∀ x y, lt x y = false → lt y x = true → 0 < c x y) (h3 : ∀ x y, lt x y = false → lt y x = false → c x y = 0) : Tri c where
  anti x y := by
    cases hx : lt x y with
    | true => have := h1 x y hx; have := h2 y x (ho.asym x y hx) hx; omega
    | false =>
      cases hy : lt y x with
      | true => have := h1 y x hy; have := h2 x y hx hy; omega
      | false => have := h3 x y hx hy; have := h3 y x hy hx; omega
  ntrans x y z hx := by
    have hl : lt x z = true := by
      cases e : lt x z with
      | true => rfl
      | false =>
        cases e2 : lt z x with
        | true => have := h2 x z e e2; omega
        | false => have := h3 x z e e2; omega
    rcases ho.ntrans x y z hl with h | h
    · exact .inl (h1 x y h)
    · exact .inr (h1 y z h)
theorem cmpI_tri : Tri cmpI where
  anti x y := by
    unfold cmpI ordI
    by_cases h1 : x < y <;> by_cases h2 : y < x <;> simp [h1, h2] <;> omega
  ntrans x y z := by
    unfold cmpI ordI
    by_cases h1 : x < y <;> by_cases h2 : y < x <;> by_cases h3 : y < z <;> by_cases h4 : z < y <;> by_cases h5 : x < z <;> by_cases h6 : z < x <;> simp [h1, h2, h3, h4, h5, h6] <;> omega
theorem cmpI_zero {a b : Int} : cmpI a b = 0 ↔ a = b := by
  unfold cmpI ordI
  by_cases h1 : a < b <;> by_cases h2 : b < a <;> simp [h1, h2] <;> omega
theorem cmpI_neg {a b : Int} : cmpI a b < 0 ↔ a < b := by
  unfold cmpI ordI
  by_cases h1 : a < b <;> by_cases h2 : b < a <;> simp [h1, h2] <;> omega
theorem cmpF_eq (a b : Nat) : cmpF a b = cmpI (keyN a) (keyN b) := by
  unfold cmpF cmpI ordI
  simp [Int.ofNat_lt]
theorem bytesLess_irr : ∀ l : List UInt8, Op.bytesLess l l = false
  | [] => rfl
  | a :: l => by simp [Op.bytesLess, bytesLess_irr l]
theorem bytesLess_asym : ∀ l m : List UInt8, Op.bytesLess l m = true → Op.bytesLess m l = false
  | _, [], h => by simp [Op.bytesLess] at h
  | [], _ :: _, _ => rfl
  | a :: l, b :: m, h => by
    simp only [Op.bytesLess, Bool.or_eq_true, decide_eq_true_eq, Bool.and_eq_true, beq_iff_eq] at h
    simp only [Op.bytesLess, Bool.or_eq_false_iff, decide_eq_false_iff_not, Bool.and_eq_false_iff, beq_eq_false_iff_ne]
    rcases h with h | ⟨rfl, h⟩
    · exact ⟨fun h2 => UInt8.lt_asymm h h2, .inl fun e => by subst e; exact UInt8.lt_irrefl _ h⟩
    · exact ⟨UInt8.lt_irrefl _, .inr (bytesLess_asym l m h)⟩
theorem bytesLess_tri : ∀ l m : List UInt8, Op.bytesLess l m = false → Op.bytesLess m l = false → l = m
  | [], [], _, _ => rfl
  | [], _ :: _, h, _ => by simp [Op.bytesLess] at h
  | _ :: _, [], _, h => by simp [Op.bytesLess] at h
  | a :: l, b :: m, h1, h2 => by
    simp only [Op.bytesLess, Bool.or_eq_false_iff, decide_eq_false_iff_not, Bool.and_eq_false_iff, beq_eq_false_iff_ne] at h1 h2
    have e : a = b := UInt8.le_antisymm (UInt8.not_lt.1 h2.1) (UInt8.not_lt.1 h1.1)
    subst e
    rcases h1.2 with h | h
    · exact absurd rfl h
    · rcases h2.2 with g | g
      · exact absurd rfl g
      · rw [bytesLess_tri l m h g]
theorem bytesLess_trans : ∀ l m n : List UInt8, Op.bytesLess l m = true → Op.bytesLess m n = true → Op.bytesLess l n = true
  | _, _, [], _, h => by simp [Op.bytesLess] at h
  | [], _, _ :: _, _, _ => rfl
  | _ :: _, [], _ :: _, h, _ => by simp [Op.bytesLess] at h
  | a :: l, b :: m, c :: n, h1, h2 => by
    simp only [Op.bytesLess, Bool.or_eq_true, decide_eq_true_eq, Bool.and_eq_true, beq_iff_eq] at h1 h2 ⊢
    rcases h1 with h1 | ⟨rfl, h1⟩
    · rcases h2 with h2 | ⟨rfl, h2⟩
      · exact .inl (UInt8.lt_trans h1 h2)
      · exact .inl h1
    · rcases h2 with h2 | ⟨rfl, h2⟩
      · exact .inl h2
      · exact .inr ⟨rfl, bytesLess_trans l m n h1 h2⟩
theorem lessS_ord : St.Ord lessS where
  asym x y h := bytesLess_asym _ _ h
  ntrans x y z h := by
    unfold lessS at *
    cases h1 : Op.bytesLess x.toList y.toList with
    | true => exact .inl rfl
    | false =>
      right
      cases h2 : Op.bytesLess y.toList x.toList with
      | true => exact bytesLess_trans _ _ _ h2 h
      | false => rw [← bytesLess_tri _ _ h1 h2]; exact h
theorem cmpS_tri : Tri cmpS := by
  refine ordI_tri lessS_ord (fun x y h => ?_) (fun x y h g => ?_) fun x y h g => ?_
  · unfold cmpS ordI; simp [h]
  · unfold cmpS ordI
    have : (x.toList == y.toList) = false := by
      rw [beq_eq_false_iff_ne]
      intro e
      unfold lessS at g
      rw [e, bytesLess_irr] at g; cases g
    simp [h, this]
  · unfold cmpS ordI
    have e := bytesLess_tri _ _ h g
    simp [h, e]
theorem cmpS_zero {a b : ByteArray} : cmpS a b = 0 ↔ a = b := by
  unfold cmpS ordI
  constructor
  · intro h
    cases h1 : lessS a b with
    | true => simp [h1] at h
    | false =>
      simp only [h1, Bool.false_eq_true, if_false, Bool.false_or] at h
      cases h2 : a.toList == b.toList with
      | false => simp [h2] at h
      | true => exact toList_inj (by simpa using h2)
  · rintro rfl
    have : lessS a a = false := bytesLess_irr _
    simp [this]
def keyV (v : Val) : Int := keyN (toU v.i)
theorem Tri.comap {α β : Type} {c : α → α → Int} (h : Tri c) (f : β → α) : Tri (fun x y => c (f x) (f y)) := ⟨fun x y => h.anti _ _, fun x y z => h.ntrans _ _ _⟩
/-- What is asked of two values of one kind. -/
def cmpK (k : Int) (a b : Val) : Int := if k = 1 then cmpI a.i b.i else if k = 2 then cmpI (keyV a) (keyV b) else if k = 3 then cmpS a.s b.s else 0
theorem cmpV_eq (a b : Val) : cmpV a b = if cmpI a.kind b.kind ≠ 0 then cmpI a.kind b.kind else cmpK a.kind a b := by
  unfold cmpV cmpK
  simp only [cmpF_eq, ← show ∀ v : Val, keyV v = keyN (toU v.i) from fun _ => rfl]
  by_cases h : a.kind = b.kind
  · simp [h, cmpI_zero]
  · simp [h, cmpI_zero]
theorem zero_tri {α : Type} : Tri (fun _ _ : α => (0 : Int)) := ⟨fun _ _ => by simp, fun _ _ _ h => by simp at h⟩
theorem cmpK_tri (k : Int) : Tri (cmpK k) := by
  by_cases k1 : k = 1
  · have : cmpK k = fun a b => cmpI a.i b.i := by funext a b; unfold cmpK; rw [if_pos k1]
    rw [this]; exact cmpI_tri.comap Val.i
  · by_cases k2 : k = 2
    · have : cmpK k = fun a b => cmpI (keyV a) (keyV b) := by funext a b; unfold cmpK; rw [if_neg k1, if_pos k2]
      rw [this]; exact cmpI_tri.comap keyV
    · by_cases k3 : k = 3
      · have : cmpK k = fun a b => cmpS a.s b.s := by funext a b; unfold cmpK; rw [if_neg k1, if_neg k2, if_pos k3]
        rw [this]; exact cmpS_tri.comap Val.s
      · have : cmpK k = fun a b => 0 := by funext a b; unfold cmpK; rw [if_neg k1, if_neg k2, if_neg k3]
        rw [this]; exact zero_tri
theorem cmpV_tri : Tri cmpV := by
  refine Tri.lex (c := fun a b => cmpI a.kind b.kind) (d := fun a b => cmpK a.kind a b) (cmpI_tri.comap Val.kind) (fun x y h => by rw [cmpV_eq, if_pos h]) (fun x y h => by rw [cmpV_eq, if_neg (by simpa using h)]) (fun x y h => ?_) fun x y z h1 h2 => ?_
  · have h := cmpI_zero.1 h
    rw [h]
    exact (cmpK_tri _).anti x y
  · have h1 := cmpI_zero.1 h1
    rw [h1]
    exact (cmpK_tri _).ntrans x y z
end Go.Proofs.Ytfmmemboakdeiaa
namespace Go.Proofs.Ytfmmemboakdeiaa
set_option linter.unusedVariables false
namespace St
variable {α : Type} {eq : α → α → Bool}
def cgo (eq : α → α → Bool) : α → List α → List α
  | _, [] => []
  | p, y :: t => if eq y p = true then cgo eq y t else y :: cgo eq y t
def compactP (eq : α → α → Bool) : List α → List α
  | [] => []
  | x :: t => x :: cgo eq x t
theorem cgo_snoc : ∀ (p : α) (t : List α) (x : α), cgo eq p (t ++ [x]) = cgo eq p t ++ (if eq x ((p :: t).getLast (by simp)) = true then [] else [x])
  | p, [], x => by cases h : eq x p <;> simp [cgo, h]
  | p, y :: t, x => by
    simp only [List.cons_append, cgo, cgo_snoc y t x]
    have e : (p :: y :: t).getLast (by simp) = (y :: t).getLast (by simp) := List.getLast_cons (by simp)
    rw [e]
    by_cases h : eq y p = true
    · simp [h]
    · simp [h]
theorem compactP_snoc {M : List α} {x y : α} {k : Nat} (hk : M.length = k + 1) (hy : M[k]? = some y) : compactP eq (M ++ [x]) = compactP eq M ++ (if eq x y = true then [] else [x]) := by
  cases M with
  | nil => simp at hk
  | cons p t =>
    simp only [List.cons_append, compactP, cgo_snoc]
    have : (p :: t).getLast (by simp) = y := by
      rw [List.getLast_eq_getElem]
      have h := List.getElem?_eq_some_iff.1 hy
      obtain ⟨h1, h2⟩ := h
      simp only [List.length_cons] at hk
      simp only [List.length_cons, show t.length + 1 - 1 = k by omega]
      exact h2
    rw [this]
theorem cgo_len (p : α) (t : List α) : (cgo eq p t).length ≤ t.length := by
  induction t generalizing p with
  | nil => simp [cgo]
  | cons y t ih => unfold cgo; split <;> simp; exact Nat.le_succ_of_le (ih y); exact ih y
theorem compactP_len (l : List α) : (compactP eq l).length ≤ l.length := by
  cases l with
  | nil => simp [compactP]
  | cons x t => simpa [compactP] using cgo_len x t
end St
end Go.Proofs.Ytfmmemboakdeiaa
namespace Go.Proofs.Ytfmmemboakdeiaa
open Go.Proofs.YtfmmemboakdeiaaAw Go.RowKit
set_option linter.unusedVariables false
set_option linter.unusedSimpArgs false
theorem cgo_mem {α : Type} {eq : α → α → Bool} : ∀ {t : List α} {p x : α}, x ∈ St.cgo eq p t → x ∈ t
  | [], _, _, h => by simp [St.cgo] at h
  | y :: t, p, x, h => by
    unfold St.cgo at h
    split at h
    · exact List.mem_cons_of_mem _ (cgo_mem h)
    · rcases List.mem_cons.1 h with rfl | h
      · exact List.mem_cons_self ..
      · exact List.mem_cons_of_mem _ (cgo_mem h)
theorem compactP_mem {α : Type} {eq : α → α → Bool} {l : List α} {x : α} (h : x ∈ St.compactP eq l) : x ∈ l := by
  cases l with
  | nil => simp [St.compactP] at h
  | cons y t =>
    rcases List.mem_cons.1 h with rfl | h
    · exact List.mem_cons_self ..
    · exact List.mem_cons_of_mem _ (cgo_mem h)
theorem cgo_sorted {α : Type} {c : α → α → Int} (ht : Tri c) : ∀ {t : List α} {p : α}, St.Sorted (ltT c) (p :: t) → (p :: St.cgo (fun a b => decide (c a b = 0)) p t).Pairwise (fun x y => ltT c x y = true) ∧ ∀ x ∈ t, ∃ y ∈ p :: St.cgo (fun a b => decide (c a b = 0)) p t, c x y = 0
  | [], p, _ => by simp [St.cgo]
  | y :: t, p, h => by
    have h1 := List.pairwise_cons.1 h
    have h2 := List.pairwise_cons.1 h1.2
    have hp : ltT c y p = false := h1.1 y (by simp)
    unfold St.cgo
    by_cases he : c y p = 0
    · rw [if_pos (by simpa using he)]
      have hs : St.Sorted (ltT c) (p :: t) := List.pairwise_cons.2 ⟨fun z hz => h1.1 z (by simp [hz]), h2.2⟩
      -- the neighbour's own walk goes on from y: alike to p
      have key : ∀ (t : List α) (y p : α), c y p = 0 → St.cgo (fun a b => decide (c a b = 0)) y t = St.cgo (fun a b => decide (c a b = 0)) p t := by
        intro t
        cases t with
        | nil => intros; rfl
        | cons z t =>
          intro y p h
          unfold St.cgo
          have : decide (c z y = 0) = decide (c z p = 0) := by
            rw [Bool.eq_iff_iff, decide_eq_true_eq, decide_eq_true_eq]
            exact ⟨fun g => ht.zero_trans g h, fun g => ht.zero_trans g ((ht.zero y p).1 h)⟩
          rw [this]
      rw [key t y p he]
      obtain ⟨i1, i2⟩ := cgo_sorted ht hs
      refine ⟨i1, fun x hx => ?_⟩
      rcases List.mem_cons.1 hx with rfl | hx
      · exact ⟨p, by simp, he⟩
      · exact i2 x hx
    · rw [if_neg (by simpa using he)]
      obtain ⟨i1, i2⟩ := cgo_sorted ht h1.2
      have hlt : ltT c p y = true := by
        simp only [ltT, decide_eq_true_eq, decide_eq_false_iff_not] at hp ⊢
        have := ht.anti p y
        omega
      refine ⟨List.pairwise_cons.2 ⟨fun z hz => ?_, i1⟩, fun x hx => ?_⟩
      · rcases List.mem_cons.1 hz with rfl | hz
        · exact hlt
        · exact ht.ord.trans hlt ((List.pairwise_cons.1 i1).1 z hz)
      · rcases List.mem_cons.1 hx with rfl | hx
        · exact ⟨x, by simp, ht.self x⟩
        · obtain ⟨z, hz, hc⟩ := i2 x hx
          exact ⟨z, List.mem_cons_of_mem _ hz, hc⟩
theorem compact_sorted {α : Type} {c : α → α → Int} (ht : Tri c) {l : List α} (h : St.Sorted (ltT c) l) : (St.compactP (fun a b => decide (c a b = 0)) l).Pairwise (fun x y => ltT c x y = true) ∧ ∀ x ∈ l, ∃ y ∈ St.compactP (fun a b => decide (c a b = 0)) l, c x y = 0 := by
  cases l with
  | nil => simp [St.compactP]
  | cons p t =>
    obtain ⟨h1, h2⟩ := cgo_sorted ht h
    refine ⟨h1, fun x hx => ?_⟩
    rcases List.mem_cons.1 hx with rfl | hx
    · exact ⟨x, by simp [St.compactP], ht.self x⟩
    · exact h2 x hx
theorem compact_rise {α : Type} {c : α → α → Int} (ht : Tri c) : ∀ {l : List α}, l.Pairwise (fun x y => ltT c x y = true) → St.compactP (fun a b => decide (c a b = 0)) l = l := by
  intro l h
  cases l with
  | nil => rfl
  | cons p t =>
    simp only [St.compactP]
    congr 1
    induction t generalizing p with
    | nil => rfl
    | cons y t ih =>
      have h1 := List.pairwise_cons.1 h
      unfold St.cgo
      have : ¬ c y p = 0 := fun e => by
        have h3 := h1.1 y (by simp)
        simp only [ltT, decide_eq_true_eq] at h3
        have := (ht.zero y p).1 e
        omega
      rw [if_neg (by simpa using this)]
      congr 1
      exact ih y h1.2
theorem rise_sorted {α : Type} {c : α → α → Int} (ht : Tri c) {l : List α} (h : l.Pairwise (fun x y => ltT c x y = true)) : St.Sorted (ltT c) l := h.imp fun {x y} hx => ht.ord.asym x y hx
/-- Words: what is sorted, each once. -/
def wordsP {α : Type} (c : α → α → Int) (l : List α) : List α := St.compactP (fun a b => decide (c a b = 0)) (St.sortS (ltT c) l)
theorem words_rise {α : Type} {c : α → α → Int} (ht : Tri c) (l : List α) : (wordsP c l).Pairwise (fun x y => ltT c x y = true) := (compact_sorted ht (St.sortS_sorted ht.ord l)).1
theorem words_mem {α : Type} {c : α → α → Int} (ht : Tri c) {l : List α} {x : α} (h : x ∈ wordsP c l) : x ∈ l := (St.sortS_mem ht.ord).1 (compactP_mem h)
theorem words_has {α : Type} {c : α → α → Int} (ht : Tri c) {l : List α} {x : α} (h : x ∈ l) : ∃ y ∈ wordsP c l, c x y = 0 := (compact_sorted ht (St.sortS_sorted ht.ord l)).2 x ((St.sortS_mem ht.ord).2 h)
theorem words_idem {α : Type} {c : α → α → Int} (ht : Tri c) (l : List α) : wordsP c (wordsP c l) = wordsP c l := by
  have h := words_rise ht l
  generalize wordsP c l = m at h
  unfold wordsP
  rw [St.sortS_self ht.ord (rise_sorted ht h), compact_rise ht h]
end Go.Proofs.Ytfmmemboakdeiaa
namespace Go.Proofs.Ytfmmemboakdeiaa
open Go.Proofs.YtfmmemboakdeiaaAw Go.RowKit
set_option linter.unusedVariables false
def us (l : List Nat) : List (List D) := l.map fun (n : Nat) => [.v (.int .u64 (n : Int))]
def bys (l : List Nat) : List (List D) := l.map fun (n : Nat) => [.v (.int .u8 (n : Int))]
theorem us_len (l : List Nat) : (us l).length = l.length := by simp [us]
theorem bys_len (l : List Nat) : (bys l).length = l.length := by simp [bys]
theorem us_nil : us [] = [] := rfl
theorem bys_nil : bys [] = [] := rfl
theorem us_get (l : List Nat) (k : Nat) (h : k < l.length) : (us l)[k]? = some [.v (.int .u64 (l[k] : Int))] := by simp [us, h]
theorem bys_get (l : List Nat) (k : Nat) (h : k < l.length) : (bys l)[k]? = some [.v (.int .u8 (l[k] : Int))] := by simp [bys, h]
theorem us_snoc (l : List Nat) (n : Nat) : us l ++ [[.v (.int .u64 (n : Int))]] = us (l ++ [n]) := by simp [us]
theorem bys_snoc (l : List Nat) (n : Nat) : bys l ++ [[.v (.int .u8 (n : Int))]] = bys (l ++ [n]) := by simp [bys]
theorem bys_app (l m : List Nat) : bys l ++ bys m = bys (l ++ m) := by simp [bys]
theorem bys_set (l : List Nat) (k n : Nat) : (bys l).set k [.v (.int .u8 (n : Int))] = bys (l.set k n) := by simp [bys, List.map_set]
theorem bys_one (l : List Nat) : (∀ c ∈ bys l, c.length = 1) = True := eq_true fun c hc => by obtain ⟨x, _, rfl⟩ := List.mem_map.1 hc; rfl
theorem us_one (l : List Nat) : (∀ c ∈ us l, c.length = 1) = True := eq_true fun c hc => by obtain ⟨x, _, rfl⟩ := List.mem_map.1 hc; rfl
end Go.Proofs.Ytfmmemboakdeiaa
namespace Go.Proofs.Ytfmmemboakdeiaa
open Go.Proofs.YtfmmemboakdeiaaAw Go.RowKit
set_option linter.unusedVariables false
set_option linter.unusedSimpArgs false
def idxP {α : Type} (p : α → Bool) (l : List α) : Int := if l.any p then (l.findIdx p : Nat) else -1
theorem idxP_hit {α : Type} {p : α → Bool} {l : List α} {k : Nat} (h : ∀ i (hi : i < k) (hl : i < l.length), p l[i] = false) (hk : k < l.length) (hp : p l[k] = true) : idxP p l = k := by
  unfold idxP
  rw [if_pos (List.any_eq_true.2 ⟨l[k], List.getElem_mem hk, hp⟩)]
  congr 1
  exact (List.findIdx_eq hk).2 ⟨hp, fun j hj => h j hj (by omega)⟩
theorem any_none {α : Type} {p : α → Bool} {l : List α} (h : ∀ i (hi : i < l.length), p l[i] = false) : l.any p = false := by
  rw [List.any_eq_false]
  intro x hx
  obtain ⟨i, hi, rfl⟩ := List.mem_iff_getElem.1 hx
  simp [h i hi]
theorem any_hit {α : Type} {p : α → Bool} {l : List α} {k : Nat} (hk : k < l.length) (h : p l[k] = true) : l.any p = true := List.any_eq_true.2 ⟨l[k], List.getElem_mem hk, h⟩
theorem idxP_none {α : Type} {p : α → Bool} {l : List α} (h : ∀ i (hi : i < l.length), p l[i] = false) : idxP p l = -1 := by
  unfold idxP
  rw [any_none h]
  rfl
theorem idxP_pos {α : Type} (p : α → Bool) (l : List α) : (0 ≤ idxP p l) = (l.any p = true) := by
  unfold idxP
  cases h : l.any p with
  | true => simp
  | false => simp
set_option maxRecDepth 10000 in
set_option maxHeartbeats 1000000 in
theorem indexV_does (l : List Val) (p : Val → Bool) (g : FuncId) (caps : List AV) (n1 : Bool) (H : AHeap) (hl : l.length ≤ 9223372036854775807) (hf : ∀ v ∈ l, Does Try.prog g ([v.av] ++ caps) H (.ok (bA (p v))) H) :
    Does Try.prog 54 [.d (.list n1 (l.map Val.enc)), .fn g caps] H (.ok (iA (idxP p l))) H := by
  refine Does.of_awp (hint := (fun _ => false)) Try.func54 (by kernel_rfl) rfl [4] (by kernel_rfl) (by decide) (by simp [Try.ntmps54]) ?_
  rw [Try.ntmps54]
  simp (implicitDefEqProofs := false) only [↓reduceIte, go_sem, oread, owrite, Nat.reduceAdd, Nat.reduceSub, Nat.reduceMul, Nat.reduceLT, Nat.reduceLeDiff, Nat.reduceEqDiff, Nat.reduceBEq, Int.reduceLE, Int.reduceLT, Int.reduceEq, Int.reduceNe, Int.reduceAdd, Int.reduceSub, Int.reduceMul, Int.reduceNeg, Int.reduceToNat, Int.reduceNatCast, reduceCtorEq, eq_self]
  refine awp_for (fun k s H' => H' = H ∧ (∀ i (hi : i < k) (hl : i < l.length), p l[i] = false) ∧ s 0 = .d (.list n1 (l.map Val.enc)) ∧ s 1 = .fn g caps ∧ s 7 = iA l.length ∧ s 8 = iA k) l.length hl (Weak.refl _ _) ?_ ?_ ?_
  · refine ⟨rfl, fun i hi => by omega, ?_⟩
    simp (implicitDefEqProofs := false) only [↓reduceIte, go_sem, oread, owrite, Nat.reduceAdd, Nat.reduceSub, Nat.reduceMul, Nat.reduceLT, Nat.reduceLeDiff, Nat.reduceEqDiff, Nat.reduceBEq, Int.reduceLE, Int.reduceLT, Int.reduceEq, Int.reduceNe, Int.reduceAdd, Int.reduceSub, Int.reduceMul, Int.reduceNeg, Int.reduceToNat, Int.reduceNatCast, reduceCtorEq, eq_self]
  · rintro k s H' hk hw ⟨rfl, hp, h0, h1, h7, h8⟩
    have hx := List.getElem?_eq_getElem hk
    have hit : p l[k] = true → idxP p l = k := fun h => idxP_hit hp hk h
    have hpp : p l[k] = false → ∀ i (hi : i < k + 1) (hl : i < l.length), p l[i] = false := fun h0 i hi hl' => by
      rcases Nat.lt_or_ge i k with h | h
      · exact hp i h hl'
      · obtain rfl : i = k := by omega
        exact h0
    have hfk := hf l[k] (List.getElem_mem hk)
    generalize l[k] = v at hx hit hpp hfk
    simp (implicitDefEqProofs := false) only [↓reduceIte, go_sem, oread, owrite, Nat.reduceAdd, Nat.reduceSub, Nat.reduceMul, Nat.reduceLT, Nat.reduceLeDiff, Nat.reduceEqDiff, Nat.reduceBEq, Int.reduceLE, Int.reduceLT, Int.reduceEq, Int.reduceNe, Int.reduceAdd, Int.reduceSub, Int.reduceMul, Int.reduceNeg, Int.reduceToNat, Int.reduceNatCast, reduceCtorEq, eq_self, h0, h1, h7, h8, hk, hx, Val.enc]
    refine KCall.ok hfk ?_
    cases hv : p v with
    | true =>
      simp (implicitDefEqProofs := false) only [↓reduceIte, go_sem, oread, owrite, Nat.reduceAdd, Nat.reduceSub, Nat.reduceMul, Nat.reduceLT, Nat.reduceLeDiff, Nat.reduceEqDiff, Nat.reduceBEq, Int.reduceLE, Int.reduceLT, Int.reduceEq, Int.reduceNe, Int.reduceAdd, Int.reduceSub, Int.reduceMul, Int.reduceNeg, Int.reduceToNat, Int.reduceNatCast, reduceCtorEq, eq_self]
      refine AEnd.ret0 ?_
      simp (implicitDefEqProofs := false) only [↓reduceIte, go_sem, oread, owrite, Nat.reduceAdd, Nat.reduceSub, Nat.reduceMul, Nat.reduceLT, Nat.reduceLeDiff, Nat.reduceEqDiff, Nat.reduceBEq, Int.reduceLE, Int.reduceLT, Int.reduceEq, Int.reduceNe, Int.reduceAdd, Int.reduceSub, Int.reduceMul, Int.reduceNeg, Int.reduceToNat, Int.reduceNatCast, reduceCtorEq, eq_self, hit hv]
    | false =>
      simp (implicitDefEqProofs := false) only [↓reduceIte, go_sem, oread, owrite, Nat.reduceAdd, Nat.reduceSub, Nat.reduceMul, Nat.reduceLT, Nat.reduceLeDiff, Nat.reduceEqDiff, Nat.reduceBEq, Int.reduceLE, Int.reduceLT, Int.reduceEq, Int.reduceNe, Int.reduceAdd, Int.reduceSub, Int.reduceMul, Int.reduceNeg, Int.reduceToNat, Int.reduceNatCast, reduceCtorEq, eq_self, h8]
      refine Rnd.same ⟨rfl, hpp hv, ?_⟩
      simp (implicitDefEqProofs := false) only [↓reduceIte, go_sem, oread, owrite, Nat.reduceAdd, Nat.reduceSub, Nat.reduceMul, Nat.reduceLT, Nat.reduceLeDiff, Nat.reduceEqDiff, Nat.reduceBEq, Int.reduceLE, Int.reduceLT, Int.reduceEq, Int.reduceNe, Int.reduceAdd, Int.reduceSub, Int.reduceMul, Int.reduceNeg, Int.reduceToNat, Int.reduceNatCast, reduceCtorEq, eq_self, h0, h1, h7, hw]
  · rintro s H' ⟨rfl, hp, h0, h1, h7, h8⟩
    simp (implicitDefEqProofs := false) only [↓reduceIte, go_sem, oread, owrite, Nat.reduceAdd, Nat.reduceSub, Nat.reduceMul, Nat.reduceLT, Nat.reduceLeDiff, Nat.reduceEqDiff, Nat.reduceBEq, Int.reduceLE, Int.reduceLT, Int.reduceEq, Int.reduceNe, Int.reduceAdd, Int.reduceSub, Int.reduceMul, Int.reduceNeg, Int.reduceToNat, Int.reduceNatCast, reduceCtorEq, eq_self, h7, h8]
    refine AEnd.ret0 ?_
    simp (implicitDefEqProofs := false) only [↓reduceIte, go_sem, oread, owrite, Nat.reduceAdd, Nat.reduceSub, Nat.reduceMul, Nat.reduceLT, Nat.reduceLeDiff, Nat.reduceEqDiff, Nat.reduceBEq, Int.reduceLE, Int.reduceLT, Int.reduceEq, Int.reduceNe, Int.reduceAdd, Int.reduceSub, Int.reduceMul, Int.reduceNeg, Int.reduceToNat, Int.reduceNatCast, reduceCtorEq, eq_self, idxP_none fun i hi => hp i hi hi]
set_option maxRecDepth 10000 in
theorem containsV_does (l : List Val) (p : Val → Bool) (g : FuncId) (caps : List AV) (n1 : Bool) (H : AHeap) (hl : l.length ≤ 9223372036854775807) (hf : ∀ v ∈ l, Does Try.prog g ([v.av] ++ caps) H (.ok (bA (p v))) H) :
    Does Try.prog 35 [.d (.list n1 (l.map Val.enc)), .fn g caps] H (.ok (bA (l.any p))) H := by
  refine Does.of_awp (hint := (fun _ => false)) Try.func35 (by kernel_rfl) rfl [4] (by kernel_rfl) (by decide) (by simp [Try.ntmps35]) ?_
  rw [Try.ntmps35]
  simp (implicitDefEqProofs := false) only [↓reduceIte, go_sem, oread, owrite, Nat.reduceAdd, Nat.reduceSub, Nat.reduceMul, Nat.reduceLT, Nat.reduceLeDiff, Nat.reduceEqDiff, Nat.reduceBEq, Int.reduceLE, Int.reduceLT, Int.reduceEq, Int.reduceNe, Int.reduceAdd, Int.reduceSub, Int.reduceMul, Int.reduceNeg, Int.reduceToNat, Int.reduceNatCast, reduceCtorEq, eq_self]
  refine KCall.ok (indexV_does l p g caps n1 H hl hf) ?_
  simp (implicitDefEqProofs := false) only [↓reduceIte, go_sem, oread, owrite, Nat.reduceAdd, Nat.reduceSub, Nat.reduceMul, Nat.reduceLT, Nat.reduceLeDiff, Nat.reduceEqDiff, Nat.reduceBEq, Int.reduceLE, Int.reduceLT, Int.reduceEq, Int.reduceNe, Int.reduceAdd, Int.reduceSub, Int.reduceMul, Int.reduceNeg, Int.reduceToNat, Int.reduceNatCast, reduceCtorEq, eq_self, idxP_pos]
  refine AEnd.ret0 ?_
  simp (implicitDefEqProofs := false) only [↓reduceIte, go_sem, oread, owrite, Nat.reduceAdd, Nat.reduceSub, Nat.reduceMul, Nat.reduceLT, Nat.reduceLeDiff, Nat.reduceEqDiff, Nat.reduceBEq, Int.reduceLE, Int.reduceLT, Int.reduceEq, Int.reduceNe, Int.reduceAdd, Int.reduceSub, Int.reduceMul, Int.reduceNeg, Int.reduceToNat, Int.reduceNatCast, reduceCtorEq, eq_self, Bool.decide_eq_true]
end Go.Proofs.Ytfmmemboakdeiaa
namespace Go.Proofs.Ytfmmemboakdeiaa
open Go.Proofs.YtfmmemboakdeiaaAw Go.RowKit
set_option linter.unusedVariables false
set_option linter.unusedSimpArgs false
def belowP (words : List Val) (v : Val) : Nat := words.countP fun w => decide (cmpV w v < 0)
theorem belowP_snoc (l : List Val) (x v : Val) : belowP (l ++ [x]) v = if cmpV x v < 0 then belowP l v + 1 else belowP l v := by
  unfold belowP
  rw [List.countP_append]
  by_cases h : cmpV x v < 0 <;> simp [h]
theorem belowP_le (l : List Val) (v : Val) : belowP l v ≤ l.length := List.countP_le_length
set_option maxRecDepth 10000 in
set_option maxHeartbeats 1000000 in
theorem below09_does (words : List Val) (v : Val) (nn : Bool) (H : AHeap) (hl : words.length ≤ 1000000000000) (hs : ∀ k ∈ words, k.s.size ≤ 9223372036854775807) : Does Try.prog 55 [.d (.list nn (words.map Val.enc)), v.av] H (.ok (iA (belowP words v))) H := by
  refine Does.of_awp (hint := (fun _ => false)) Try.func55 (by kernel_rfl) rfl [4] (by kernel_rfl) (by decide) (by simp [Try.ntmps55]) ?_
  rw [Try.ntmps55]
  simp (implicitDefEqProofs := false) only [↓reduceIte, go_sem, oread, owrite, Nat.reduceAdd, Nat.reduceSub, Nat.reduceMul, Nat.reduceLT, Nat.reduceLeDiff, Nat.reduceEqDiff, Nat.reduceBEq, Int.reduceLE, Int.reduceLT, Int.reduceEq, Int.reduceNe, Int.reduceAdd, Int.reduceSub, Int.reduceMul, Int.reduceNeg, Int.reduceToNat, Int.reduceNatCast, reduceCtorEq, eq_self]
  refine awp_for3 (fun k s H' => H' = H ++ [.box 26 3 0 1 [iA v.kind, iA v.i, sA v.s]] ∧ s 0 = .d (.list nn (words.map Val.enc)) ∧ s 3 = .ptr H.length 0 0 0 ∧ s 5 = iA (belowP (words.take k) v) ∧ s 6 = iA k) words.length (by omega) (Weak.refl _ _) ?_ ?_ ?_
  · refine ⟨rfl, ?_⟩
    simp (implicitDefEqProofs := false) only [↓reduceIte, go_sem, oread, owrite, Nat.reduceAdd, Nat.reduceSub, Nat.reduceMul, Nat.reduceLT, Nat.reduceLeDiff, Nat.reduceEqDiff, Nat.reduceBEq, Int.reduceLE, Int.reduceLT, Int.reduceEq, Int.reduceNe, Int.reduceAdd, Int.reduceSub, Int.reduceMul, Int.reduceNeg, Int.reduceToNat, Int.reduceNatCast, reduceCtorEq, eq_self]
    rfl
  · rintro k s H' hk hw ⟨rfl, t0, t3, t5, t6⟩
    have hx := List.getElem?_eq_getElem hk
    have e1 := List.take_succ_eq_append_getElem hk
    have e2 := belowP_snoc (words.take k) words[k] v
    rw [← e1] at e2
    have hb := belowP_le (words.take k) v
    rw [List.length_take] at hb
    have hxs := hs _ (List.getElem_mem hk)
    generalize words[k] = x at hx e2 hxs
    obtain ⟨n, hn⟩ : ∃ n, n = belowP (words.take k) v := ⟨_, rfl⟩
    rw [← hn] at t5 e2 hb
    simp (implicitDefEqProofs := false) only [↓reduceIte, go_sem, oread, owrite, Nat.reduceAdd, Nat.reduceSub, Nat.reduceMul, Nat.reduceLT, Nat.reduceLeDiff, Nat.reduceEqDiff, Nat.reduceBEq, Int.reduceLE, Int.reduceLT, Int.reduceEq, Int.reduceNe, Int.reduceAdd, Int.reduceSub, Int.reduceMul, Int.reduceNeg, Int.reduceToNat, Int.reduceNatCast, reduceCtorEq, eq_self, t0, t6, hk]
    refine awp_draw K.mixed (by kernel_rfl) ?_
    simp (implicitDefEqProofs := false) only [↓reduceIte, go_sem, oread, owrite, Nat.reduceAdd, Nat.reduceSub, Nat.reduceMul, Nat.reduceLT, Nat.reduceLeDiff, Nat.reduceEqDiff, Nat.reduceBEq, Int.reduceLE, Int.reduceLT, Int.reduceEq, Int.reduceNe, Int.reduceAdd, Int.reduceSub, Int.reduceMul, Int.reduceNeg, Int.reduceToNat, Int.reduceNatCast, reduceCtorEq, eq_self, t0, t3, t6, hk, hx, Val.enc]
    refine KCall.ok (vcmp05_does x v hxs _) ?_
    have hw2 : IntKind.i64.wrap ((n : Int) + 1) = (n : Int) + 1 := wrap64_in _ (by omega) (by omega)
    by_cases hc : cmpV x v < 0
    · rw [if_pos hc] at e2
      simp (implicitDefEqProofs := false) only [↓reduceIte, go_sem, oread, owrite, Nat.reduceAdd, Nat.reduceSub, Nat.reduceMul, Nat.reduceLT, Nat.reduceLeDiff, Nat.reduceEqDiff, Nat.reduceBEq, Int.reduceLE, Int.reduceLT, Int.reduceEq, Int.reduceNe, Int.reduceAdd, Int.reduceSub, Int.reduceMul, Int.reduceNeg, Int.reduceToNat, Int.reduceNatCast, reduceCtorEq, eq_self, hc, t5, hw2, t6]
      refine Rnd.same ⟨rfl, ?_⟩
      simp (implicitDefEqProofs := false) only [↓reduceIte, go_sem, oread, owrite, Nat.reduceAdd, Nat.reduceSub, Nat.reduceMul, Nat.reduceLT, Nat.reduceLeDiff, Nat.reduceEqDiff, Nat.reduceBEq, Int.reduceLE, Int.reduceLT, Int.reduceEq, Int.reduceNe, Int.reduceAdd, Int.reduceSub, Int.reduceMul, Int.reduceNeg, Int.reduceToNat, Int.reduceNatCast, reduceCtorEq, eq_self, t0, t3, hw, e2]
    · rw [if_neg hc] at e2
      simp (implicitDefEqProofs := false) only [↓reduceIte, go_sem, oread, owrite, Nat.reduceAdd, Nat.reduceSub, Nat.reduceMul, Nat.reduceLT, Nat.reduceLeDiff, Nat.reduceEqDiff, Nat.reduceBEq, Int.reduceLE, Int.reduceLT, Int.reduceEq, Int.reduceNe, Int.reduceAdd, Int.reduceSub, Int.reduceMul, Int.reduceNeg, Int.reduceToNat, Int.reduceNatCast, reduceCtorEq, eq_self, hc, t6]
      refine Rnd.same ⟨rfl, ?_⟩
      simp (implicitDefEqProofs := false) only [↓reduceIte, go_sem, oread, owrite, Nat.reduceAdd, Nat.reduceSub, Nat.reduceMul, Nat.reduceLT, Nat.reduceLeDiff, Nat.reduceEqDiff, Nat.reduceBEq, Int.reduceLE, Int.reduceLT, Int.reduceEq, Int.reduceNe, Int.reduceAdd, Int.reduceSub, Int.reduceMul, Int.reduceNeg, Int.reduceToNat, Int.reduceNatCast, reduceCtorEq, eq_self, t0, t3, t5, hw, e2]
  · rintro s H' ⟨rfl, t0, t3, t5, t6⟩
    rw [List.take_length] at t5
    simp (implicitDefEqProofs := false) only [↓reduceIte, go_sem, oread, owrite, Nat.reduceAdd, Nat.reduceSub, Nat.reduceMul, Nat.reduceLT, Nat.reduceLeDiff, Nat.reduceEqDiff, Nat.reduceBEq, Int.reduceLE, Int.reduceLT, Int.reduceEq, Int.reduceNe, Int.reduceAdd, Int.reduceSub, Int.reduceMul, Int.reduceNeg, Int.reduceToNat, Int.reduceNatCast, reduceCtorEq, eq_self, t0, t5, t6]
    refine AEnd.ret ?_
    simp (implicitDefEqProofs := false) only [↓reduceIte, go_sem, oread, owrite, Nat.reduceAdd, Nat.reduceSub, Nat.reduceMul, Nat.reduceLT, Nat.reduceLeDiff, Nat.reduceEqDiff, Nat.reduceBEq, Int.reduceLE, Int.reduceLT, Int.reduceEq, Int.reduceNe, Int.reduceAdd, Int.reduceSub, Int.reduceMul, Int.reduceNeg, Int.reduceToNat, Int.reduceNatCast, reduceCtorEq, eq_self]
end Go.Proofs.Ytfmmemboakdeiaa
namespace Go.Proofs.Ytfmmemboakdeiaa
open Go.Proofs.YtfmmemboakdeiaaAw Go.RowKit
set_option linter.unusedVariables false
set_option linter.unusedSimpArgs false
/-- The first one of its class. -/
def Fst {α : Type} (c : α → α → Int) (l : List α) (x : α) : Prop := (l.filter (St.eqv (ltT c) x)).head? = some x
theorem eqv_zero {α : Type} {c : α → α → Int} (ht : Tri c) (x y : α) : St.eqv (ltT c) x y = true ↔ c x y = 0 := by
  rw [St.eqv_iff]
  have h1 := ht.anti x y
  have h2 := ht.anti y x
  simp only [ltT, decide_eq_false_iff_not]
  omega
theorem Fst.mem {α : Type} {c : α → α → Int} {l : List α} {x : α} (h : Fst c l x) : x ∈ l := (List.mem_filter.1 (List.mem_of_mem_head? h)).1
theorem Fst.cons {α : Type} {c : α → α → Int} (ht : Tri c) (p : α) (l : List α) (x : α) : Fst c (p :: l) x ↔ x = p ∨ (c x p ≠ 0 ∧ Fst c l x) := by
  unfold Fst
  by_cases h : c x p = 0
  · rw [List.filter_cons_of_pos ((eqv_zero ht x p).2 h), List.head?_cons]
    constructor
    · intro e; left; exact (Option.some.inj e).symm
    · rintro (e | e)
      · rw [e]
      · exact absurd h e.1
  · rw [List.filter_cons_of_neg (by rw [eqv_zero ht]; exact h)]
    constructor
    · intro e; exact .inr ⟨h, e⟩
    · rintro (e | e)
      · subst e; exact absurd (ht.self x) h
      · exact e.2
theorem cgo_fst {α : Type} {c : α → α → Int} (ht : Tri c) : ∀ (t : List α) (p : α), St.Sorted (ltT c) (p :: t) → ∀ x, x ∈ p :: St.cgo (fun a b => decide (c a b = 0)) p t ↔ Fst c (p :: t) x
  | [], p, _, x => by
    rw [Fst.cons ht]
    simp [St.cgo, Fst]
  | y :: t, p, hs, x => by
    have hs2 : St.Sorted (ltT c) (y :: t) := (List.pairwise_cons.1 hs).2
    have ih := cgo_fst ht t y hs2 x
    have hpy : ltT c y p = false := (List.pairwise_cons.1 hs).1 y (by simp)
    have hr := (cgo_sorted ht hs2).1
    rw [Fst.cons ht, Fst.cons ht] at *
    have hrest : x ∈ St.cgo (fun a b => decide (c a b = 0)) y t → c y x < 0 := fun h => by
      have := (List.pairwise_cons.1 hr).1 x h
      simpa [ltT] using this
    have hpy' : ¬ c y p < 0 := by simpa [ltT] using hpy
    have hanti := ht.anti y p
    by_cases he : c y p = 0
    · have e : St.cgo (fun a b => decide (c a b = 0)) p (y :: t) = St.cgo (fun a b => decide (c a b = 0)) y t := by simp [St.cgo, he]
      rw [e, List.mem_cons]
      constructor
      · rintro (h | h)
        · exact .inl h
        · have h1 := hrest h
          have h2 := ih.1 (by simp [h])
          refine .inr ⟨fun h0 => ?_, h2⟩
          have := ht.zero_trans he ((ht.zero x p).1 h0)
          omega
      · rintro (h | ⟨h1, h2⟩)
        · exact .inl h
        · have h3 := ih.2 h2
          rcases List.mem_cons.1 h3 with h4 | h4
          · subst h4; exact absurd he h1
          · exact .inr h4
    · have e : St.cgo (fun a b => decide (c a b = 0)) p (y :: t) = y :: St.cgo (fun a b => decide (c a b = 0)) y t := by simp [St.cgo, he]
      rw [e, List.mem_cons, ih]
      constructor
      · rintro (h | h)
        · exact .inl h
        · refine .inr ⟨fun h0 => ?_, h⟩
          have h3 := ih.2 h
          rcases List.mem_cons.1 h3 with h4 | h4
          · subst h4; exact he h0
          · have h5 := hrest h4
            rcases ht.ntrans y p x h5 with h6 | h6
            · omega
            · have := (ht.zero x p).1 h0; omega
      · rintro (h | ⟨_, h⟩)
        · exact .inl h
        · exact .inr h
theorem compact_fst {α : Type} {c : α → α → Int} (ht : Tri c) {l : List α} (h : St.Sorted (ltT c) l) (x : α) : x ∈ St.compactP (fun a b => decide (c a b = 0)) l ↔ Fst c l x := by
  cases l with
  | nil => simp [St.compactP, Fst]
  | cons p t => exact cgo_fst ht t p h x
theorem words_fst {α : Type} {c : α → α → Int} (ht : Tri c) (l : List α) (x : α) : x ∈ wordsP c l ↔ Fst c l x := by
  unfold wordsP
  rw [compact_fst ht (St.sortS_sorted ht.ord l)]
  unfold Fst
  rw [St.sortS_steq ht.ord l x]
/-- Rising lists of the same ones are the same. -/
theorem rise_ext {α : Type} {c : α → α → Int} (ht : Tri c) : ∀ {X Y : List α}, X.Pairwise (fun x y => c x y < 0) → Y.Pairwise (fun x y => c x y < 0) → (∀ x, x ∈ X ↔ x ∈ Y) → X = Y
  | [], [], _, _, _ => rfl
  | [], y :: Y, _, _, h => by have := (h y).2 (by simp); simp at this
  | x :: X, [], _, _, h => by have := (h x).1 (by simp); simp at this
  | x :: X, y :: Y, hX, hY, h => by
    rw [List.pairwise_cons] at hX hY
    have irr : ∀ z, ¬ c z z < 0 := fun z => by have := ht.self z; omega
    have e : x = y := by
      rcases List.mem_cons.1 ((h x).1 (by simp)) with h1 | h1
      · exact h1
      · rcases List.mem_cons.1 ((h y).2 (by simp)) with h2 | h2
        · exact h2.symm
        · have a := hY.1 x h1
          have b := hX.1 y h2
          have := (ht.anti x y).1 b
          omega
    subst e
    rw [rise_ext ht hX.2 hY.2 fun z => ?_]
    have hz := h z
    simp only [List.mem_cons] at hz
    constructor
    · intro hm
      rcases hz.1 (.inr hm) with e | e
      · subst e; exact absurd (hX.1 z hm) (irr z)
      · exact e
    · intro hm
      rcases hz.2 (.inr hm) with e | e
      · subst e; exact absurd (hY.1 z hm) (irr z)
      · exact e
/-! ### One by one -/
def insW (W : List Val) (v : Val) : List Val := match W[belowP W v]? with
  | some w => if cmpV w v = 0 then W else W.take (belowP W v) ++ v :: W.drop (belowP W v)
  | none => W.take (belowP W v) ++ v :: W.drop (belowP W v)
def wordsR (l : List Val) : List Val := l.foldl insW []
theorem below_cut (v : Val) : ∀ {W : List Val}, W.Pairwise (fun x y => cmpV x y < 0) → (∀ x ∈ W.take (belowP W v), cmpV x v < 0) ∧ (∀ x ∈ W.drop (belowP W v), ¬ cmpV x v < 0)
  | [], _ => by simp
  | w :: W, h => by
    rw [List.pairwise_cons] at h
    have ih := below_cut v h.2
    by_cases hw : cmpV w v < 0
    · have e : belowP (w :: W) v = belowP W v + 1 := by simp [belowP, hw]
      rw [e, List.take_succ_cons, List.drop_succ_cons]
      refine ⟨fun x hx => ?_, ih.2⟩
      rcases List.mem_cons.1 hx with rfl | hx
      · exact hw
      · exact ih.1 x hx
    · have hall : ∀ x ∈ W, ¬ cmpV x v < 0 := fun x hx hlt => by
        rcases cmpV_tri.ntrans w v x (h.1 x hx) with h1 | h1
        · exact hw h1
        · have := (cmpV_tri.anti x v).1 hlt; omega
      have e : belowP (w :: W) v = 0 := by
        unfold belowP
        rw [List.countP_eq_zero]
        intro x hx
        rcases List.mem_cons.1 hx with rfl | hx
        · simpa using hw
        · simpa using hall x hx
      rw [e]
      refine ⟨fun x hx => by simp at hx, fun x hx => ?_⟩
      rcases List.mem_cons.1 hx with rfl | hx
      · exact hw
      · exact hall x hx
structure WordsI (l W : List Val) : Prop where
  rise : W.Pairwise fun x y => cmpV x y < 0
  mem : ∀ x, x ∈ W ↔ Fst cmpV l x
theorem WordsI.has {l W : List Val} (h : WordsI l W) {v : Val} (hv : v ∈ l) : ∃ w ∈ W, cmpV v w = 0 := by
  have hne : l.filter (St.eqv (ltT cmpV) v) ≠ [] := fun h0 => by
    have : v ∈ l.filter (St.eqv (ltT cmpV) v) := List.mem_filter.2 ⟨hv, (eqv_zero cmpV_tri v v).2 (cmpV_tri.self v)⟩
    rw [h0] at this; simp at this
  obtain ⟨w, hw⟩ : ∃ w, (l.filter (St.eqv (ltT cmpV) v)).head? = some w := by
    cases hf : l.filter (St.eqv (ltT cmpV) v) with
    | nil => exact absurd hf hne
    | cons a b => exact ⟨a, rfl⟩
  have hwm := List.mem_of_mem_head? hw
  have hvw := (eqv_zero cmpV_tri v w).1 (List.mem_filter.1 hwm).2
  refine ⟨w, (h.mem w).2 ?_, hvw⟩
  unfold Fst
  have e : St.eqv (ltT cmpV) w = St.eqv (ltT cmpV) v := by
    funext z
    rw [Bool.eq_iff_iff, eqv_zero cmpV_tri, eqv_zero cmpV_tri]
    exact ⟨fun h => cmpV_tri.zero_trans hvw h, fun h => cmpV_tri.zero_trans ((cmpV_tri.zero v w).1 hvw) h⟩
  rw [e]; exact hw
theorem fst_snoc_old {l : List Val} {v w : Val} (hw : w ∈ l) (hc : cmpV w v = 0) (x : Val) : Fst cmpV (l ++ [v]) x ↔ Fst cmpV l x := by
  unfold Fst
  rw [List.filter_append]
  by_cases h : cmpV x v = 0
  · have hx : w ∈ l.filter (St.eqv (ltT cmpV) x) := List.mem_filter.2 ⟨hw, (eqv_zero cmpV_tri x w).2 (cmpV_tri.zero_trans h ((cmpV_tri.zero w v).1 hc))⟩
    cases hf : l.filter (St.eqv (ltT cmpV) x) with
    | nil => rw [hf] at hx; simp at hx
    | cons a b => simp
  · rw [List.filter_cons_of_neg (by rw [eqv_zero cmpV_tri]; exact h), List.filter_nil, List.append_nil]
theorem fst_snoc_new {l : List Val} {v : Val} (hn : ∀ w ∈ l, cmpV w v ≠ 0) (x : Val) : Fst cmpV (l ++ [v]) x ↔ Fst cmpV l x ∨ x = v := by
  have e0 : ∀ y, cmpV y v = 0 → l.filter (St.eqv (ltT cmpV) y) = [] := fun y hy => by
    rw [List.filter_eq_nil_iff]
    intro w hw h0
    exact hn w hw (cmpV_tri.zero_trans ((cmpV_tri.zero y w).1 ((eqv_zero cmpV_tri y w).1 h0)) hy)
  unfold Fst
  rw [List.filter_append]
  by_cases h : cmpV x v = 0
  · rw [e0 x h, List.filter_cons_of_pos ((eqv_zero cmpV_tri x v).2 h)]
    simp
    exact eq_comm
  · rw [List.filter_cons_of_neg (by rw [eqv_zero cmpV_tri]; exact h), List.filter_nil, List.append_nil]
    constructor
    · exact .inl
    · rintro (h1 | h1)
      · exact h1
      · subst h1; exact absurd (cmpV_tri.self x) h
theorem insW_ok {l W : List Val} (h : WordsI l W) (v : Val) : WordsI (l ++ [v]) (insW W v) := by
  have hcut := below_cut v h.rise
  by_cases hx : ∃ w ∈ W, cmpV w v = 0
  · obtain ⟨w, hw, hc⟩ := hx
    have hwl := ((h.mem w).1 hw).mem
    have hat : ∃ u, W[belowP W v]? = some u ∧ cmpV u v = 0 := by
      have hd : w ∈ W.drop (belowP W v) := by
        rw [← List.take_append_drop (belowP W v) W, List.mem_append] at hw
        rcases hw with h1 | h1
        · have := hcut.1 w h1; omega
        · exact h1
      cases hdr : W.drop (belowP W v) with
      | nil => rw [hdr] at hd; simp at hd
      | cons u U =>
        have hu : W[belowP W v]? = some u := by
          have := congrArg (fun L => L[0]?) hdr
          simpa [List.getElem?_drop] using this
        refine ⟨u, hu, ?_⟩
        have h1 := hcut.2 u (by rw [hdr]; simp)
        have hp : (u :: U).Pairwise fun x y => cmpV x y < 0 := by rw [← hdr]; exact h.rise.drop
        rw [hdr] at hd
        rcases List.mem_cons.1 hd with e | e
        · subst e; exact hc
        · have h2 := (List.pairwise_cons.1 hp).1 w e
          have := (cmpV_tri.zero w v).1 hc
          rcases cmpV_tri.ntrans u v w h2 with h3 | h3
          · exact absurd h3 h1
          · omega
    obtain ⟨u, hu, hcu⟩ := hat
    have e : insW W v = W := by simp [insW, hu, hcu]
    rw [e]
    exact ⟨h.rise, fun x => by rw [h.mem x, fst_snoc_old hwl hc]⟩
  · have hn : ∀ w ∈ W, cmpV w v ≠ 0 := fun w hw hc => hx ⟨w, hw, hc⟩
    have e : insW W v = W.take (belowP W v) ++ v :: W.drop (belowP W v) := by
      unfold insW
      split
      · rename_i w hw; rw [if_neg (hn w (List.mem_of_getElem? hw))]
      · rfl
    have hnl : ∀ w ∈ l, cmpV w v ≠ 0 := fun w hw hc => by
      obtain ⟨u, hu, huc⟩ := h.has hw
      exact hn u hu (cmpV_tri.zero_trans ((cmpV_tri.zero w u).1 huc) hc)
    rw [e]
    refine ⟨?_, fun x => ?_⟩
    · have h0 := h.rise
      rw [← List.take_append_drop (belowP W v) W, List.pairwise_append] at h0
      rw [List.pairwise_append, List.pairwise_cons]
      have hgt : ∀ x ∈ W.drop (belowP W v), cmpV v x < 0 := fun x hx => by
        have h1 := hcut.2 x hx
        have h2 := hn x (List.mem_of_mem_drop hx)
        exact (cmpV_tri.anti v x).2 (by omega)
      refine ⟨h0.1, ⟨hgt, h0.2.1⟩, fun x hx y hy => ?_⟩
      rcases List.mem_cons.1 hy with rfl | hy
      · exact hcut.1 x hx
      · exact h0.2.2 x hx y hy
    · rw [fst_snoc_new hnl, ← h.mem x, List.mem_append, List.mem_cons]
      have := @List.mem_append _ x (W.take (belowP W v)) (W.drop (belowP W v))
      rw [List.take_append_drop] at this
      rw [this]
      constructor
      · rintro (h1 | h1 | h1)
        · exact .inl (.inl h1)
        · exact .inr h1
        · exact .inl (.inr h1)
      · rintro ((h1 | h1) | h1)
        · exact .inl h1
        · exact .inr (.inr h1)
        · exact .inr (.inl h1)
theorem wordsR_snoc (l : List Val) (v : Val) : wordsR (l ++ [v]) = insW (wordsR l) v := by simp [wordsR]
theorem fold_ok : ∀ (m l W : List Val), WordsI l W → WordsI (l ++ m) (m.foldl insW W)
  | [], l, W, h => by rw [List.append_nil]; exact h
  | v :: m, l, W, h => by
    have := fold_ok m (l ++ [v]) (insW W v) (insW_ok h v)
    rwa [List.append_assoc] at this
theorem wordsR_ok (l : List Val) : WordsI l (wordsR l) := fold_ok l [] [] ⟨List.Pairwise.nil, fun x => by simp [Fst]⟩
theorem wordsR_eq (l : List Val) : wordsR l = wordsP cmpV l :=
  rise_ext cmpV_tri (wordsR_ok l).rise ((words_rise cmpV_tri l).imp fun h => by simpa [ltT] using h) fun x => by rw [(wordsR_ok l).mem, words_fst cmpV_tri]
theorem insW_len (W : List Val) (v : Val) : (insW W v).length ≤ W.length + 1 := by
  unfold insW
  split
  · split
    · omega
    · simp; omega
  · simp; omega
theorem wordsR_len (l : List Val) : (wordsR l).length ≤ l.length := by
  rw [wordsR_eq]
  have h := St.compactP_len (eq := fun a b => decide (cmpV a b = 0)) (St.sortS (ltT cmpV) l)
  rwa [St.sortS_len] at h
theorem wordsR_mem {l : List Val} {x : Val} (h : x ∈ wordsR l) : x ∈ l := ((wordsR_ok l).mem x |>.1 h).mem
end Go.Proofs.Ytfmmemboakdeiaa
namespace Go.Proofs.Ytfmmemboakdeiaa
open Go.Proofs.YtfmmemboakdeiaaAw Go.RowKit
set_option linter.unusedVariables false
set_option linter.unusedSimpArgs false
/-! ### Rows -/
def rowD (r : List Val) : List D := [.list false (r.map Val.enc)]
def rowsD (R : List (List Val)) : List (List D) := R.map rowD
theorem rowsD_len (R : List (List Val)) : (rowsD R).length = R.length := by simp [rowsD]
theorem rowsD_get (R : List (List Val)) (k : Nat) (h : k < R.length) : (rowsD R)[k]? = some [.list false (R[k].map Val.enc)] := by simp [rowsD, rowD, h]
theorem rowsD_snoc (R : List (List Val)) (r : List Val) : rowsD R ++ [[.list false (r.map Val.enc)]] = rowsD (R ++ [r]) := by simp [rowsD, rowD]
theorem rowsD_one (R : List (List Val)) : (∀ c ∈ rowsD R, c.length = 1) = True := eq_true fun c hc => by obtain ⟨r, _, rfl⟩ := List.mem_map.1 hc; rfl
def atP (r : List Val) (c : Int) : Val := if c < 0 then ⟨0, 0, noS⟩ else r.getD c.toNat ⟨0, 0, noS⟩
set_option maxRecDepth 10000 in
theorem at_does (r : List Val) (c : Int) (nn : Bool) (hl : r.length ≤ 9223372036854775807) (H : AHeap) : Does Try.prog 56 [.d (.list nn (r.map Val.enc)), iA c] H (.ok (atP r c).av) H := by
  refine Does.of_awpC (hint := fun _ => false) Try.func56 (by kernel_rfl) rfl [.cell 4 26] (by kernel_rfl) (by simp [Try.ntmps56]) ?_
  rw [Try.ntmps56]
  by_cases h1 : c < 0
  · simp (implicitDefEqProofs := false) only [↓reduceIte, go_sem, oread, owrite, Nat.reduceAdd, Nat.reduceSub, Nat.reduceMul, Nat.reduceLT, Nat.reduceLeDiff, Nat.reduceEqDiff, Nat.reduceBEq, Int.reduceLE, Int.reduceLT, Int.reduceEq, Int.reduceNe, Int.reduceAdd, Int.reduceSub, Int.reduceMul, Int.reduceNeg, Int.reduceToNat, Int.reduceNatCast, reduceCtorEq, eq_self, h1]
    refine AEndC.ret ?_
    simp (implicitDefEqProofs := false) only [↓reduceIte, go_sem, oread, owrite, Nat.reduceAdd, Nat.reduceSub, Nat.reduceMul, Nat.reduceLT, Nat.reduceLeDiff, Nat.reduceEqDiff, Nat.reduceBEq, Int.reduceLE, Int.reduceLT, Int.reduceEq, Int.reduceNe, Int.reduceAdd, Int.reduceSub, Int.reduceMul, Int.reduceNeg, Int.reduceToNat, Int.reduceNatCast, reduceCtorEq, eq_self, resAll, resAV]
    simp [atP, h1, noS]
  · obtain ⟨n, rfl⟩ := Int.eq_ofNat_of_zero_le (show 0 ≤ c by omega)
    by_cases h2 : n < r.length
    · have h2' : ((r.length : Int) ≤ (n : Int)) = False := eq_false (by omega)
      have h3 : ((n : Int) < 0) = False := eq_false (by omega)
      have hx := List.getElem?_eq_getElem h2
      have ha : atP r (n : Int) = r[n] := by simp [atP, List.getD, hx]; intro h; omega
      rw [ha]
      generalize r[n] = v at hx
      simp (implicitDefEqProofs := false) only [↓reduceIte, go_sem, oread, owrite, Nat.reduceAdd, Nat.reduceSub, Nat.reduceMul, Nat.reduceLT, Nat.reduceLeDiff, Nat.reduceEqDiff, Nat.reduceBEq, Int.reduceLE, Int.reduceLT, Int.reduceEq, Int.reduceNe, Int.reduceAdd, Int.reduceSub, Int.reduceMul, Int.reduceNeg, Int.reduceToNat, Int.reduceNatCast, reduceCtorEq, eq_self, h3, h2', List.length_map, hx, h2, Val.enc]
      refine AEndC.ret ?_
      simp (implicitDefEqProofs := false) only [↓reduceIte, go_sem, oread, owrite, Nat.reduceAdd, Nat.reduceSub, Nat.reduceMul, Nat.reduceLT, Nat.reduceLeDiff, Nat.reduceEqDiff, Nat.reduceBEq, Int.reduceLE, Int.reduceLT, Int.reduceEq, Int.reduceNe, Int.reduceAdd, Int.reduceSub, Int.reduceMul, Int.reduceNeg, Int.reduceToNat, Int.reduceNatCast, reduceCtorEq, eq_self, resAll, resAV]
    · have h2' : ((r.length : Int) ≤ (n : Int)) = True := eq_true (by omega)
      have h3 : ((n : Int) < 0) = False := eq_false (by omega)
      simp (implicitDefEqProofs := false) only [↓reduceIte, go_sem, oread, owrite, Nat.reduceAdd, Nat.reduceSub, Nat.reduceMul, Nat.reduceLT, Nat.reduceLeDiff, Nat.reduceEqDiff, Nat.reduceBEq, Int.reduceLE, Int.reduceLT, Int.reduceEq, Int.reduceNe, Int.reduceAdd, Int.reduceSub, Int.reduceMul, Int.reduceNeg, Int.reduceToNat, Int.reduceNatCast, reduceCtorEq, eq_self, h3, h2', List.length_map]
      refine AEndC.ret ?_
      simp (implicitDefEqProofs := false) only [↓reduceIte, go_sem, oread, owrite, Nat.reduceAdd, Nat.reduceSub, Nat.reduceMul, Nat.reduceLT, Nat.reduceLeDiff, Nat.reduceEqDiff, Nat.reduceBEq, Int.reduceLE, Int.reduceLT, Int.reduceEq, Int.reduceNe, Int.reduceAdd, Int.reduceSub, Int.reduceMul, Int.reduceNeg, Int.reduceToNat, Int.reduceNatCast, reduceCtorEq, eq_self, resAll, resAV]
      have : r[n]? = none := List.getElem?_eq_none (by omega)
      simp [atP, this, noS]
def colsP (R : List (List Val)) (cs : List Int) : List (List Val) := R.map fun r => cs.map (atP r)
theorem take_len2 {α : Type} (l : List α) (n : Nat) (h : l.length = n) : l.take n = l := List.take_of_length_le (by omega)
set_option maxRecDepth 10000 in
set_option maxHeartbeats 1000000 in
theorem cols_does (R : List (List Val)) (cs : List Int) (n1 n2 : Bool) (hR : R.length ≤ 1000000000000) (hr : ∀ r ∈ R, r.length ≤ 1000000000000) (hc : cs.length ≤ 1000000000) (H : AHeap) :
    Does Try.prog 45 [.d (.list n1 (rowsD R)), .d (.list n2 (ints cs))] H (.ok (.d (.list false (rowsD (colsP R cs))))) H := by
  refine Does.of_awp (hint := (fun t => t == 1000011)) Try.func45 (by kernel_rfl) rfl [4] (by kernel_rfl) (by decide) (by simp [Try.ntmps45]) ?_
  rw [Try.ntmps45]
  simp (implicitDefEqProofs := false) only [↓reduceIte, go_sem, oread, owrite, Nat.reduceAdd, Nat.reduceSub, Nat.reduceMul, Nat.reduceLT, Nat.reduceLeDiff, Nat.reduceEqDiff, Nat.reduceBEq, Int.reduceLE, Int.reduceLT, Int.reduceEq, Int.reduceNe, Int.reduceAdd, Int.reduceSub, Int.reduceMul, Int.reduceNeg, Int.reduceToNat, Int.reduceNatCast, reduceCtorEq, eq_self, rowsD_len]
  refine awp_for (fun k s H' => H' = H ++ [.arr 28 1 k (rowsD (colsP (R.take k) cs))] ∧ s 1 = .d (.list n2 (ints cs)) ∧ s 5 = .sl H.length k 0 k ∧ s 11 = .d (.list n1 (rowsD R)) ∧ s 12 = iA R.length ∧ s 13 = iA k) R.length (by omega) (Weak.virt1 _ _ 5 28 1 (by decide) (by simp (implicitDefEqProofs := false) only [↓reduceIte, go_sem, oread, owrite, Nat.reduceAdd, Nat.reduceSub, Nat.reduceMul, Nat.reduceLT, Nat.reduceLeDiff, Nat.reduceEqDiff, Nat.reduceBEq, Int.reduceLE, Int.reduceLT, Int.reduceEq, Int.reduceNe, Int.reduceAdd, Int.reduceSub, Int.reduceMul, Int.reduceNeg, Int.reduceToNat, Int.reduceNatCast, reduceCtorEq, eq_self]) _) ?_ ?_ ?_
  · refine ⟨rfl, ?_⟩
    simp (implicitDefEqProofs := false) only [↓reduceIte, go_sem, oread, owrite, Nat.reduceAdd, Nat.reduceSub, Nat.reduceMul, Nat.reduceLT, Nat.reduceLeDiff, Nat.reduceEqDiff, Nat.reduceBEq, Int.reduceLE, Int.reduceLT, Int.reduceEq, Int.reduceNe, Int.reduceAdd, Int.reduceSub, Int.reduceMul, Int.reduceNeg, Int.reduceToNat, Int.reduceNatCast, reduceCtorEq, eq_self]
  · rintro k s H' hk hw ⟨rfl, t1, t5, t11, t12, t13⟩
    have hx := rowsD_get R k hk
    have e1 : colsP (R.take (k + 1)) cs = colsP (R.take k) cs ++ [cs.map (atP R[k])] := by unfold colsP; rw [List.take_succ_eq_append_getElem hk, List.map_append]; rfl
    have hrl := hr _ (List.getElem_mem hk)
    have el : (colsP (R.take k) cs).length = k := by simp [colsP]; omega
    rw [e1]
    generalize colsP (R.take k) cs = O at *
    generalize R[k] = r at hx hrl
    simp (implicitDefEqProofs := false) only [↓reduceIte, go_sem, oread, owrite, Nat.reduceAdd, Nat.reduceSub, Nat.reduceMul, Nat.reduceLT, Nat.reduceLeDiff, Nat.reduceEqDiff, Nat.reduceBEq, Int.reduceLE, Int.reduceLT, Int.reduceEq, Int.reduceNe, Int.reduceAdd, Int.reduceSub, Int.reduceMul, Int.reduceNeg, Int.reduceToNat, Int.reduceNatCast, reduceCtorEq, eq_self, t1, t5, t11, t12, t13, hk, rowsD_len, hx, ints_len]
    refine awp_for (fun j s H' => H' = H ++ [.arr 28 1 k (rowsD O), .arr 26 3 j (((cs.take j).map (atP r)).map Val.enc)] ∧ s 1 = .d (.list n2 (ints cs)) ∧ s 5 = .sl H.length k 0 k ∧ s 7 = .d (.list false (r.map Val.enc)) ∧ s 8 = .sl (H.length + 1) j 0 j ∧ s 11 = .d (.list n1 (rowsD R)) ∧ s 12 = iA R.length ∧ s 13 = iA k ∧ s 17 = .d (.list n2 (ints cs)) ∧ s 18 = iA cs.length ∧ s 19 = iA j) cs.length (by omega) (Weak.virt1 _ _ 8 26 3 (by decide) (by simp (implicitDefEqProofs := false) only [↓reduceIte, go_sem, oread, owrite, Nat.reduceAdd, Nat.reduceSub, Nat.reduceMul, Nat.reduceLT, Nat.reduceLeDiff, Nat.reduceEqDiff, Nat.reduceBEq, Int.reduceLE, Int.reduceLT, Int.reduceEq, Int.reduceNe, Int.reduceAdd, Int.reduceSub, Int.reduceMul, Int.reduceNeg, Int.reduceToNat, Int.reduceNatCast, reduceCtorEq, eq_self]) _) ?_ ?_ ?_
    · refine ⟨by simp, ?_⟩
      simp (implicitDefEqProofs := false) only [↓reduceIte, go_sem, oread, owrite, Nat.reduceAdd, Nat.reduceSub, Nat.reduceMul, Nat.reduceLT, Nat.reduceLeDiff, Nat.reduceEqDiff, Nat.reduceBEq, Int.reduceLE, Int.reduceLT, Int.reduceEq, Int.reduceNe, Int.reduceAdd, Int.reduceSub, Int.reduceMul, Int.reduceNeg, Int.reduceToNat, Int.reduceNatCast, reduceCtorEq, eq_self, t1, t5, t11, t12, t13]
    · rintro j s H' hj hw2 ⟨rfl, t1, t5, t7, t8, t11, t12, t13, t17, t18, t19⟩
      have hy := ints_get cs j hj
      have e2 : (cs.take (j + 1)).map (atP r) = (cs.take j).map (atP r) ++ [atP r cs[j]] := by rw [List.take_succ_eq_append_getElem hj, List.map_append]; rfl
      have ej : ((cs.take j).map (atP r)).length = j := by simp; omega
      rw [e2]
      generalize cs[j] = c at hy
      generalize (cs.take j).map (atP r) = X at *
      simp (implicitDefEqProofs := false) only [↓reduceIte, go_sem, oread, owrite, Nat.reduceAdd, Nat.reduceSub, Nat.reduceMul, Nat.reduceLT, Nat.reduceLeDiff, Nat.reduceEqDiff, Nat.reduceBEq, Int.reduceLE, Int.reduceLT, Int.reduceEq, Int.reduceNe, Int.reduceAdd, Int.reduceSub, Int.reduceMul, Int.reduceNeg, Int.reduceToNat, Int.reduceNatCast, reduceCtorEq, eq_self, t7, t8, t17, t18, t19, hj, ints_len, hy]
      refine KCall.ok (at_does r c false (by omega) _) ?_
      generalize atP r c = v
      have q : X.map Val.enc ++ [v.enc] = (X ++ [v]).map Val.enc := by simp
      simp only [Val.enc] at q
      simp (implicitDefEqProofs := false) only [↓reduceIte, go_sem, oread, owrite, Nat.reduceAdd, Nat.reduceSub, Nat.reduceMul, Nat.reduceLT, Nat.reduceLeDiff, Nat.reduceEqDiff, Nat.reduceBEq, Int.reduceLE, Int.reduceLT, Int.reduceEq, Int.reduceNe, Int.reduceAdd, Int.reduceSub, Int.reduceMul, Int.reduceNeg, Int.reduceToNat, Int.reduceNatCast, reduceCtorEq, eq_self, t8, List.length_map, ej, q]
      refine ⟨by omega, by omega, ?_⟩
      simp (implicitDefEqProofs := false) only [↓reduceIte, go_sem, oread, owrite, Nat.reduceAdd, Nat.reduceSub, Nat.reduceMul, Nat.reduceLT, Nat.reduceLeDiff, Nat.reduceEqDiff, Nat.reduceBEq, Int.reduceLE, Int.reduceLT, Int.reduceEq, Int.reduceNe, Int.reduceAdd, Int.reduceSub, Int.reduceMul, Int.reduceNeg, Int.reduceToNat, Int.reduceNatCast, reduceCtorEq, eq_self, t19]
      refine Rnd.same ⟨rfl, ?_⟩
      simp (implicitDefEqProofs := false) only [↓reduceIte, go_sem, oread, owrite, Nat.reduceAdd, Nat.reduceSub, Nat.reduceMul, Nat.reduceLT, Nat.reduceLeDiff, Nat.reduceEqDiff, Nat.reduceBEq, Int.reduceLE, Int.reduceLT, Int.reduceEq, Int.reduceNe, Int.reduceAdd, Int.reduceSub, Int.reduceMul, Int.reduceNeg, Int.reduceToNat, Int.reduceNatCast, reduceCtorEq, eq_self, t1, t5, t7, t11, t12, t13, t17, t18, hw2]
    · rintro s H' ⟨rfl, t1, t5, t7, t8, t11, t12, t13, t17, t18, t19⟩
      rw [show cs.take cs.length = cs from List.take_length]
      simp (implicitDefEqProofs := false) only [↓reduceIte, go_sem, oread, owrite, Nat.reduceAdd, Nat.reduceSub, Nat.reduceMul, Nat.reduceLT, Nat.reduceLeDiff, Nat.reduceEqDiff, Nat.reduceBEq, Int.reduceLE, Int.reduceLT, Int.reduceEq, Int.reduceNe, Int.reduceAdd, Int.reduceSub, Int.reduceMul, Int.reduceNeg, Int.reduceToNat, Int.reduceNatCast, reduceCtorEq, eq_self, t18, t19]
      refine ⟨_, _, Weak.cut [.arr 28 1 k (rowsD O)] [.arr 26 3 cs.length ((cs.map (atP r)).map Val.enc)] 1 rfl _ (by rfl), ?_⟩
      have hlt : H.length < H.length + 1 := Nat.lt_succ_self _
      have hge : ¬ H.length + 1 < H.length + 1 := Nat.lt_irrefl _
      have q3 : ((cs.map (atP r)).map Val.enc).take cs.length = (cs.map (atP r)).map Val.enc := take_len2 _ _ (by simp)
      have q4 := rowsD_snoc O (cs.map (atP r))
      simp (implicitDefEqProofs := false) only [↓reduceIte, go_sem, oread, owrite, Nat.reduceAdd, Nat.reduceSub, Nat.reduceMul, Nat.reduceLT, Nat.reduceLeDiff, Nat.reduceEqDiff, Nat.reduceBEq, Int.reduceLE, Int.reduceLT, Int.reduceEq, Int.reduceNe, Int.reduceAdd, Int.reduceSub, Int.reduceMul, Int.reduceNeg, Int.reduceToNat, Int.reduceNatCast, reduceCtorEq, eq_self, t5, t8, t13, rowsD_len, el, q3, q4]
      refine ⟨by omega, by omega, Rnd.same ⟨rfl, ?_⟩⟩
      simp (implicitDefEqProofs := false) only [↓reduceIte, go_sem, oread, owrite, Nat.reduceAdd, Nat.reduceSub, Nat.reduceMul, Nat.reduceLT, Nat.reduceLeDiff, Nat.reduceEqDiff, Nat.reduceBEq, Int.reduceLE, Int.reduceLT, Int.reduceEq, Int.reduceNe, Int.reduceAdd, Int.reduceSub, Int.reduceMul, Int.reduceNeg, Int.reduceToNat, Int.reduceNatCast, reduceCtorEq, eq_self, t1, t5, t11, t12, t13, hw]
  · rintro s H' ⟨rfl, t1, t5, t11, t12, t13⟩
    rw [show R.take R.length = R from List.take_length]
    simp (implicitDefEqProofs := false) only [↓reduceIte, go_sem, oread, owrite, Nat.reduceAdd, Nat.reduceSub, Nat.reduceMul, Nat.reduceLT, Nat.reduceLeDiff, Nat.reduceEqDiff, Nat.reduceBEq, Int.reduceLE, Int.reduceLT, Int.reduceEq, Int.reduceNe, Int.reduceAdd, Int.reduceSub, Int.reduceMul, Int.reduceNeg, Int.reduceToNat, Int.reduceNatCast, reduceCtorEq, eq_self, t5, t12, t13]
    refine AEnd.ret ?_
    simp (implicitDefEqProofs := false) only [↓reduceIte, go_sem, oread, owrite, Nat.reduceAdd, Nat.reduceSub, Nat.reduceMul, Nat.reduceLT, Nat.reduceLeDiff, Nat.reduceEqDiff, Nat.reduceBEq, Int.reduceLE, Int.reduceLT, Int.reduceEq, Int.reduceNe, Int.reduceAdd, Int.reduceSub, Int.reduceMul, Int.reduceNeg, Int.reduceToNat, Int.reduceNatCast, reduceCtorEq, eq_self, take_len2 (rowsD (colsP R cs)) R.length (by simp [rowsD, colsP])]
def someP (R : List (List Val)) (c : Int) : List Val := R.map fun r => atP r c
set_option maxRecDepth 10000 in
set_option maxHeartbeats 1000000 in
theorem some_does (R : List (List Val)) (c : Int) (n1 : Bool) (hR : R.length ≤ 1000000000000) (hr : ∀ r ∈ R, r.length ≤ 1000000000000) (H : AHeap) :
    Does Try.prog 24 [.d (.list n1 (rowsD R)), iA c] H (.ok (.d (.list false ((someP R c).map Val.enc)))) H := by
  refine Does.of_awp (hint := (fun _ => false)) Try.func24 (by kernel_rfl) rfl [4] (by kernel_rfl) (by decide) (by simp [Try.ntmps24]) ?_
  rw [Try.ntmps24]
  simp (implicitDefEqProofs := false) only [↓reduceIte, go_sem, oread, owrite, Nat.reduceAdd, Nat.reduceSub, Nat.reduceMul, Nat.reduceLT, Nat.reduceLeDiff, Nat.reduceEqDiff, Nat.reduceBEq, Int.reduceLE, Int.reduceLT, Int.reduceEq, Int.reduceNe, Int.reduceAdd, Int.reduceSub, Int.reduceMul, Int.reduceNeg, Int.reduceToNat, Int.reduceNatCast, reduceCtorEq, eq_self]
  refine KCall.ok (cols_does R [c] n1 true hR hr (by simp) H) ?_
  have hl : (colsP R [c]).length = R.length := by simp [colsP]
  simp (implicitDefEqProofs := false) only [↓reduceIte, go_sem, oread, owrite, Nat.reduceAdd, Nat.reduceSub, Nat.reduceMul, Nat.reduceLT, Nat.reduceLeDiff, Nat.reduceEqDiff, Nat.reduceBEq, Int.reduceLE, Int.reduceLT, Int.reduceEq, Int.reduceNe, Int.reduceAdd, Int.reduceSub, Int.reduceMul, Int.reduceNeg, Int.reduceToNat, Int.reduceNatCast, reduceCtorEq, eq_self, rowsD_len, hl]
  refine awp_for (fun k s H' => H' = H ++ [.arr 26 3 k (((someP (R.take k) c)).map Val.enc)] ∧ s 5 = .sl H.length k 0 k ∧ s 11 = .d (.list false (rowsD (colsP R [c]))) ∧ s 12 = iA R.length ∧ s 13 = iA k) R.length (by omega) (Weak.virt1 _ _ 5 26 3 (by decide) (by simp (implicitDefEqProofs := false) only [↓reduceIte, go_sem, oread, owrite, Nat.reduceAdd, Nat.reduceSub, Nat.reduceMul, Nat.reduceLT, Nat.reduceLeDiff, Nat.reduceEqDiff, Nat.reduceBEq, Int.reduceLE, Int.reduceLT, Int.reduceEq, Int.reduceNe, Int.reduceAdd, Int.reduceSub, Int.reduceMul, Int.reduceNeg, Int.reduceToNat, Int.reduceNatCast, reduceCtorEq, eq_self]) _) ?_ ?_ ?_
  · refine ⟨rfl, ?_⟩
    simp (implicitDefEqProofs := false) only [↓reduceIte, go_sem, oread, owrite, Nat.reduceAdd, Nat.reduceSub, Nat.reduceMul, Nat.reduceLT, Nat.reduceLeDiff, Nat.reduceEqDiff, Nat.reduceBEq, Int.reduceLE, Int.reduceLT, Int.reduceEq, Int.reduceNe, Int.reduceAdd, Int.reduceSub, Int.reduceMul, Int.reduceNeg, Int.reduceToNat, Int.reduceNatCast, reduceCtorEq, eq_self]
  · rintro k s H' hk hw ⟨rfl, t5, t11, t12, t13⟩
    have hx : (rowsD (colsP R [c]))[k]? = some [.list false ([(atP R[k] c)].map Val.enc)] := by
      rw [rowsD_get _ _ (by omega)]; simp [colsP]
    have e1 : someP (R.take (k + 1)) c = someP (R.take k) c ++ [atP R[k] c] := by unfold someP; rw [List.take_succ_eq_append_getElem hk, List.map_append]; rfl
    have el : (someP (R.take k) c).length = k := by simp [someP]; omega
    rw [e1]
    generalize someP (R.take k) c = O at *
    generalize atP R[k] c = v at hx
    have q : O.map Val.enc ++ [v.enc] = (O ++ [v]).map Val.enc := by simp
    simp only [Val.enc, List.map_cons, List.map_nil] at q hx
    have hlt : k < (rowsD (colsP R [c])).length := by rw [rowsD_len]; omega
    simp (implicitDefEqProofs := false) only [↓reduceIte, go_sem, oread, owrite, Nat.reduceAdd, Nat.reduceSub, Nat.reduceMul, Nat.reduceLT, Nat.reduceLeDiff, Nat.reduceEqDiff, Nat.reduceBEq, Int.reduceLE, Int.reduceLT, Int.reduceEq, Int.reduceNe, Int.reduceAdd, Int.reduceSub, Int.reduceMul, Int.reduceNeg, Int.reduceToNat, Int.reduceNatCast, reduceCtorEq, eq_self, t5, t11, t12, t13, hk, hlt, rowsD_len, hl, hx, List.length_map, el, q]
    refine ⟨by omega, by omega, Rnd.same ⟨rfl, ?_⟩⟩
    simp (implicitDefEqProofs := false) only [↓reduceIte, go_sem, oread, owrite, Nat.reduceAdd, Nat.reduceSub, Nat.reduceMul, Nat.reduceLT, Nat.reduceLeDiff, Nat.reduceEqDiff, Nat.reduceBEq, Int.reduceLE, Int.reduceLT, Int.reduceEq, Int.reduceNe, Int.reduceAdd, Int.reduceSub, Int.reduceMul, Int.reduceNeg, Int.reduceToNat, Int.reduceNatCast, reduceCtorEq, eq_self, t11, t12, hw]
  · rintro s H' ⟨rfl, t5, t11, t12, t13⟩
    rw [show R.take R.length = R from List.take_length]
    simp (implicitDefEqProofs := false) only [↓reduceIte, go_sem, oread, owrite, Nat.reduceAdd, Nat.reduceSub, Nat.reduceMul, Nat.reduceLT, Nat.reduceLeDiff, Nat.reduceEqDiff, Nat.reduceBEq, Int.reduceLE, Int.reduceLT, Int.reduceEq, Int.reduceNe, Int.reduceAdd, Int.reduceSub, Int.reduceMul, Int.reduceNeg, Int.reduceToNat, Int.reduceNatCast, reduceCtorEq, eq_self, t5, t12, t13]
    refine AEnd.ret ?_
    simp (implicitDefEqProofs := false) only [↓reduceIte, go_sem, oread, owrite, Nat.reduceAdd, Nat.reduceSub, Nat.reduceMul, Nat.reduceLT, Nat.reduceLeDiff, Nat.reduceEqDiff, Nat.reduceBEq, Int.reduceLE, Int.reduceLT, Int.reduceEq, Int.reduceNe, Int.reduceAdd, Int.reduceSub, Int.reduceMul, Int.reduceNeg, Int.reduceToNat, Int.reduceNatCast, reduceCtorEq, eq_self, take_len2 ((someP R c).map Val.enc) R.length (by simp [someP])]
end Go.Proofs.Ytfmmemboakdeiaa
namespace Go.Proofs.Ytfmmemboakdeiaa
open Go.Proofs.YtfmmemboakdeiaaAw Go.RowKit
set_option linter.unusedVariables false
set_option linter.unusedSimpArgs false
/-! ### Same -/
set_option maxRecDepth 10000 in
set_option maxHeartbeats 2000000 in
theorem same05_does (l m : List Val) (n1 n2 : Bool) (H : AHeap) (hl : l.length ≤ 1000000000000) : Does Try.prog 17 [.d (.list n1 (l.map Val.enc)), .d (.list n2 (m.map Val.enc))] H (.ok (bA (decide (l = m)))) H := by
  refine Does.of_awp (hint := (fun _ => false)) Try.func17 (by kernel_rfl) rfl [4] (by kernel_rfl) (by decide) (by simp [Try.ntmps17]) ?_
  rw [Try.ntmps17]
  simp (implicitDefEqProofs := false) only [↓reduceIte, go_sem, oread, owrite, Nat.reduceAdd, Nat.reduceSub, Nat.reduceMul, Nat.reduceLT, Nat.reduceLeDiff, Nat.reduceEqDiff, Nat.reduceBEq, Int.reduceLE, Int.reduceLT, Int.reduceEq, Int.reduceNe, Int.reduceAdd, Int.reduceSub, Int.reduceMul, Int.reduceNeg, Int.reduceToNat, Int.reduceNatCast, reduceCtorEq, eq_self]
  by_cases hlm : l.length = m.length
  · refine awp_F (by simp (implicitDefEqProofs := false) only [↓reduceIte, go_sem, oread, owrite, Nat.reduceAdd, Nat.reduceSub, Nat.reduceMul, Nat.reduceLT, Nat.reduceLeDiff, Nat.reduceEqDiff, Nat.reduceBEq, Int.reduceLE, Int.reduceLT, Int.reduceEq, Int.reduceNe, Int.reduceAdd, Int.reduceSub, Int.reduceMul, Int.reduceNeg, Int.reduceToNat, Int.reduceNatCast, reduceCtorEq, eq_self, hlm]) ?_
    simp (implicitDefEqProofs := false) only [↓reduceIte, go_sem, oread, owrite, Nat.reduceAdd, Nat.reduceSub, Nat.reduceMul, Nat.reduceLT, Nat.reduceLeDiff, Nat.reduceEqDiff, Nat.reduceBEq, Int.reduceLE, Int.reduceLT, Int.reduceEq, Int.reduceNe, Int.reduceAdd, Int.reduceSub, Int.reduceMul, Int.reduceNeg, Int.reduceToNat, Int.reduceNatCast, reduceCtorEq, eq_self]
    refine awp_for3 (fun k s H' => H' = H ∧ l.take k = m.take k ∧ s 0 = .d (.list n1 (l.map Val.enc)) ∧ s 1 = .d (.list n2 (m.map Val.enc)) ∧ s 5 = iA k) l.length (by omega) (Weak.refl _ _) ?_ ?_ ?_
    · simp (implicitDefEqProofs := false) only [↓reduceIte, go_sem, oread, owrite, Nat.reduceAdd, Nat.reduceSub, Nat.reduceMul, Nat.reduceLT, Nat.reduceLeDiff, Nat.reduceEqDiff, Nat.reduceBEq, Int.reduceLE, Int.reduceLT, Int.reduceEq, Int.reduceNe, Int.reduceAdd, Int.reduceSub, Int.reduceMul, Int.reduceNeg, Int.reduceToNat, Int.reduceNatCast, reduceCtorEq, eq_self, List.take_zero]
    · rintro k s H' hk hw ⟨rfl, hp, h0, h1, h5⟩
      have hx := List.getElem?_eq_getElem hk
      have hy := List.getElem?_eq_getElem (show k < m.length by omega)
      have e1 := List.take_succ_eq_append_getElem hk
      have e2 := List.take_succ_eq_append_getElem (show k < m.length by omega)
      have e3 : ∀ (g : l = m), l[k] = m[k]'(by omega) := by intro g; subst g; rfl
      generalize l[k] = x at hx e1 e3
      generalize m[k]'(by omega) = y at hy e2 e3
      have hk2 : k < m.length := by omega
      simp (implicitDefEqProofs := false) only [↓reduceIte, go_sem, oread, owrite, Nat.reduceAdd, Nat.reduceSub, Nat.reduceMul, Nat.reduceLT, Nat.reduceLeDiff, Nat.reduceEqDiff, Nat.reduceBEq, Int.reduceLE, Int.reduceLT, Int.reduceEq, Int.reduceNe, Int.reduceAdd, Int.reduceSub, Int.reduceMul, Int.reduceNeg, Int.reduceToNat, Int.reduceNatCast, reduceCtorEq, eq_self, h0, h1, h5, hk]
      refine awp_draw K.mixed (by kernel_rfl) ?_
      simp (implicitDefEqProofs := false) only [↓reduceIte, go_sem, oread, owrite, Nat.reduceAdd, Nat.reduceSub, Nat.reduceMul, Nat.reduceLT, Nat.reduceLeDiff, Nat.reduceEqDiff, Nat.reduceBEq, Int.reduceLE, Int.reduceLT, Int.reduceEq, Int.reduceNe, Int.reduceAdd, Int.reduceSub, Int.reduceMul, Int.reduceNeg, Int.reduceToNat, Int.reduceNatCast, reduceCtorEq, eq_self, h0, h1, h5, hx, hy, hk, hk2, Val.enc, sameV_eq]
      by_cases hxy : x = y
      · refine awp_F (by simp (implicitDefEqProofs := false) only [↓reduceIte, go_sem, oread, owrite, Nat.reduceAdd, Nat.reduceSub, Nat.reduceMul, Nat.reduceLT, Nat.reduceLeDiff, Nat.reduceEqDiff, Nat.reduceBEq, Int.reduceLE, Int.reduceLT, Int.reduceEq, Int.reduceNe, Int.reduceAdd, Int.reduceSub, Int.reduceMul, Int.reduceNeg, Int.reduceToNat, Int.reduceNatCast, reduceCtorEq, eq_self, hxy]) ?_
        simp (implicitDefEqProofs := false) only [↓reduceIte, go_sem, oread, owrite, Nat.reduceAdd, Nat.reduceSub, Nat.reduceMul, Nat.reduceLT, Nat.reduceLeDiff, Nat.reduceEqDiff, Nat.reduceBEq, Int.reduceLE, Int.reduceLT, Int.reduceEq, Int.reduceNe, Int.reduceAdd, Int.reduceSub, Int.reduceMul, Int.reduceNeg, Int.reduceToNat, Int.reduceNatCast, reduceCtorEq, eq_self, h5]
        refine Rnd.same ⟨rfl, by rw [e1, e2, hp, hxy], ?_⟩
        simp (implicitDefEqProofs := false) only [↓reduceIte, go_sem, oread, owrite, Nat.reduceAdd, Nat.reduceSub, Nat.reduceMul, Nat.reduceLT, Nat.reduceLeDiff, Nat.reduceEqDiff, Nat.reduceBEq, Int.reduceLE, Int.reduceLT, Int.reduceEq, Int.reduceNe, Int.reduceAdd, Int.reduceSub, Int.reduceMul, Int.reduceNeg, Int.reduceToNat, Int.reduceNatCast, reduceCtorEq, eq_self, h0, h1, hw]
      · refine awp_T (by simp (implicitDefEqProofs := false) only [↓reduceIte, go_sem, oread, owrite, Nat.reduceAdd, Nat.reduceSub, Nat.reduceMul, Nat.reduceLT, Nat.reduceLeDiff, Nat.reduceEqDiff, Nat.reduceBEq, Int.reduceLE, Int.reduceLT, Int.reduceEq, Int.reduceNe, Int.reduceAdd, Int.reduceSub, Int.reduceMul, Int.reduceNeg, Int.reduceToNat, Int.reduceNatCast, reduceCtorEq, eq_self, hxy]) ?_
        simp (implicitDefEqProofs := false) only [↓reduceIte, go_sem, oread, owrite, Nat.reduceAdd, Nat.reduceSub, Nat.reduceMul, Nat.reduceLT, Nat.reduceLeDiff, Nat.reduceEqDiff, Nat.reduceBEq, Int.reduceLE, Int.reduceLT, Int.reduceEq, Int.reduceNe, Int.reduceAdd, Int.reduceSub, Int.reduceMul, Int.reduceNeg, Int.reduceToNat, Int.reduceNatCast, reduceCtorEq, eq_self]
        refine AEnd.ret0 ?_
        simp (implicitDefEqProofs := false) only [↓reduceIte, go_sem, oread, owrite, Nat.reduceAdd, Nat.reduceSub, Nat.reduceMul, Nat.reduceLT, Nat.reduceLeDiff, Nat.reduceEqDiff, Nat.reduceBEq, Int.reduceLE, Int.reduceLT, Int.reduceEq, Int.reduceNe, Int.reduceAdd, Int.reduceSub, Int.reduceMul, Int.reduceNeg, Int.reduceToNat, Int.reduceNatCast, reduceCtorEq, eq_self, show ¬ l = m from fun g => hxy (e3 g)]
    · rintro s H' ⟨rfl, hp, h0, h1, h5⟩
      simp (implicitDefEqProofs := false) only [↓reduceIte, go_sem, oread, owrite, Nat.reduceAdd, Nat.reduceSub, Nat.reduceMul, Nat.reduceLT, Nat.reduceLeDiff, Nat.reduceEqDiff, Nat.reduceBEq, Int.reduceLE, Int.reduceLT, Int.reduceEq, Int.reduceNe, Int.reduceAdd, Int.reduceSub, Int.reduceMul, Int.reduceNeg, Int.reduceToNat, Int.reduceNatCast, reduceCtorEq, eq_self, h0, h1, h5]
      refine AEnd.ret0 ?_
      rw [List.take_length, hlm, List.take_length] at hp
      simp (implicitDefEqProofs := false) only [↓reduceIte, go_sem, oread, owrite, Nat.reduceAdd, Nat.reduceSub, Nat.reduceMul, Nat.reduceLT, Nat.reduceLeDiff, Nat.reduceEqDiff, Nat.reduceBEq, Int.reduceLE, Int.reduceLT, Int.reduceEq, Int.reduceNe, Int.reduceAdd, Int.reduceSub, Int.reduceMul, Int.reduceNeg, Int.reduceToNat, Int.reduceNatCast, reduceCtorEq, eq_self, hp]
  · simp (implicitDefEqProofs := false) only [↓reduceIte, go_sem, oread, owrite, Nat.reduceAdd, Nat.reduceSub, Nat.reduceMul, Nat.reduceLT, Nat.reduceLeDiff, Nat.reduceEqDiff, Nat.reduceBEq, Int.reduceLE, Int.reduceLT, Int.reduceEq, Int.reduceNe, Int.reduceAdd, Int.reduceSub, Int.reduceMul, Int.reduceNeg, Int.reduceToNat, Int.reduceNatCast, reduceCtorEq, eq_self, hlm, show ((l.length : Int) = (m.length : Int)) = False from eq_false (by omega)]
    refine AEnd.ret0 ?_
    simp (implicitDefEqProofs := false) only [↓reduceIte, go_sem, oread, owrite, Nat.reduceAdd, Nat.reduceSub, Nat.reduceMul, Nat.reduceLT, Nat.reduceLeDiff, Nat.reduceEqDiff, Nat.reduceBEq, Int.reduceLE, Int.reduceLT, Int.reduceEq, Int.reduceNe, Int.reduceAdd, Int.reduceSub, Int.reduceMul, Int.reduceNeg, Int.reduceToNat, Int.reduceNatCast, reduceCtorEq, eq_self, show ¬ l = m from fun g => hlm (by rw [g])]
end Go.Proofs.Ytfmmemboakdeiaa
namespace Go.Proofs.YtfmmemboakdeiaaAw
open Go.RowKit
set_option linter.unusedVariables false
theorem Weak.nilL {H0 : AHeap} (s : Nat → AV) (H : AHeap) (t : Nat) (h : s t = .d (.v (.slice none 0 0))) : Weak H0 s H (fun u => if u = t then .d (.list false []) else s u) H :=
  .imp _ _ _ fun φ N w u v hv => by
    by_cases hu : u = t
    · subst hu
      rw [if_pos rfl]
      rw [h] at hv
      exact Sub.ra .nil hv
    · rw [if_neg hu]; exact hv
end Go.Proofs.YtfmmemboakdeiaaAw
namespace Go.Proofs.Ytfmmemboakdeiaa
open Go.Proofs.YtfmmemboakdeiaaAw Go.RowKit
set_option linter.unusedVariables false
set_option linter.unusedSimpArgs false
theorem vals3 (l : List Val) : (∀ c ∈ l.map Val.enc, c.length = 3) = True := eq_true fun c hc => by obtain ⟨a, _, rfl⟩ := List.mem_map.1 hc; rfl
set_option maxRecDepth 10000 in
set_option maxHeartbeats 2000000 in
theorem words09_does (l : List Val) (nn : Bool) (hl : l.length ≤ 1000000000) (hs : ∀ k ∈ l, k.s.size ≤ 9223372036854775807) (H : AHeap) :
    Does Try.prog 38 [.d (.list nn (l.map Val.enc))] H (.ok (.d (.list false ((wordsP cmpV l).map Val.enc)))) H := by
  refine Does.of_awp (hint := (fun t => t == 35)) Try.func38 (by kernel_rfl) rfl [2] (by kernel_rfl) (by decide) (by simp [Try.ntmps38]) ?_
  rw [Try.ntmps38]
  simp (implicitDefEqProofs := false) only [↓reduceIte, go_sem, oread, owrite, Nat.reduceAdd, Nat.reduceSub, Nat.reduceMul, Nat.reduceLT, Nat.reduceLeDiff, Nat.reduceEqDiff, Nat.reduceBEq, Int.reduceLE, Int.reduceLT, Int.reduceEq, Int.reduceNe, Int.reduceAdd, Int.reduceSub, Int.reduceMul, Int.reduceNeg, Int.reduceToNat, Int.reduceNatCast, reduceCtorEq, eq_self]
  rw [← wordsR_eq]
  refine awp_for3 (fun k s H' => H' = H ∧ s 0 = .d (.list nn (l.map Val.enc)) ∧ s 3 = .d (.list false ((wordsR (l.take k)).map Val.enc)) ∧ s 4 = iA k) l.length (by omega) (Weak.nilL _ _ 3 (by simp (implicitDefEqProofs := false) only [↓reduceIte, go_sem, oread, owrite, Nat.reduceAdd, Nat.reduceSub, Nat.reduceMul, Nat.reduceLT, Nat.reduceLeDiff, Nat.reduceEqDiff, Nat.reduceBEq, Int.reduceLE, Int.reduceLT, Int.reduceEq, Int.reduceNe, Int.reduceAdd, Int.reduceSub, Int.reduceMul, Int.reduceNeg, Int.reduceToNat, Int.reduceNatCast, reduceCtorEq, eq_self])) ?_ ?_ ?_
  · refine ⟨rfl, ?_⟩
    simp (implicitDefEqProofs := false) only [↓reduceIte, go_sem, oread, owrite, Nat.reduceAdd, Nat.reduceSub, Nat.reduceMul, Nat.reduceLT, Nat.reduceLeDiff, Nat.reduceEqDiff, Nat.reduceBEq, Int.reduceLE, Int.reduceLT, Int.reduceEq, Int.reduceNe, Int.reduceAdd, Int.reduceSub, Int.reduceMul, Int.reduceNeg, Int.reduceToNat, Int.reduceNatCast, reduceCtorEq, eq_self]
    rfl
  · rintro k s H' hk hw ⟨rfl, t0, t3, t4⟩
    have hx := List.getElem?_eq_getElem hk
    have e1 := wordsR_snoc (l.take k) l[k]
    rw [← List.take_succ_eq_append_getElem hk] at e1
    have hle := wordsR_len (l.take k)
    have hle2 := wordsR_len (l.take (k + 1))
    rw [List.length_take] at hle hle2
    have hxs := hs _ (List.getElem_mem hk)
    have hWs : ∀ w ∈ wordsR (l.take k), w.s.size ≤ 9223372036854775807 := fun w hw => hs w (List.mem_of_mem_take (wordsR_mem hw))
    rw [e1] at hle2 ⊢
    generalize wordsR (l.take k) = W at *
    generalize l[k] = x at *
    have hb := belowP_le W x
    have e2 : insW W x = match W[belowP W x]? with | some w => if cmpV w x = 0 then W else W.take (belowP W x) ++ x :: W.drop (belowP W x) | none => W.take (belowP W x) ++ x :: W.drop (belowP W x) := rfl
    have hbd := below09_does W x false H' (by omega) hWs
    generalize belowP W x = a at *
    simp (implicitDefEqProofs := false) only [↓reduceIte, go_sem, oread, owrite, Nat.reduceAdd, Nat.reduceSub, Nat.reduceMul, Nat.reduceLT, Nat.reduceLeDiff, Nat.reduceEqDiff, Nat.reduceBEq, Int.reduceLE, Int.reduceLT, Int.reduceEq, Int.reduceNe, Int.reduceAdd, Int.reduceSub, Int.reduceMul, Int.reduceNeg, Int.reduceToNat, Int.reduceNatCast, reduceCtorEq, eq_self, t0, t3, t4, hk, List.length_map, hx, Val.enc]
    refine KCall.ok hbd ?_
    simp (implicitDefEqProofs := false) only [↓reduceIte, go_sem, oread, owrite, Nat.reduceAdd, Nat.reduceSub, Nat.reduceMul, Nat.reduceLT, Nat.reduceLeDiff, Nat.reduceEqDiff, Nat.reduceBEq, Int.reduceLE, Int.reduceLT, Int.reduceEq, Int.reduceNe, Int.reduceAdd, Int.reduceSub, Int.reduceMul, Int.reduceNeg, Int.reduceToNat, Int.reduceNatCast, reduceCtorEq, eq_self]
    obtain ⟨P, hP⟩ : ∃ P, P = W.take a := ⟨_, rfl⟩
    obtain ⟨Q, hQ⟩ : ∃ Q, Q = W.drop a := ⟨_, rfl⟩
    have hPl : P.length = a := by rw [hP, List.length_take]; omega
    have hQl : Q.length = W.length - a := by rw [hQ, List.length_drop]
    have f1 : List.take a (List.map Val.enc W) = P.map Val.enc := by rw [hP, List.map_take]
    have f2 : List.take W.length (List.map Val.enc W) = List.map Val.enc W := List.take_of_length_le (by simp)
    have f3 : List.drop a (List.map Val.enc W) = Q.map Val.enc := by rw [hQ, List.map_drop]
    have f4 : P.map Val.enc ++ [D.v (.int .i64 x.kind), D.v (.int .i64 x.i), D.v (.string x.s)] :: Q.map Val.enc = (P ++ x :: Q).map Val.enc := by simp [Val.enc]
    have f5 : ((P ++ x :: Q).map Val.enc).take (a + 1 + Q.length) = (P ++ x :: Q).map Val.enc := List.take_of_length_le (by simp; omega)
    rw [← hP, ← hQ] at e2
    by_cases ha : a < W.length
    · have hy := List.getElem?_eq_getElem ha
      have hys := hWs _ (List.getElem_mem ha)
      rw [hy] at e2
      generalize W[a] = y at *
      refine awp_draw K.mixed (by kernel_rfl) ?_
      simp (implicitDefEqProofs := false) only [↓reduceIte, go_sem, oread, owrite, Nat.reduceAdd, Nat.reduceSub, Nat.reduceMul, Nat.reduceLT, Nat.reduceLeDiff, Nat.reduceEqDiff, Nat.reduceBEq, Int.reduceLE, Int.reduceLT, Int.reduceEq, Int.reduceNe, Int.reduceAdd, Int.reduceSub, Int.reduceMul, Int.reduceNeg, Int.reduceToNat, Int.reduceNatCast, reduceCtorEq, eq_self, t0, t3, t4, hk, List.length_map, hx, Val.enc, ha, hy]
      refine KCall.ok (vcmp05_does y x hys _) ?_
      by_cases hc : cmpV y x = 0
      · simp only [hc, if_true] at e2
        simp (implicitDefEqProofs := false) only [↓reduceIte, go_sem, oread, owrite, Nat.reduceAdd, Nat.reduceSub, Nat.reduceMul, Nat.reduceLT, Nat.reduceLeDiff, Nat.reduceEqDiff, Nat.reduceBEq, Int.reduceLE, Int.reduceLT, Int.reduceEq, Int.reduceNe, Int.reduceAdd, Int.reduceSub, Int.reduceMul, Int.reduceNeg, Int.reduceToNat, Int.reduceNatCast, reduceCtorEq, eq_self, hc, t4]
        refine Rnd.same ⟨rfl, ?_⟩
        simp (implicitDefEqProofs := false) only [↓reduceIte, go_sem, oread, owrite, Nat.reduceAdd, Nat.reduceSub, Nat.reduceMul, Nat.reduceLT, Nat.reduceLeDiff, Nat.reduceEqDiff, Nat.reduceBEq, Int.reduceLE, Int.reduceLT, Int.reduceEq, Int.reduceNe, Int.reduceAdd, Int.reduceSub, Int.reduceMul, Int.reduceNeg, Int.reduceToNat, Int.reduceNatCast, reduceCtorEq, eq_self, t0, t3, hw, e2]
      · simp only [hc, if_false] at e2
        simp (implicitDefEqProofs := false) only [↓reduceIte, go_sem, oread, owrite, Nat.reduceAdd, Nat.reduceSub, Nat.reduceMul, Nat.reduceLT, Nat.reduceLeDiff, Nat.reduceEqDiff, Nat.reduceBEq, Int.reduceLE, Int.reduceLT, Int.reduceEq, Int.reduceNe, Int.reduceAdd, Int.reduceSub, Int.reduceMul, Int.reduceNeg, Int.reduceToNat, Int.reduceNatCast, reduceCtorEq, eq_self, hc]
        simp (implicitDefEqProofs := false) only [↓reduceIte, go_sem, oread, owrite, Nat.reduceAdd, Nat.reduceSub, Nat.reduceMul, Nat.reduceLT, Nat.reduceLeDiff, Nat.reduceEqDiff, Nat.reduceBEq, Int.reduceLE, Int.reduceLT, Int.reduceEq, Int.reduceNe, Int.reduceAdd, Int.reduceSub, Int.reduceMul, Int.reduceNeg, Int.reduceToNat, Int.reduceNatCast, reduceCtorEq, eq_self, t0, t3, t4, List.length_map, vals3, hb, hk, hx, Val.enc, f1, f2, f3, hPl]
        refine ⟨by omega, by omega, by omega, by omega, by omega, by omega, ?_⟩
        refine Rnd.cut [] _ 0 rfl rfl (by simp (implicitDefEqProofs := false) only [↓reduceIte, go_sem, oread, owrite, Nat.reduceAdd, Nat.reduceSub, Nat.reduceMul, Nat.reduceLT, Nat.reduceLeDiff, Nat.reduceEqDiff, Nat.reduceBEq, Int.reduceLE, Int.reduceLT, Int.reduceEq, Int.reduceNe, Int.reduceAdd, Int.reduceSub, Int.reduceMul, Int.reduceNeg, Int.reduceToNat, Int.reduceNatCast, reduceCtorEq, eq_self]) ?_
        refine ⟨List.append_nil _, ?_⟩
        simp (implicitDefEqProofs := false) only [↓reduceIte, go_sem, oread, owrite, Nat.reduceAdd, Nat.reduceSub, Nat.reduceMul, Nat.reduceLT, Nat.reduceLeDiff, Nat.reduceEqDiff, Nat.reduceBEq, Int.reduceLE, Int.reduceLT, Int.reduceEq, Int.reduceNe, Int.reduceAdd, Int.reduceSub, Int.reduceMul, Int.reduceNeg, Int.reduceToNat, Int.reduceNatCast, reduceCtorEq, eq_self, t0, hw, e2, f4, f5]
    · rw [List.getElem?_eq_none (by omega)] at e2
      simp only at e2
      refine awp_draw K.mixed (by kernel_rfl) ?_
      simp (implicitDefEqProofs := false) only [↓reduceIte, go_sem, oread, owrite, Nat.reduceAdd, Nat.reduceSub, Nat.reduceMul, Nat.reduceLT, Nat.reduceLeDiff, Nat.reduceEqDiff, Nat.reduceBEq, Int.reduceLE, Int.reduceLT, Int.reduceEq, Int.reduceNe, Int.reduceAdd, Int.reduceSub, Int.reduceMul, Int.reduceNeg, Int.reduceToNat, Int.reduceNatCast, reduceCtorEq, eq_self, t0, t3, t4, hk, List.length_map, ha]
      simp (implicitDefEqProofs := false) only [↓reduceIte, go_sem, oread, owrite, Nat.reduceAdd, Nat.reduceSub, Nat.reduceMul, Nat.reduceLT, Nat.reduceLeDiff, Nat.reduceEqDiff, Nat.reduceBEq, Int.reduceLE, Int.reduceLT, Int.reduceEq, Int.reduceNe, Int.reduceAdd, Int.reduceSub, Int.reduceMul, Int.reduceNeg, Int.reduceToNat, Int.reduceNatCast, reduceCtorEq, eq_self, t0, t3, t4, List.length_map, vals3, hb, hk, hx, Val.enc, f1, f2, f3, hPl]
      refine ⟨by omega, by omega, by omega, by omega, by omega, by omega, ?_⟩
      refine Rnd.cut [] _ 0 rfl rfl (by simp (implicitDefEqProofs := false) only [↓reduceIte, go_sem, oread, owrite, Nat.reduceAdd, Nat.reduceSub, Nat.reduceMul, Nat.reduceLT, Nat.reduceLeDiff, Nat.reduceEqDiff, Nat.reduceBEq, Int.reduceLE, Int.reduceLT, Int.reduceEq, Int.reduceNe, Int.reduceAdd, Int.reduceSub, Int.reduceMul, Int.reduceNeg, Int.reduceToNat, Int.reduceNatCast, reduceCtorEq, eq_self]) ?_
      refine ⟨List.append_nil _, ?_⟩
      simp (implicitDefEqProofs := false) only [↓reduceIte, go_sem, oread, owrite, Nat.reduceAdd, Nat.reduceSub, Nat.reduceMul, Nat.reduceLT, Nat.reduceLeDiff, Nat.reduceEqDiff, Nat.reduceBEq, Int.reduceLE, Int.reduceLT, Int.reduceEq, Int.reduceNe, Int.reduceAdd, Int.reduceSub, Int.reduceMul, Int.reduceNeg, Int.reduceToNat, Int.reduceNatCast, reduceCtorEq, eq_self, t0, hw, e2, f4, f5]
  · rintro s H' ⟨rfl, t0, t3, t4⟩
    rw [show l.take l.length = l from List.take_length] at t3
    simp (implicitDefEqProofs := false) only [↓reduceIte, go_sem, oread, owrite, Nat.reduceAdd, Nat.reduceSub, Nat.reduceMul, Nat.reduceLT, Nat.reduceLeDiff, Nat.reduceEqDiff, Nat.reduceBEq, Int.reduceLE, Int.reduceLT, Int.reduceEq, Int.reduceNe, Int.reduceAdd, Int.reduceSub, Int.reduceMul, Int.reduceNeg, Int.reduceToNat, Int.reduceNatCast, reduceCtorEq, eq_self, t0, t3, t4, List.length_map]
    refine AEnd.ret0 ?_
    simp (implicitDefEqProofs := false) only [↓reduceIte, go_sem, oread, owrite, Nat.reduceAdd, Nat.reduceSub, Nat.reduceMul, Nat.reduceLT, Nat.reduceLeDiff, Nat.reduceEqDiff, Nat.reduceBEq, Int.reduceLE, Int.reduceLT, Int.reduceEq, Int.reduceNe, Int.reduceAdd, Int.reduceSub, Int.reduceMul, Int.reduceNeg, Int.reduceToNat, Int.reduceNatCast, reduceCtorEq, eq_self]
set_option maxRecDepth 10000 in
theorem at16_does (r : List Val) (c : Int) (nn : Bool) (hl : r.length ≤ 9223372036854775807) (H : AHeap) : Does Try.prog 37 [.d (.list nn (r.map Val.enc)), iA c] H (.ok (atP r c).av) H := by
  refine Does.of_awpC (hint := fun _ => false) Try.func37 (by kernel_rfl) rfl [.cell 4 26] (by kernel_rfl) (by simp [Try.ntmps37]) ?_
  rw [Try.ntmps37]
  by_cases h1 : c < 0
  · simp (implicitDefEqProofs := false) only [↓reduceIte, go_sem, oread, owrite, Nat.reduceAdd, Nat.reduceSub, Nat.reduceMul, Nat.reduceLT, Nat.reduceLeDiff, Nat.reduceEqDiff, Nat.reduceBEq, Int.reduceLE, Int.reduceLT, Int.reduceEq, Int.reduceNe, Int.reduceAdd, Int.reduceSub, Int.reduceMul, Int.reduceNeg, Int.reduceToNat, Int.reduceNatCast, reduceCtorEq, eq_self, h1]
    refine AEndC.ret ?_
    simp (implicitDefEqProofs := false) only [↓reduceIte, go_sem, oread, owrite, Nat.reduceAdd, Nat.reduceSub, Nat.reduceMul, Nat.reduceLT, Nat.reduceLeDiff, Nat.reduceEqDiff, Nat.reduceBEq, Int.reduceLE, Int.reduceLT, Int.reduceEq, Int.reduceNe, Int.reduceAdd, Int.reduceSub, Int.reduceMul, Int.reduceNeg, Int.reduceToNat, Int.reduceNatCast, reduceCtorEq, eq_self, resAll, resAV]
    simp [atP, h1, noS]
  · obtain ⟨n, rfl⟩ := Int.eq_ofNat_of_zero_le (show 0 ≤ c by omega)
    by_cases h2 : n < r.length
    · have h2' : ((r.length : Int) ≤ (n : Int)) = False := eq_false (by omega)
      have h3 : ((n : Int) < 0) = False := eq_false (by omega)
      have hx := List.getElem?_eq_getElem h2
      have ha : atP r (n : Int) = r[n] := by simp [atP, List.getD, hx]; intro h; omega
      rw [ha]
      generalize r[n] = v at hx
      simp (implicitDefEqProofs := false) only [↓reduceIte, go_sem, oread, owrite, Nat.reduceAdd, Nat.reduceSub, Nat.reduceMul, Nat.reduceLT, Nat.reduceLeDiff, Nat.reduceEqDiff, Nat.reduceBEq, Int.reduceLE, Int.reduceLT, Int.reduceEq, Int.reduceNe, Int.reduceAdd, Int.reduceSub, Int.reduceMul, Int.reduceNeg, Int.reduceToNat, Int.reduceNatCast, reduceCtorEq, eq_self, h3, h2', List.length_map, hx, h2, Val.enc]
      refine AEndC.ret ?_
      simp (implicitDefEqProofs := false) only [↓reduceIte, go_sem, oread, owrite, Nat.reduceAdd, Nat.reduceSub, Nat.reduceMul, Nat.reduceLT, Nat.reduceLeDiff, Nat.reduceEqDiff, Nat.reduceBEq, Int.reduceLE, Int.reduceLT, Int.reduceEq, Int.reduceNe, Int.reduceAdd, Int.reduceSub, Int.reduceMul, Int.reduceNeg, Int.reduceToNat, Int.reduceNatCast, reduceCtorEq, eq_self, resAll, resAV]
    · have h2' : ((r.length : Int) ≤ (n : Int)) = True := eq_true (by omega)
      have h3 : ((n : Int) < 0) = False := eq_false (by omega)
      simp (implicitDefEqProofs := false) only [↓reduceIte, go_sem, oread, owrite, Nat.reduceAdd, Nat.reduceSub, Nat.reduceMul, Nat.reduceLT, Nat.reduceLeDiff, Nat.reduceEqDiff, Nat.reduceBEq, Int.reduceLE, Int.reduceLT, Int.reduceEq, Int.reduceNe, Int.reduceAdd, Int.reduceSub, Int.reduceMul, Int.reduceNeg, Int.reduceToNat, Int.reduceNatCast, reduceCtorEq, eq_self, h3, h2', List.length_map]
      refine AEndC.ret ?_
      simp (implicitDefEqProofs := false) only [↓reduceIte, go_sem, oread, owrite, Nat.reduceAdd, Nat.reduceSub, Nat.reduceMul, Nat.reduceLT, Nat.reduceLeDiff, Nat.reduceEqDiff, Nat.reduceBEq, Int.reduceLE, Int.reduceLT, Int.reduceEq, Int.reduceNe, Int.reduceAdd, Int.reduceSub, Int.reduceMul, Int.reduceNeg, Int.reduceToNat, Int.reduceNatCast, reduceCtorEq, eq_self, resAll, resAV]
      have : r[n]? = none := List.getElem?_eq_none (by omega)
      simp [atP, this, noS]
set_option maxRecDepth 10000 in
set_option maxHeartbeats 1000000 in
theorem lists05_does (R S : List (List Val)) (n1 n2 : Bool) (H : AHeap) (hR : R.length ≤ 1000000000000) (hr : ∀ r ∈ R, r.length ≤ 1000000000000) :
    Does Try.prog 20 [.d (.list n1 (rowsD R)), .d (.list n2 (rowsD S))] H (.ok (bA (decide (R = S)))) H := by
  refine Does.of_awp (hint := (fun _ => false)) Try.func20 (by kernel_rfl) rfl [4] (by kernel_rfl) (by decide) (by simp [Try.ntmps20]) ?_
  rw [Try.ntmps20]
  by_cases hl : R.length = S.length
  · simp (implicitDefEqProofs := false) only [↓reduceIte, go_sem, oread, owrite, Nat.reduceAdd, Nat.reduceSub, Nat.reduceMul, Nat.reduceLT, Nat.reduceLeDiff, Nat.reduceEqDiff, Nat.reduceBEq, Int.reduceLE, Int.reduceLT, Int.reduceEq, Int.reduceNe, Int.reduceAdd, Int.reduceSub, Int.reduceMul, Int.reduceNeg, Int.reduceToNat, Int.reduceNatCast, reduceCtorEq, eq_self, rowsD_len, hl]
    refine awp_for3 (fun k s H' => H' = H ∧ R.take k = S.take k ∧ s 0 = .d (.list n1 (rowsD R)) ∧ s 1 = .d (.list n2 (rowsD S)) ∧ s 5 = iA k) R.length (by omega) (Weak.refl _ _) ?_ ?_ ?_
    · refine ⟨rfl, rfl, ?_⟩
      simp (implicitDefEqProofs := false) only [↓reduceIte, go_sem, oread, owrite, Nat.reduceAdd, Nat.reduceSub, Nat.reduceMul, Nat.reduceLT, Nat.reduceLeDiff, Nat.reduceEqDiff, Nat.reduceBEq, Int.reduceLE, Int.reduceLT, Int.reduceEq, Int.reduceNe, Int.reduceAdd, Int.reduceSub, Int.reduceMul, Int.reduceNeg, Int.reduceToNat, Int.reduceNatCast, reduceCtorEq, eq_self]
    · rintro k s H' hk hw ⟨rfl, he, t0, t1, t5⟩
      have hk2 : k < S.length := by omega
      have hx := rowsD_get R k hk
      have hy := rowsD_get S k hk2
      have hrl := hr _ (List.getElem_mem hk)
      have e1 : R[k] = S[k] → R.take (k + 1) = S.take (k + 1) := fun h => by rw [List.take_succ_eq_append_getElem hk, List.take_succ_eq_append_getElem hk2, he, h]
      have e2 : R[k] ≠ S[k] → R ≠ S := fun h h2 => h (by subst h2; rfl)
      generalize R[k] = x at *
      generalize S[k] = y at *
      simp (implicitDefEqProofs := false) only [↓reduceIte, go_sem, oread, owrite, Nat.reduceAdd, Nat.reduceSub, Nat.reduceMul, Nat.reduceLT, Nat.reduceLeDiff, Nat.reduceEqDiff, Nat.reduceBEq, Int.reduceLE, Int.reduceLT, Int.reduceEq, Int.reduceNe, Int.reduceAdd, Int.reduceSub, Int.reduceMul, Int.reduceNeg, Int.reduceToNat, Int.reduceNatCast, reduceCtorEq, eq_self, t0, t1, t5, rowsD_len, hk]
      refine awp_draw K.mixed (by kernel_rfl) ?_
      simp (implicitDefEqProofs := false) only [↓reduceIte, go_sem, oread, owrite, Nat.reduceAdd, Nat.reduceSub, Nat.reduceMul, Nat.reduceLT, Nat.reduceLeDiff, Nat.reduceEqDiff, Nat.reduceBEq, Int.reduceLE, Int.reduceLT, Int.reduceEq, Int.reduceNe, Int.reduceAdd, Int.reduceSub, Int.reduceMul, Int.reduceNeg, Int.reduceToNat, Int.reduceNatCast, reduceCtorEq, eq_self, t0, t1, t5, rowsD_len, hk, hk2, hx, hy]
      refine KCall.ok (same05_does x y false false _ hrl) ?_
      by_cases hxy : x = y
      · simp (implicitDefEqProofs := false) only [↓reduceIte, go_sem, oread, owrite, Nat.reduceAdd, Nat.reduceSub, Nat.reduceMul, Nat.reduceLT, Nat.reduceLeDiff, Nat.reduceEqDiff, Nat.reduceBEq, Int.reduceLE, Int.reduceLT, Int.reduceEq, Int.reduceNe, Int.reduceAdd, Int.reduceSub, Int.reduceMul, Int.reduceNeg, Int.reduceToNat, Int.reduceNatCast, reduceCtorEq, eq_self, hxy, t5]
        refine Rnd.same ⟨rfl, e1 hxy, ?_⟩
        simp (implicitDefEqProofs := false) only [↓reduceIte, go_sem, oread, owrite, Nat.reduceAdd, Nat.reduceSub, Nat.reduceMul, Nat.reduceLT, Nat.reduceLeDiff, Nat.reduceEqDiff, Nat.reduceBEq, Int.reduceLE, Int.reduceLT, Int.reduceEq, Int.reduceNe, Int.reduceAdd, Int.reduceSub, Int.reduceMul, Int.reduceNeg, Int.reduceToNat, Int.reduceNatCast, reduceCtorEq, eq_self, t0, t1, hw]
      · simp (implicitDefEqProofs := false) only [↓reduceIte, go_sem, oread, owrite, Nat.reduceAdd, Nat.reduceSub, Nat.reduceMul, Nat.reduceLT, Nat.reduceLeDiff, Nat.reduceEqDiff, Nat.reduceBEq, Int.reduceLE, Int.reduceLT, Int.reduceEq, Int.reduceNe, Int.reduceAdd, Int.reduceSub, Int.reduceMul, Int.reduceNeg, Int.reduceToNat, Int.reduceNatCast, reduceCtorEq, eq_self, hxy]
        refine AEnd.ret0 ?_
        simp (implicitDefEqProofs := false) only [↓reduceIte, go_sem, oread, owrite, Nat.reduceAdd, Nat.reduceSub, Nat.reduceMul, Nat.reduceLT, Nat.reduceLeDiff, Nat.reduceEqDiff, Nat.reduceBEq, Int.reduceLE, Int.reduceLT, Int.reduceEq, Int.reduceNe, Int.reduceAdd, Int.reduceSub, Int.reduceMul, Int.reduceNeg, Int.reduceToNat, Int.reduceNatCast, reduceCtorEq, eq_self, e2 hxy]
    · rintro s H' ⟨rfl, he, t0, t1, t5⟩
      rw [List.take_length, hl, List.take_length] at he
      simp (implicitDefEqProofs := false) only [↓reduceIte, go_sem, oread, owrite, Nat.reduceAdd, Nat.reduceSub, Nat.reduceMul, Nat.reduceLT, Nat.reduceLeDiff, Nat.reduceEqDiff, Nat.reduceBEq, Int.reduceLE, Int.reduceLT, Int.reduceEq, Int.reduceNe, Int.reduceAdd, Int.reduceSub, Int.reduceMul, Int.reduceNeg, Int.reduceToNat, Int.reduceNatCast, reduceCtorEq, eq_self, t0, t5, rowsD_len]
      refine AEnd.ret0 ?_
      simp (implicitDefEqProofs := false) only [↓reduceIte, go_sem, oread, owrite, Nat.reduceAdd, Nat.reduceSub, Nat.reduceMul, Nat.reduceLT, Nat.reduceLeDiff, Nat.reduceEqDiff, Nat.reduceBEq, Int.reduceLE, Int.reduceLT, Int.reduceEq, Int.reduceNe, Int.reduceAdd, Int.reduceSub, Int.reduceMul, Int.reduceNeg, Int.reduceToNat, Int.reduceNatCast, reduceCtorEq, eq_self, he]
  · have hne : R ≠ S := fun h => hl (by rw [h])
    simp (implicitDefEqProofs := false) only [↓reduceIte, go_sem, oread, owrite, Nat.reduceAdd, Nat.reduceSub, Nat.reduceMul, Nat.reduceLT, Nat.reduceLeDiff, Nat.reduceEqDiff, Nat.reduceBEq, Int.reduceLE, Int.reduceLT, Int.reduceEq, Int.reduceNe, Int.reduceAdd, Int.reduceSub, Int.reduceMul, Int.reduceNeg, Int.reduceToNat, Int.reduceNatCast, reduceCtorEq, eq_self, rowsD_len, show ((R.length : Int) = (S.length : Int)) = False from eq_false (by omega)]
    refine AEnd.ret0 ?_
    simp (implicitDefEqProofs := false) only [↓reduceIte, go_sem, oread, owrite, Nat.reduceAdd, Nat.reduceSub, Nat.reduceMul, Nat.reduceLT, Nat.reduceLeDiff, Nat.reduceEqDiff, Nat.reduceBEq, Int.reduceLE, Int.reduceLT, Int.reduceEq, Int.reduceNe, Int.reduceAdd, Int.reduceSub, Int.reduceMul, Int.reduceNeg, Int.reduceToNat, Int.reduceNatCast, reduceCtorEq, eq_self, hne]
end Go.Proofs.Ytfmmemboakdeiaa
namespace Go.Proofs.Ytfmmemboakdeiaa
open Go.Proofs.YtfmmemboakdeiaaAw Go.RowKit
set_option linter.unusedVariables false
set_option linter.unusedSimpArgs false
namespace SV
/-- The heap in which an array has these elements. -/
def aH (H : AHeap) (id ver : Nat) (L : List Val) : AHeap := H.set id (.arr 26 3 ver (L.map Val.enc))
theorem aH_get {H : AHeap} {id : Nat} (h : id < H.length) (ver : Nat) (L : List Val) : (aH H id ver L)[id]? = some (.arr 26 3 ver (L.map Val.enc)) := by simp [aH, h]
theorem aH_set (H : AHeap) (id ver : Nat) (L : List Val) (v : Nat) (es : List (List D)) : (aH H id ver L).set id (.arr 26 3 v es) = H.set id (.arr 26 3 v es) := by simp [aH]
theorem aH_fold (H : AHeap) (id ver : Nat) (L : List Val) : H.set id (.arr 26 3 ver (L.map Val.enc)) = aH H id ver L := rfl
theorem get_enc {L : List Val} {i : Nat} {x : Val} (h : L[i]? = some x) : (L.map Val.enc)[i]? = some x.enc := by simp [h]
theorem set_enc (L : List Val) (i : Nat) (x : Val) : (L.map Val.enc).set i x.enc = (L.set i x).map Val.enc := by simp [List.map_set]
theorem get_at {A B : List Val} {x : Val} {n : Nat} (h : A.length = n) : (A ++ x :: B)[n]? = some x := by subst h; simp
theorem set_at {A B : List Val} {x y : Val} {n : Nat} (h : A.length = n) : (A ++ x :: B).set n y = A ++ y :: B := by subst h; simp
def swL (P X M Y Q : List Val) (k : Nat) : List Val := P ++ Y.take k ++ (X.drop k ++ M ++ X.take k ++ (Y.drop k ++ Q))
theorem swL_zero (P X M Y Q : List Val) : swL P X M Y Q 0 = P ++ X ++ M ++ Y ++ Q := by simp [swL]
theorem swL_end (P X M Y Q : List Val) (n : Nat) (h1 : X.length = n) (h2 : Y.length = n) : swL P X M Y Q n = P ++ Y ++ M ++ X ++ Q := by
  unfold swL
  rw [List.take_of_length_le (by omega), List.drop_of_length_le (by omega), List.take_of_length_le (by omega), List.drop_of_length_le (by omega)]
  simp
theorem swL_len (P X M Y Q : List Val) (k : Nat) (hk : k ≤ X.length) (h : X.length = Y.length) : (swL P X M Y Q k).length = P.length + X.length + M.length + Y.length + Q.length := by
  simp [swL]; omega
theorem swL_step (P X M Y Q : List Val) (k : Nat) (hk : k < X.length) (h : X.length = Y.length) : ∃ x y, (swL P X M Y Q k)[P.length + k]? = some x ∧ (swL P X M Y Q k)[P.length + X.length + M.length + k]? = some y ∧
    ((swL P X M Y Q k).set (P.length + k) y).set (P.length + X.length + M.length + k) x = swL P X M Y Q (k + 1) := by
  have hk2 : k < Y.length := by omega
  have e1 : X.drop k = X[k] :: X.drop (k + 1) := List.drop_eq_getElem_cons hk
  have e2 : Y.drop k = Y[k] :: Y.drop (k + 1) := List.drop_eq_getElem_cons hk2
  have e3 : X.take (k + 1) = X.take k ++ [X[k]] := List.take_succ_eq_append_getElem hk
  have e4 : Y.take (k + 1) = Y.take k ++ [Y[k]] := List.take_succ_eq_append_getElem hk2
  have l1 : (P ++ Y.take k).length = P.length + k := by simp; omega
  have l2 : (X.drop (k + 1)).length = X.length - (k + 1) := by simp
  have l3 : (X.take k).length = k := by simp; omega
  unfold swL
  rw [e1, e2, e3, e4]
  generalize X[k] = x
  generalize Y[k] = y
  generalize X.drop (k + 1) = X1 at *
  generalize Y.drop (k + 1) = Y1 at *
  generalize X.take k = X0 at *
  generalize Y.take k = Y0 at *
  have a1 : P ++ Y0 ++ (x :: X1 ++ M ++ X0 ++ (y :: Y1 ++ Q)) = (P ++ Y0) ++ x :: (X1 ++ M ++ X0 ++ (y :: Y1 ++ Q)) := by simp
  have a2 : P ++ Y0 ++ (x :: X1 ++ M ++ X0 ++ (y :: Y1 ++ Q)) = (P ++ Y0 ++ x :: X1 ++ M ++ X0) ++ y :: (Y1 ++ Q) := by simp
  have a3 : (P ++ Y0) ++ y :: (X1 ++ M ++ X0 ++ (y :: Y1 ++ Q)) = (P ++ Y0 ++ y :: X1 ++ M ++ X0) ++ y :: (Y1 ++ Q) := by simp
  refine ⟨x, y, ?_, ?_, ?_⟩
  · rw [a1]; exact get_at l1
  · rw [a2]
    refine get_at ?_
    simp only [List.length_append, List.length_cons, l2, l3] at *
    omega
  · rw [a1, set_at l1, a3, set_at (by simp only [List.length_append, List.length_cons, l2, l3] at *; omega)]
    simp
set_option maxRecDepth 10000 in
set_option maxHeartbeats 1000000 in
theorem swapRange_does (H : AHeap) (id ver : Nat) (hid : id < H.length) (g : FuncId) (caps : List AV) (P X M Y Q : List Val) (a b n m : Nat) (ha : P.length = a) (hn : X.length = n) (hy : Y.length = n) (hb : P.length + X.length + M.length = b)
    (hm : (P ++ X ++ M ++ Y ++ Q).length = m) (hbig : m ≤ 1000000000000) :
    Does Try.prog 75 [.sl id ver 0 m, iA a, iA b, iA n, .fn g caps] (aH H id ver (P ++ X ++ M ++ Y ++ Q)) (.ok (.tup [])) (aH H id ver (P ++ Y ++ M ++ X ++ Q)) := by
  have hml : P.length + X.length + M.length + Y.length + Q.length = m := by rw [← hm]; simp; omega
  generalize hE : aH H id ver (P ++ Y ++ M ++ X ++ Q) = E
  generalize hE0 : aH H id ver (P ++ X ++ M ++ Y ++ Q) = E0
  refine Does.of_awp (hint := (fun _ => false)) Try.func75 (by kernel_rfl) rfl [] (by kernel_rfl) (by decide) (by simp [Try.ntmps75]) ?_
  rw [Try.ntmps75]
  simp (implicitDefEqProofs := false) only [↓reduceIte, go_sem, oread, owrite, Nat.reduceAdd, Nat.reduceSub, Nat.reduceMul, Nat.reduceLT, Nat.reduceLeDiff, Nat.reduceEqDiff, Nat.reduceBEq, Int.reduceLE, Int.reduceLT, Int.reduceEq, Int.reduceNe, Int.reduceAdd, Int.reduceSub, Int.reduceMul, Int.reduceNeg, Int.reduceToNat, Int.reduceNatCast, reduceCtorEq, eq_self]
  refine awp_for3 (fun k s H' => H' = aH H id ver (swL P X M Y Q k) ∧ s 0 = .sl id ver 0 m ∧ s 1 = iA a ∧ s 2 = iA b ∧ s 3 = iA n ∧ s 10 = iA k) n (by omega) (Weak.refl _ _) ?_ ?_ ?_
  · refine ⟨by rw [swL_zero, hE0], ?_⟩
    simp (implicitDefEqProofs := false) only [↓reduceIte, go_sem, oread, owrite, Nat.reduceAdd, Nat.reduceSub, Nat.reduceMul, Nat.reduceLT, Nat.reduceLeDiff, Nat.reduceEqDiff, Nat.reduceBEq, Int.reduceLE, Int.reduceLT, Int.reduceEq, Int.reduceNe, Int.reduceAdd, Int.reduceSub, Int.reduceMul, Int.reduceNeg, Int.reduceToNat, Int.reduceNatCast, reduceCtorEq, eq_self]
  · rintro k s H' hk hw ⟨rfl, t0, t1, t2, t3, t10⟩
    obtain ⟨x, y, hx, hy2, hst⟩ := swL_step P X M Y Q k (by omega) (by omega)
    rw [hb] at hy2 hst
    rw [ha] at hx hst
    obtain ⟨i, hi⟩ : ∃ i, i = a + k := ⟨_, rfl⟩
    obtain ⟨j, hj⟩ : ∃ j, j = b + k := ⟨_, rfl⟩
    have w1 : IntKind.i64.wrap ((a : Int) + (k : Int)) = (i : Int) := by rw [wrap64_in _ (by omega) (by omega)]; omega
    have w2 : IntKind.i64.wrap ((b : Int) + (k : Int)) = (j : Int) := by rw [wrap64_in _ (by omega) (by omega)]; omega
    rw [← hi] at hx hst
    rw [← hj] at hy2 hst
    have hil : i < m := by omega
    have hjl : j < m := by omega
    generalize swL P X M Y Q k = L at *
    generalize swL P X M Y Q (k + 1) = L' at *
    have gx := get_enc hx
    have gy := get_enc hy2
    have gh := aH_get hid ver L
    have s1 := set_enc L i y
    have s2 := set_enc (L.set i y) j x
    rw [hst] at s2
    have gy2 : ((L.set i y).map Val.enc)[j]? = some y.enc := by
      refine get_enc ?_
      rw [List.getElem?_set]
      by_cases hij : i = j
      · omega
      · rw [if_neg hij]; exact hy2
    simp only [Val.enc] at gx gy gy2 s1 s2
    simp (implicitDefEqProofs := false) only [↓reduceIte, go_sem, oread, owrite, Nat.reduceAdd, Nat.reduceSub, Nat.reduceMul, Nat.reduceLT, Nat.reduceLeDiff, Nat.reduceEqDiff, Nat.reduceBEq, Int.reduceLE, Int.reduceLT, Int.reduceEq, Int.reduceNe, Int.reduceAdd, Int.reduceSub, Int.reduceMul, Int.reduceNeg, Int.reduceToNat, Int.reduceNatCast, reduceCtorEq, eq_self, t3, t10, hk]
    refine awp_drawN [false, false, false, false, false, false, false, false, false, false, false, false, false, false, false, false, false, false, false, false, true, true, true, true] 20 K.mixed (by kernel_rfl) (by kernel_rfl) (by kernel_rfl) ?_
    simp (implicitDefEqProofs := false) only [↓reduceIte, go_sem, oread, owrite, Nat.reduceAdd, Nat.reduceSub, Nat.reduceMul, Nat.reduceLT, Nat.reduceLeDiff, Nat.reduceEqDiff, Nat.reduceBEq, Int.reduceLE, Int.reduceLT, Int.reduceEq, Int.reduceNe, Int.reduceAdd, Int.reduceSub, Int.reduceMul, Int.reduceNeg, Int.reduceToNat, Int.reduceNatCast, reduceCtorEq, eq_self, t0, t1, t2, t10, w1, w2, hil, hjl, gh, gx, gy, aH_set, aH_get hid, s1, s2, gy2, hid, List.getElem?_set_self, List.set_set]
    refine Rnd.same ⟨by rw [← aH_fold], ?_⟩
    simp (implicitDefEqProofs := false) only [↓reduceIte, go_sem, oread, owrite, Nat.reduceAdd, Nat.reduceSub, Nat.reduceMul, Nat.reduceLT, Nat.reduceLeDiff, Nat.reduceEqDiff, Nat.reduceBEq, Int.reduceLE, Int.reduceLT, Int.reduceEq, Int.reduceNe, Int.reduceAdd, Int.reduceSub, Int.reduceMul, Int.reduceNeg, Int.reduceToNat, Int.reduceNatCast, reduceCtorEq, eq_self, t0, t1, t2, t3, hw]
  · rintro s H' ⟨rfl, t0, t1, t2, t3, t10⟩
    simp (implicitDefEqProofs := false) only [↓reduceIte, go_sem, oread, owrite, Nat.reduceAdd, Nat.reduceSub, Nat.reduceMul, Nat.reduceLT, Nat.reduceLeDiff, Nat.reduceEqDiff, Nat.reduceBEq, Int.reduceLE, Int.reduceLT, Int.reduceEq, Int.reduceNe, Int.reduceAdd, Int.reduceSub, Int.reduceMul, Int.reduceNeg, Int.reduceToNat, Int.reduceNatCast, reduceCtorEq, eq_self, t3, t10]
    rw [swL_end _ _ _ _ _ n hn hy, hE]
    exact ⟨_, Weak.refl _ _, rfl⟩
theorem swapRange_at (H : AHeap) (id ver : Nat) (hid : id < H.length) (g : FuncId) (caps : List AV) (P X M Y Q L L' : List Val) (a b n m : Nat) (hL : L = P ++ X ++ M ++ Y ++ Q) (hL' : L' = P ++ Y ++ M ++ X ++ Q) (ha : P.length = a) (hn : X.length = n) (hy : Y.length = n) (hb : P.length + X.length + M.length = b)
    (hm : L.length = m) (hbig : m ≤ 1000000000000) :
    Does Try.prog 75 [.sl id ver 0 m, iA a, iA b, iA n, .fn g caps] (aH H id ver L) (.ok (.tup [])) (aH H id ver L') := by
  subst hL hL'
  exact swapRange_does H id ver hid g caps P X M Y Q a b n m ha hn hy hb hm hbig
end SV
end Go.Proofs.Ytfmmemboakdeiaa
namespace Go.Proofs.Ytfmmemboakdeiaa
open Go.Proofs.YtfmmemboakdeiaaAw Go.RowKit
set_option linter.unusedVariables false
set_option linter.unusedSimpArgs false
namespace SV
structure RotI where
  L : List Val
  P : List Val
  U : List Val
  V : List Val
  Q : List Val
set_option maxRecDepth 10000 in
set_option maxHeartbeats 1000000 in
theorem rotate_does (H : AHeap) (id ver : Nat) (hid : id < H.length) (g : FuncId) (caps : List AV) (P U V Q L T : List Val) (hL : L = P ++ U ++ V ++ Q) (hT : T = P ++ V ++ U ++ Q) (a m b n : Nat) (ha : P.length = a) (hm : P.length + U.length = m) (hb : P.length + U.length + V.length = b) (hU : 0 < U.length) (hV : 0 < V.length)
    (hn : L.length = n) (hbig : n ≤ 1000000000000) :
    Does Try.prog 72 [.sl id ver 0 n, iA a, iA m, iA b, .fn g caps] (aH H id ver L) (.ok (.tup [])) (aH H id ver T) := by
  have hnl : P.length + U.length + V.length + Q.length = n := by rw [← hn, hL]; simp; omega
  generalize hE0 : aH H id ver L = E0
  have w1 : IntKind.i64.wrap ((m : Int) - (a : Int)) = ((U.length : Nat) : Int) := by rw [wrap64_in _ (by omega) (by omega)]; omega
  have w2 : IntKind.i64.wrap ((b : Int) - (m : Int)) = ((V.length : Nat) : Int) := by rw [wrap64_in _ (by omega) (by omega)]; omega
  refine Does.of_awp (hint := (fun _ => false)) Try.func72 (by kernel_rfl) rfl [] (by kernel_rfl) (by decide) (by simp [Try.ntmps72]) ?_
  rw [Try.ntmps72]
  simp (implicitDefEqProofs := false) only [↓reduceIte, go_sem, oread, owrite, Nat.reduceAdd, Nat.reduceSub, Nat.reduceMul, Nat.reduceLT, Nat.reduceLeDiff, Nat.reduceEqDiff, Nat.reduceBEq, Int.reduceLE, Int.reduceLT, Int.reduceEq, Int.reduceNe, Int.reduceAdd, Int.reduceSub, Int.reduceMul, Int.reduceNeg, Int.reduceToNat, Int.reduceNatCast, reduceCtorEq, eq_self, w1, w2]
  refine awp_loop _ _ _ _ (fun (x : RotI) s H' => H' = aH H id ver x.L ∧ x.L = x.P ++ x.U ++ x.V ++ x.Q ∧ T = x.P ++ x.V ++ x.U ++ x.Q ∧ x.P.length + x.U.length = m ∧ 0 < x.U.length ∧ 0 < x.V.length ∧ x.L.length = n ∧
      s 0 = .sl id ver 0 n ∧ s 2 = iA m ∧ s 4 = .fn g caps ∧ s 10 = iA x.U.length ∧ s 11 = iA x.V.length) (fun x => x.U.length + x.V.length) ⟨L, P, U, V, Q⟩ (Weak.refl _ _) ?_ ?_
  · refine ⟨hE0.symm, hL, hT, hm, hU, hV, hn, ?_⟩
    simp (implicitDefEqProofs := false) only [↓reduceIte, go_sem, oread, owrite, Nat.reduceAdd, Nat.reduceSub, Nat.reduceMul, Nat.reduceLT, Nat.reduceLeDiff, Nat.reduceEqDiff, Nat.reduceBEq, Int.reduceLE, Int.reduceLT, Int.reduceEq, Int.reduceNe, Int.reduceAdd, Int.reduceSub, Int.reduceMul, Int.reduceNeg, Int.reduceToNat, Int.reduceNatCast, reduceCtorEq, eq_self]
  · rintro ⟨L', P', U', V', Q'⟩ s H' ⟨rfl, hL', hT', hm', hU', hV', hn', t0, t2, t4, t10, t11⟩
    simp only at hL' hT' hm' hU' hV' hn' t0 t2 t4 t10 t11
    have hnl' : P'.length + U'.length + V'.length + Q'.length = n := by rw [← hn', hL']; simp; omega
    have w3 : IntKind.i64.wrap ((m : Int) - (U'.length : Int)) = ((P'.length : Nat) : Int) := by rw [wrap64_in _ (by omega) (by omega)]; omega
    by_cases hij : U'.length = V'.length
    · have hij' : (((U'.length : Nat) : Int) != ((V'.length : Nat) : Int)) = false := by simp [hij]
      simp (implicitDefEqProofs := false) only [↓reduceIte, go_sem, oread, owrite, Nat.reduceAdd, Nat.reduceSub, Nat.reduceMul, Nat.reduceLT, Nat.reduceLeDiff, Nat.reduceEqDiff, Nat.reduceBEq, Int.reduceLE, Int.reduceLT, Int.reduceEq, Int.reduceNe, Int.reduceAdd, Int.reduceSub, Int.reduceMul, Int.reduceNeg, Int.reduceToNat, Int.reduceNatCast, reduceCtorEq, eq_self, t10, t11, hij']
      simp (implicitDefEqProofs := false) only [↓reduceIte, go_sem, oread, owrite, Nat.reduceAdd, Nat.reduceSub, Nat.reduceMul, Nat.reduceLT, Nat.reduceLeDiff, Nat.reduceEqDiff, Nat.reduceBEq, Int.reduceLE, Int.reduceLT, Int.reduceEq, Int.reduceNe, Int.reduceAdd, Int.reduceSub, Int.reduceMul, Int.reduceNeg, Int.reduceToNat, Int.reduceNatCast, reduceCtorEq, eq_self, t0, t2, t4, t10, w3]
      refine KCall.ok (swapRange_at H id ver hid g caps P' U' [] V' Q' L' T P'.length m U'.length n (by rw [hL']; simp) (by rw [hT']; simp) rfl rfl (by omega) (by simp; omega) hn' hbig) ?_
      simp (implicitDefEqProofs := false) only [↓reduceIte, go_sem, oread, owrite, Nat.reduceAdd, Nat.reduceSub, Nat.reduceMul, Nat.reduceLT, Nat.reduceLeDiff, Nat.reduceEqDiff, Nat.reduceBEq, Int.reduceLE, Int.reduceLT, Int.reduceEq, Int.reduceNe, Int.reduceAdd, Int.reduceSub, Int.reduceMul, Int.reduceNeg, Int.reduceToNat, Int.reduceNatCast, reduceCtorEq, eq_self]
      exact ⟨_, Weak.refl _ _, rfl⟩
    · have hij' : (((U'.length : Nat) : Int) != ((V'.length : Nat) : Int)) = true := by simp; omega
      by_cases hgt : V'.length < U'.length
      · have hgt' : (((V'.length : Nat) : Int) < ((U'.length : Nat) : Int)) = True := eq_true (by omega)
        have e1 : U'.take V'.length ++ U'.drop V'.length = U' := List.take_append_drop _ _
        have l1 : (U'.take V'.length).length = V'.length := by simp; omega
        have l2 : (U'.drop V'.length).length = U'.length - V'.length := by simp
        generalize U'.take V'.length = X at *
        generalize U'.drop V'.length = Y at *
        have e2 := congrArg List.length e1
        simp only [List.length_append] at e2
        have w4 : IntKind.i64.wrap (U'.length - (V'.length : Int)) = ((Y.length : Nat) : Int) := by rw [wrap64_in _ (by omega) (by omega)]; omega
        obtain ⟨L2, hL2⟩ : ∃ L2, L2 = P' ++ V' ++ Y ++ X ++ Q' := ⟨_, rfl⟩
        have hl2 : L2.length = n := by rw [hL2]; simp only [List.length_append] at *; omega
        simp (implicitDefEqProofs := false) only [↓reduceIte, go_sem, oread, owrite, Nat.reduceAdd, Nat.reduceSub, Nat.reduceMul, Nat.reduceLT, Nat.reduceLeDiff, Nat.reduceEqDiff, Nat.reduceBEq, Int.reduceLE, Int.reduceLT, Int.reduceEq, Int.reduceNe, Int.reduceAdd, Int.reduceSub, Int.reduceMul, Int.reduceNeg, Int.reduceToNat, Int.reduceNatCast, reduceCtorEq, eq_self, t10, t11, hij', hgt']
        simp (implicitDefEqProofs := false) only [↓reduceIte, go_sem, oread, owrite, Nat.reduceAdd, Nat.reduceSub, Nat.reduceMul, Nat.reduceLT, Nat.reduceLeDiff, Nat.reduceEqDiff, Nat.reduceBEq, Int.reduceLE, Int.reduceLT, Int.reduceEq, Int.reduceNe, Int.reduceAdd, Int.reduceSub, Int.reduceMul, Int.reduceNeg, Int.reduceToNat, Int.reduceNatCast, reduceCtorEq, eq_self, t0, t2, t4, t10, t11, w3]
        refine KCall.ok (swapRange_at H id ver hid g caps P' X Y V' Q' L' L2 P'.length m V'.length n (by rw [hL', ← e1]; simp) hL2 rfl l1 rfl (by omega) hn' hbig) ?_
        simp (implicitDefEqProofs := false) only [↓reduceIte, go_sem, oread, owrite, Nat.reduceAdd, Nat.reduceSub, Nat.reduceMul, Nat.reduceLT, Nat.reduceLeDiff, Nat.reduceEqDiff, Nat.reduceBEq, Int.reduceLE, Int.reduceLT, Int.reduceEq, Int.reduceNe, Int.reduceAdd, Int.reduceSub, Int.reduceMul, Int.reduceNeg, Int.reduceToNat, Int.reduceNatCast, reduceCtorEq, eq_self, t10, t11, w4]
        refine ⟨_, _, ⟨L2, P' ++ V', Y, X, Q'⟩, Weak.refl _ _, ⟨rfl, by rw [hL2]; simp, by rw [hT', ← e1]; simp, ?_, ?_, ?_, hl2, ?_⟩, ?_⟩
        · simp only [List.length_append]; omega
        · simp only; omega
        · simp only; omega
        · simp (implicitDefEqProofs := false) only [↓reduceIte, go_sem, oread, owrite, Nat.reduceAdd, Nat.reduceSub, Nat.reduceMul, Nat.reduceLT, Nat.reduceLeDiff, Nat.reduceEqDiff, Nat.reduceBEq, Int.reduceLE, Int.reduceLT, Int.reduceEq, Int.reduceNe, Int.reduceAdd, Int.reduceSub, Int.reduceMul, Int.reduceNeg, Int.reduceToNat, Int.reduceNatCast, reduceCtorEq, eq_self, t0, t2, t4, t11, l1]
        · simp only; omega
      · have hgt' : (((V'.length : Nat) : Int) < ((U'.length : Nat) : Int)) = False := eq_false (by omega)
        have e1 : V'.take (V'.length - U'.length) ++ V'.drop (V'.length - U'.length) = V' := List.take_append_drop _ _
        have l1 : (V'.take (V'.length - U'.length)).length = V'.length - U'.length := by simp
        have l2 : (V'.drop (V'.length - U'.length)).length = U'.length := by simp; omega
        generalize V'.take (V'.length - U'.length) = Y at *
        generalize V'.drop (V'.length - U'.length) = Z at *
        have e2 := congrArg List.length e1
        simp only [List.length_append] at e2
        have w4 : IntKind.i64.wrap (V'.length - (U'.length : Int)) = ((Y.length : Nat) : Int) := by rw [wrap64_in _ (by omega) (by omega)]; omega
        have w5 : IntKind.i64.wrap ((m : Int) + (V'.length : Int)) = (m : Int) + (V'.length : Int) := by rw [wrap64_in _ (by omega) (by omega)]
        have w6 : IntKind.i64.wrap ((m : Int) + (V'.length : Int) - (U'.length : Int)) = ((m + Y.length : Nat) : Int) := by rw [wrap64_in _ (by omega) (by omega)]; omega
        obtain ⟨L2, hL2⟩ : ∃ L2, L2 = P' ++ Z ++ Y ++ U' ++ Q' := ⟨_, rfl⟩
        have hl2' : L2.length = n := by rw [hL2]; simp only [List.length_append] at *; omega
        simp (implicitDefEqProofs := false) only [↓reduceIte, go_sem, oread, owrite, Nat.reduceAdd, Nat.reduceSub, Nat.reduceMul, Nat.reduceLT, Nat.reduceLeDiff, Nat.reduceEqDiff, Nat.reduceBEq, Int.reduceLE, Int.reduceLT, Int.reduceEq, Int.reduceNe, Int.reduceAdd, Int.reduceSub, Int.reduceMul, Int.reduceNeg, Int.reduceToNat, Int.reduceNatCast, reduceCtorEq, eq_self, t10, t11, hij', hgt']
        simp (implicitDefEqProofs := false) only [↓reduceIte, go_sem, oread, owrite, Nat.reduceAdd, Nat.reduceSub, Nat.reduceMul, Nat.reduceLT, Nat.reduceLeDiff, Nat.reduceEqDiff, Nat.reduceBEq, Int.reduceLE, Int.reduceLT, Int.reduceEq, Int.reduceNe, Int.reduceAdd, Int.reduceSub, Int.reduceMul, Int.reduceNeg, Int.reduceToNat, Int.reduceNatCast, reduceCtorEq, eq_self, t0, t2, t4, t10, t11, w3, w5, w6]
        refine KCall.ok (swapRange_at H id ver hid g caps P' U' Y Z Q' L' L2 P'.length (m + Y.length) U'.length n (by rw [hL', ← e1]; simp) hL2 rfl rfl l2 (by omega) hn' hbig) ?_
        simp (implicitDefEqProofs := false) only [↓reduceIte, go_sem, oread, owrite, Nat.reduceAdd, Nat.reduceSub, Nat.reduceMul, Nat.reduceLT, Nat.reduceLeDiff, Nat.reduceEqDiff, Nat.reduceBEq, Int.reduceLE, Int.reduceLT, Int.reduceEq, Int.reduceNe, Int.reduceAdd, Int.reduceSub, Int.reduceMul, Int.reduceNeg, Int.reduceToNat, Int.reduceNatCast, reduceCtorEq, eq_self, t10, t11, w4]
        refine ⟨_, _, ⟨L2, P', Z, Y, U' ++ Q'⟩, Weak.refl _ _, ⟨rfl, by rw [hL2]; simp, by rw [hT', ← e1]; simp, ?_, ?_, ?_, hl2', ?_⟩, ?_⟩
        · simp only; omega
        · simp only; omega
        · simp only; omega
        · simp (implicitDefEqProofs := false) only [↓reduceIte, go_sem, oread, owrite, Nat.reduceAdd, Nat.reduceSub, Nat.reduceMul, Nat.reduceLT, Nat.reduceLeDiff, Nat.reduceEqDiff, Nat.reduceBEq, Int.reduceLE, Int.reduceLT, Int.reduceEq, Int.reduceNe, Int.reduceAdd, Int.reduceSub, Int.reduceMul, Int.reduceNeg, Int.reduceToNat, Int.reduceNatCast, reduceCtorEq, eq_self, t0, t2, t4, t10, l2]
        · simp only; omega
end SV
end Go.Proofs.Ytfmmemboakdeiaa
namespace Go.Proofs.Ytfmmemboakdeiaa
open Go.Proofs.YtfmmemboakdeiaaAw Go.RowKit
set_option linter.unusedVariables false
set_option linter.unusedSimpArgs false
namespace SV
def ltC (c : Val → Val → Int) (x y : Val) : Bool := decide (c x y < 0)
/-- What a comparing function is asked for, whatever the array holds. -/
def CmpOk (g : FuncId) (caps : List AV) (c : Val → Val → Int) (H : AHeap) (id : Nat) : Prop := ∀ (o : AObj) (x y : Val), Does Try.prog g ([.agg (x.enc.map .d), .agg (y.enc.map .d)] ++ caps) (H.set id o) (.ok (iA (c x y))) (H.set id o)
theorem CmpOk.at {g : FuncId} {caps : List AV} {c : Val → Val → Int} {H : AHeap} {id : Nat} (h : CmpOk g caps c H id) (ver : Nat) (L : List Val) (x y : Val) : Does Try.prog g ([.agg (x.enc.map .d), .agg (y.enc.map .d)] ++ caps) (aH H id ver L) (.ok (iA (c x y))) (aH H id ver L) := h _ x y
structure InsI where
  L : List Val
  A : List Val
  B : List Val
set_option maxRecDepth 10000 in
set_option maxHeartbeats 2000000 in
theorem insSort_does (H : AHeap) (id ver : Nat) (hid : id < H.length) (g : FuncId) (caps : List AV) (c : Val → Val → Int) (ho : St.Ord (ltC c)) (hc : CmpOk g caps c H id) (P X Q L L' : List Val) (hL : L = P ++ X ++ Q) (hL' : L' = P ++ St.sortS (ltC c) X ++ Q) (a b n : Nat) (ha : P.length = a) (hb : P.length + X.length = b)
    (hn : L.length = n) (hbig : n ≤ 1000000000000) :
    Does Try.prog 64 [.sl id ver 0 n, iA a, iA b, .fn g caps] (aH H id ver L) (.ok (.tup [])) (aH H id ver L') := by
  have hnl : P.length + X.length + Q.length = n := by rw [← hn, hL]; simp; omega
  generalize hE0 : aH H id ver L = E0
  have w1 : IntKind.i64.wrap ((a : Int) + 1) = (a : Int) + 1 := wrap64_in _ (by omega) (by omega)
  refine Does.of_awp (hint := (fun _ => false)) Try.func64 (by kernel_rfl) rfl [] (by kernel_rfl) (by decide) (by simp [Try.ntmps64]) ?_
  rw [Try.ntmps64]
  simp (implicitDefEqProofs := false) only [↓reduceIte, go_sem, oread, owrite, Nat.reduceAdd, Nat.reduceSub, Nat.reduceMul, Nat.reduceLT, Nat.reduceLeDiff, Nat.reduceEqDiff, Nat.reduceBEq, Int.reduceLE, Int.reduceLT, Int.reduceEq, Int.reduceNe, Int.reduceAdd, Int.reduceSub, Int.reduceMul, Int.reduceNeg, Int.reduceToNat, Int.reduceNatCast, reduceCtorEq, eq_self, w1]
  refine awp_for3 (fun k s H' => (∃ Lk, H' = aH H id ver Lk ∧ Lk = P ++ (St.sortS (ltC c) (X.take (k + 1)) ++ (X.drop (k + 1) ++ Q))) ∧ s 0 = .sl id ver 0 n ∧ s 1 = iA a ∧ s 2 = iA b ∧ s 3 = .fn g caps ∧ s 8 = iA ((a : Int) + 1 + (k : Int))) (X.length - 1) (by omega) (Weak.refl _ _) ?_ ?_ ?_
  · refine ⟨⟨L, hE0.symm, ?_⟩, ?_⟩
    · have : St.sortS (ltC c) (X.take 1) = X.take 1 := by cases X <;> rfl
      rw [hL, this, ← List.append_assoc (X.take 1), List.take_append_drop, List.append_assoc]
    · simp (implicitDefEqProofs := false) only [↓reduceIte, go_sem, oread, owrite, Nat.reduceAdd, Nat.reduceSub, Nat.reduceMul, Nat.reduceLT, Nat.reduceLeDiff, Nat.reduceEqDiff, Nat.reduceBEq, Int.reduceLE, Int.reduceLT, Int.reduceEq, Int.reduceNe, Int.reduceAdd, Int.reduceSub, Int.reduceMul, Int.reduceNeg, Int.reduceToNat, Int.reduceNatCast, reduceCtorEq, eq_self, Int.add_zero]
  · rintro k s H' hk hw ⟨⟨Lk, rfl, hLk⟩, t0, t1, t2, t3, t8⟩
    have hkx : k + 1 < X.length := by omega
    have e1 : X.drop (k + 1) = X[k + 1] :: X.drop (k + 1 + 1) := List.drop_eq_getElem_cons hkx
    have e2 : X.take (k + 1 + 1) = X.take (k + 1) ++ [X[k + 1]] := List.take_succ_eq_append_getElem hkx
    have hSl := St.sortS_len (lt := ltC c) (X.take (k + 1))
    have hXl : (X.take (k + 1)).length = k + 1 := by simp; omega
    have hRl : (X.drop (k + 1 + 1)).length = X.length - (k + 2) := by simp
    rw [e1] at hLk
    rw [e2]
    have hlt : ((a : Int) + 1 + (k : Int) < (b : Int)) = True := eq_true (by omega)
    have hss := St.sortS_sorted ho (X.take (k + 1))
    generalize X[k + 1] = x at *
    generalize X.drop (k + 1 + 1) = R0 at *
    generalize X.take (k + 1) = X0 at *
    generalize hS : St.sortS (ltC c) X0 = S at *
    simp (implicitDefEqProofs := false) only [↓reduceIte, go_sem, oread, owrite, Nat.reduceAdd, Nat.reduceSub, Nat.reduceMul, Nat.reduceLT, Nat.reduceLeDiff, Nat.reduceEqDiff, Nat.reduceBEq, Int.reduceLE, Int.reduceLT, Int.reduceEq, Int.reduceNe, Int.reduceAdd, Int.reduceSub, Int.reduceMul, Int.reduceNeg, Int.reduceToNat, Int.reduceNatCast, reduceCtorEq, eq_self, t0, t1, t2, t3, t8, hlt]
    refine awp_loop _ _ _ _ (fun (z : InsI) s H' => H' = aH H id ver z.L ∧ z.L = P ++ z.A ++ x :: (z.B ++ (R0 ++ Q)) ∧ z.A ++ z.B = S ∧ (∀ y ∈ z.B, ltC c x y = true) ∧ s 0 = .sl id ver 0 n ∧ s 1 = iA a ∧ s 2 = iA b ∧ s 3 = .fn g caps ∧ s 8 = iA ((a : Int) + 1 + (k : Int)) ∧ s 9 = iA ((a + z.A.length : Nat) : Int)) (fun z => z.A.length) ⟨Lk, S, []⟩ (Weak.refl _ _) ?_ ?_
    · refine ⟨rfl, by rw [hLk]; simp, by simp, by simp, ?_⟩
      simp (implicitDefEqProofs := false) only [↓reduceIte, go_sem, oread, owrite, Nat.reduceAdd, Nat.reduceSub, Nat.reduceMul, Nat.reduceLT, Nat.reduceLeDiff, Nat.reduceEqDiff, Nat.reduceBEq, Int.reduceLE, Int.reduceLT, Int.reduceEq, Int.reduceNe, Int.reduceAdd, Int.reduceSub, Int.reduceMul, Int.reduceNeg, Int.reduceToNat, Int.reduceNatCast, reduceCtorEq, eq_self, t0, t1, t2, t3, t8, show ((a : Int) + 1 + (k : Int)) = ((a + S.length : Nat) : Int) by omega]
    · rintro ⟨L1, A, B⟩ s H' ⟨rfl, hL1, hAB, hB, t0, t1, t2, t3, t8, t9⟩
      simp only at hL1 hAB hB t0 t1 t2 t3 t8 t9
      have hABl : A.length + B.length = k + 1 := by rw [← List.length_append, hAB, hSl, hXl]
      have hL1n : L1.length = n := by rw [hL1]; simp; omega
      have fin : (∀ y ∈ A, ltC c x y = false) → L1 = P ++ (St.sortS (ltC c) (X0 ++ [x]) ++ (R0 ++ Q)) := fun hA => by
        rw [hL1, ← St.insert_eq ho (hAB.trans hS.symm) hB hA]; simp
      obtain ⟨j, hj⟩ : ∃ j, j = a + A.length := ⟨_, rfl⟩
      rw [← hj] at t9
      have hw8 : IntKind.i64.wrap ((a : Int) + 1 + (k : Int) + 1) = (a : Int) + 1 + ((k : Int) + 1) := by rw [wrap64_in _ (by omega) (by omega)]; omega
      rcases List.eq_nil_or_concat A with rfl | ⟨A', z, rfl⟩
      · have hja : ((a : Int) < (j : Int)) = False := eq_false (by simp at hj; omega)
        simp (implicitDefEqProofs := false) only [↓reduceIte, go_sem, oread, owrite, Nat.reduceAdd, Nat.reduceSub, Nat.reduceMul, Nat.reduceLT, Nat.reduceLeDiff, Nat.reduceEqDiff, Nat.reduceBEq, Int.reduceLE, Int.reduceLT, Int.reduceEq, Int.reduceNe, Int.reduceAdd, Int.reduceSub, Int.reduceMul, Int.reduceNeg, Int.reduceToNat, Int.reduceNatCast, reduceCtorEq, eq_self]
        refine awp_draw K.mixed (by kernel_rfl) ?_
        simp (implicitDefEqProofs := false) only [↓reduceIte, go_sem, oread, owrite, Nat.reduceAdd, Nat.reduceSub, Nat.reduceMul, Nat.reduceLT, Nat.reduceLeDiff, Nat.reduceEqDiff, Nat.reduceBEq, Int.reduceLE, Int.reduceLT, Int.reduceEq, Int.reduceNe, Int.reduceAdd, Int.reduceSub, Int.reduceMul, Int.reduceNeg, Int.reduceToNat, Int.reduceNatCast, reduceCtorEq, eq_self, t1, t9, hja, t8, hw8]
        refine Rnd.same ⟨⟨L1, rfl, fin (by simp)⟩, ?_⟩
        simp (implicitDefEqProofs := false) only [↓reduceIte, go_sem, oread, owrite, Nat.reduceAdd, Nat.reduceSub, Nat.reduceMul, Nat.reduceLT, Nat.reduceLeDiff, Nat.reduceEqDiff, Nat.reduceBEq, Int.reduceLE, Int.reduceLT, Int.reduceEq, Int.reduceNe, Int.reduceAdd, Int.reduceSub, Int.reduceMul, Int.reduceNeg, Int.reduceToNat, Int.reduceNatCast, reduceCtorEq, eq_self, t0, t1, t2, t3]
      · simp only [List.concat_eq_append, List.length_append, List.length_singleton] at hL1 hAB hj hABl fin
        have hja : ((a : Int) < (j : Int)) = True := eq_true (by omega)
        obtain ⟨i, hi⟩ : ∃ i, i = a + A'.length := ⟨_, rfl⟩
        have hw9 : IntKind.i64.wrap ((j : Int) - 1) = (i : Int) := by rw [wrap64_in _ (by omega) (by omega)]; omega
        have hL1' : L1 = (P ++ A') ++ z :: (x :: (B ++ (R0 ++ Q))) := by rw [hL1]; simp
        have hL1'' : L1 = (P ++ A' ++ [z]) ++ x :: (B ++ (R0 ++ Q)) := by rw [hL1]; simp
        have gz : L1[i]? = some z := by rw [hL1']; exact get_at (by simp; omega)
        have gx : L1[j]? = some x := by rw [hL1'']; exact get_at (by simp; omega)
        have il : i < n := by omega
        have jl : j < n := by omega
        have st : (L1.set j z).set i x = P ++ A' ++ x :: (z :: B ++ (R0 ++ Q)) := by
          rw [hL1'', set_at (by simp; omega)]
          have : P ++ A' ++ [z] ++ z :: (B ++ (R0 ++ Q)) = (P ++ A') ++ z :: (z :: (B ++ (R0 ++ Q))) := by simp
          rw [this, set_at (by simp; omega)]
          simp
        have gz' := get_enc gz
        have gx' := get_enc gx
        have gz2 : ((L1.set j z).map Val.enc)[i]? = some z.enc := by
          refine get_enc ?_
          rw [List.getElem?_set, if_neg (by omega)]; exact gz
        have s1 := set_enc L1 j z
        have s2 := set_enc (L1.set j z) i x
        rw [st] at s2
        have gh := aH_get hid ver L1
        have hd := hc.at ver L1 x z
        simp only [Val.enc] at gz' gx' gz2 s1 s2
        simp only [Val.enc, List.map_cons, List.map_nil] at hd
        simp (implicitDefEqProofs := false) only [↓reduceIte, go_sem, oread, owrite, Nat.reduceAdd, Nat.reduceSub, Nat.reduceMul, Nat.reduceLT, Nat.reduceLeDiff, Nat.reduceEqDiff, Nat.reduceBEq, Int.reduceLE, Int.reduceLT, Int.reduceEq, Int.reduceNe, Int.reduceAdd, Int.reduceSub, Int.reduceMul, Int.reduceNeg, Int.reduceToNat, Int.reduceNatCast, reduceCtorEq, eq_self]
        refine awp_draw K.mixed (by kernel_rfl) ?_
        simp (implicitDefEqProofs := false) only [↓reduceIte, go_sem, oread, owrite, Nat.reduceAdd, Nat.reduceSub, Nat.reduceMul, Nat.reduceLT, Nat.reduceLeDiff, Nat.reduceEqDiff, Nat.reduceBEq, Int.reduceLE, Int.reduceLT, Int.reduceEq, Int.reduceNe, Int.reduceAdd, Int.reduceSub, Int.reduceMul, Int.reduceNeg, Int.reduceToNat, Int.reduceNatCast, reduceCtorEq, eq_self, t0, t1, t3, t9, hja, hw9, il, jl, gh, gz', gx']
        refine KCall.ok hd ?_
        by_cases hlt2 : c x z < 0
        · have hltb : ltC c x z = true := by simp [ltC, hlt2]
          simp (implicitDefEqProofs := false) only [↓reduceIte, go_sem, oread, owrite, Nat.reduceAdd, Nat.reduceSub, Nat.reduceMul, Nat.reduceLT, Nat.reduceLeDiff, Nat.reduceEqDiff, Nat.reduceBEq, Int.reduceLE, Int.reduceLT, Int.reduceEq, Int.reduceNe, Int.reduceAdd, Int.reduceSub, Int.reduceMul, Int.reduceNeg, Int.reduceToNat, Int.reduceNatCast, reduceCtorEq, eq_self, hlt2]
          refine awp_drawN [false, false, false, false, false, false, false, false, false, false, false, false, false, false, true, true, true, true] 14 K.mixed (by kernel_rfl) (by kernel_rfl) (by kernel_rfl) ?_
          simp (implicitDefEqProofs := false) only [↓reduceIte, go_sem, oread, owrite, Nat.reduceAdd, Nat.reduceSub, Nat.reduceMul, Nat.reduceLT, Nat.reduceLeDiff, Nat.reduceEqDiff, Nat.reduceBEq, Int.reduceLE, Int.reduceLT, Int.reduceEq, Int.reduceNe, Int.reduceAdd, Int.reduceSub, Int.reduceMul, Int.reduceNeg, Int.reduceToNat, Int.reduceNatCast, reduceCtorEq, eq_self, t0, t1, t3, t9, hja, hw9, il, jl, gh, gz', gx', aH_set, aH_get hid, s1, gz2, s2, hid, List.getElem?_set_self, List.set_set]
          refine ⟨_, _, ⟨_, A', z :: B⟩, Weak.refl _ _, ⟨by rw [← aH_fold], rfl, by rw [← hAB]; simp, ?_, ?_⟩, by simp⟩
          · intro y hy
            rcases List.mem_cons.1 hy with rfl | hy
            · exact hltb
            · exact hB y hy
          · simp (implicitDefEqProofs := false) only [↓reduceIte, go_sem, oread, owrite, Nat.reduceAdd, Nat.reduceSub, Nat.reduceMul, Nat.reduceLT, Nat.reduceLeDiff, Nat.reduceEqDiff, Nat.reduceBEq, Int.reduceLE, Int.reduceLT, Int.reduceEq, Int.reduceNe, Int.reduceAdd, Int.reduceSub, Int.reduceMul, Int.reduceNeg, Int.reduceToNat, Int.reduceNatCast, reduceCtorEq, eq_self, t0, t1, t2, t3, t8, show ((a : Int) + (A'.length : Int)) = (i : Int) by omega]
        · have hltb : ltC c x z = false := by simp [ltC, hlt2]
          have hAx : ∀ y ∈ A' ++ [z], ltC c x y = false := by
            intro y hy
            have hso := hss
            rw [← hAB] at hso
            rcases List.mem_append.1 hy with hy | hy
            · exact ho.le_trans (hso.left.cross y hy z (by simp)) hltb
            · simp at hy; rw [hy]; exact hltb
          simp (implicitDefEqProofs := false) only [↓reduceIte, go_sem, oread, owrite, Nat.reduceAdd, Nat.reduceSub, Nat.reduceMul, Nat.reduceLT, Nat.reduceLeDiff, Nat.reduceEqDiff, Nat.reduceBEq, Int.reduceLE, Int.reduceLT, Int.reduceEq, Int.reduceNe, Int.reduceAdd, Int.reduceSub, Int.reduceMul, Int.reduceNeg, Int.reduceToNat, Int.reduceNatCast, reduceCtorEq, eq_self, hlt2, t8, hw8]
          refine Rnd.same ⟨⟨L1, rfl, fin hAx⟩, ?_⟩
          simp (implicitDefEqProofs := false) only [↓reduceIte, go_sem, oread, owrite, Nat.reduceAdd, Nat.reduceSub, Nat.reduceMul, Nat.reduceLT, Nat.reduceLeDiff, Nat.reduceEqDiff, Nat.reduceBEq, Int.reduceLE, Int.reduceLT, Int.reduceEq, Int.reduceNe, Int.reduceAdd, Int.reduceSub, Int.reduceMul, Int.reduceNeg, Int.reduceToNat, Int.reduceNatCast, reduceCtorEq, eq_self, t0, t1, t2, t3]
  · rintro s H' ⟨⟨Lk, rfl, hLk⟩, t0, t1, t2, t3, t8⟩
    have hlt : ((a : Int) + 1 + ((X.length - 1 : Nat) : Int) < (b : Int)) = False := eq_false (by omega)
    simp (implicitDefEqProofs := false) only [↓reduceIte, go_sem, oread, owrite, Nat.reduceAdd, Nat.reduceSub, Nat.reduceMul, Nat.reduceLT, Nat.reduceLeDiff, Nat.reduceEqDiff, Nat.reduceBEq, Int.reduceLE, Int.reduceLT, Int.reduceEq, Int.reduceNe, Int.reduceAdd, Int.reduceSub, Int.reduceMul, Int.reduceNeg, Int.reduceToNat, Int.reduceNatCast, reduceCtorEq, eq_self, t2, t8, hlt]
    have : Lk = L' := by
      rw [hLk, hL', List.take_of_length_le (by omega), List.drop_of_length_le (by omega)]; simp
    rw [this]
    exact ⟨_, Weak.refl _ _, rfl⟩
end SV
end Go.Proofs.Ytfmmemboakdeiaa
namespace Go.Proofs.Ytfmmemboakdeiaa
open Go.Proofs.YtfmmemboakdeiaaAw Go.RowKit
set_option linter.unusedVariables false
theorem shrU (n k : Nat) (h : k ≤ 64) : shrI .u64 (n : Int) (k : Int) = ((n / 2 ^ k : Nat) : Int) := by
  have : min k 64 = k := by omega
  simp only [shrI, IntKind.bits, Int.toNat_natCast, this]
  rw [Int.fdiv_eq_ediv_of_nonneg _ (by exact_mod_cast Nat.zero_le _)]
  norm_cast
theorem wrap8N (n : Nat) (h : n < 256) : IntKind.u8.wrap (n : Int) = n := wrapu8_in _ (by omega) (by omega)
theorem orI_nat (k : IntKind) (a b : Nat) (ha : a < 2 ^ k.bits) (hb : b < 2 ^ k.bits) : orI k (a : Int) (b : Int) = ((a ||| b : Nat) : Int) := by
  simp [orI, BitVec.toNat_or, BitVec.ofInt_natCast, Nat.mod_eq_of_lt ha, Nat.mod_eq_of_lt hb]
theorem andI_nat (k : IntKind) (a b : Nat) (ha : a < 2 ^ k.bits) (hb : b < 2 ^ k.bits) : andI k (a : Int) (b : Int) = ((a &&& b : Nat) : Int) := by
  simp [andI, BitVec.toNat_and, BitVec.ofInt_natCast, Nat.mod_eq_of_lt ha, Nat.mod_eq_of_lt hb]
theorem wrapU64N (n : Nat) (h : n < 18446744073709551616) : IntKind.u64.wrap (n : Int) = n := wrapu64_in _ (by omega) (by omega)
theorem wrapU8mod (n : Nat) : IntKind.u8.wrap (n : Int) = ((n % 256 : Nat) : Int) := by simp [IntKind.wrap, IntKind.signed, IntKind.bits]
theorem wrapI (n : Nat) (h : n ≤ 1000000000000) : IntKind.i64.wrap (n : Int) = (n : Int) := wrap64_in _ (by omega) (by omega)
end Go.Proofs.Ytfmmemboakdeiaa

/- Regions that draw their order: in the order of their text is enough, where operations leave the heap alone. -/
import Derived.Test.YtfmmemboakdeiaaAwT
namespace Go.Proofs.YtfmmemboakdeiaaAw
open Go.RowKit
set_option linter.unusedVariables false
set_option linter.unusedSimpArgs false
/-! ### What an operation comes to is one thing; and it reads its operands alone -/
section
variable {P : Program} {hint : Nat → Bool} {s s' : Nat → AV} {H : AHeap}
theorem binK_det {op : BinOp} {t : TypeId} {u v : Value} {K : Value → Prop} (h : binK P op t u v K) : ∃ r, K r ∧ ∀ K', K' r → binK P op t u v K' := by
  unfold binK at h ⊢
  repeat' (split at h)
  all_goals first | exact h.elim | exact ⟨_, h, fun K' g => g⟩ | exact ⟨_, h.2, fun K' g => ⟨h.1, g⟩⟩ | exact ⟨_, h.2.2, fun K' g => ⟨h.1, h.2.1, g⟩⟩ | (obtain ⟨r, h1, h2⟩ := h; first | exact ⟨r, h2, fun K' g => ⟨r, h1, g⟩⟩ | exact ⟨r, h2, fun K' g => by simp_all; exact ⟨r, h1, g⟩⟩)
theorem unK_det {op : UnOp} {u : Value} {K : Value → Prop} (h : unK op u K) : ∃ r, K r ∧ ∀ K', K' r → unK op u K' := by
  cases op <;> cases u <;> first | exact h.elim | exact ⟨_, h, fun K' g => g⟩ | exact ⟨_, h.2, fun K' g => ⟨h.1, g⟩⟩
theorem abuiltin_det {b : Builtin} {args : List Operand} {tys : List TypeId} {K : AV → AHeap → Prop} (h : abuiltin P s H b args tys K) : ∃ r H', K r H' ∧ ∀ K', K' r H' → abuiltin P s H b args tys K' := by
  unfold abuiltin at h ⊢
  repeat' (split at h)
  all_goals first | exact h.elim | (exact (show False from by first | exact h.2 | exact h.2.2 | exact h.2.2.2 | exact h.2.2.2.2).elim) | exact ⟨_, _, h, fun K' g => g⟩ | exact ⟨_, _, h.2, fun K' g => ⟨h.1, g⟩⟩ | exact ⟨_, _, h.2.2, fun K' g => ⟨h.1, h.2.1, g⟩⟩ | exact ⟨_, _, h.2.2.2, fun K' g => ⟨h.1, h.2.1, h.2.2.1, g⟩⟩ | exact ⟨_, _, h.2.2.2.2.2, fun K' g => ⟨h.1, h.2.1, h.2.2.1, h.2.2.2.1, h.2.2.2.2.1, g⟩⟩ | exact ⟨_, _, h.2.2.2.2.2.2, fun K' g => ⟨h.1, h.2.1, h.2.2.1, h.2.2.2.1, h.2.2.2.2.1, h.2.2.2.2.2.1, g⟩⟩
theorem aslice_det {k : Nat} {lo : Option Int} {hi : Nat → Option Int} {x : AV} {K : AV → AHeap → Prop} (h : aslice H k lo hi K x) : ∃ r H', K r H' ∧ ∀ K', K' r H' → aslice H k lo hi K' x := by
  cases x with
  | d u =>
    cases u with
    | v _ => exact h.elim
    | list nn es =>
      simp only [aslice] at h ⊢
      obtain ⟨h0, h⟩ := h
      cases lo with
      | none => exact h.elim
      | some l =>
        cases hq : hi es.length with
        | none => rw [hq] at h; exact h.elim
        | some m => rw [hq] at h; exact ⟨_, _, h.2.2.2, fun K' g => ⟨h0, h.1, h.2.1, h.2.2.1, g⟩⟩
  | sl id ver off len =>
    simp only [aslice] at h ⊢
    cases ho : H[id]? with
    | none => rw [ho] at h; exact h.elim
    | some o =>
      rw [ho] at h
      cases lo with
      | none => exact h.elim
      | some l =>
        cases hq : hi len with
        | none => rw [hq] at h; exact h.elim
        | some m => rw [hq] at h; exact ⟨_, _, h.2.2.2.2.2, fun K' g => ⟨h.1, h.2.1, h.2.2.1, h.2.2.2.1, h.2.2.2.2.1, g⟩⟩
  | _ => exact h.elim
theorem aslice3_det {k : Nat} {lo hi mx : Option Int} {x : AV} {K : AV → AHeap → Prop} (h : aslice3 H k lo hi mx K x) : ∃ r H', K r H' ∧ ∀ K', K' r H' → aslice3 H k lo hi mx K' x := by
  cases x with
  | d u =>
    cases u with
    | v _ => exact h.elim
    | list nn es => cases lo <;> cases hi <;> cases mx <;> first | exact h.2.elim | exact ⟨_, _, h.2.2.2.2.2, fun K' g => ⟨h.1, h.2.1, h.2.2.1, h.2.2.2.1, h.2.2.2.2.1, g⟩⟩
  | _ => exact h.elim
theorem aassert_det {t : TypeId} {ok : Bool} {v : Option Value} {K : AV → AHeap → Prop} (h : aassert P t ok H K v) : ∃ r H', K r H' ∧ ∀ K', K' r H' → aassert P t ok H K' v := by
  unfold aassert at h ⊢
  cases e : assertR P t ok v with
  | none => rw [e] at h; exact h.2.elim
  | some r => rw [e] at h; exact ⟨_, _, h.2, fun K' g => ⟨h.1, g⟩⟩
theorem aop_det {hi : Bool} {op : Op} {K : AV → AHeap → Prop} (h : aop P s H hi op K) : ∃ r H', K r H' ∧ ∀ K', K' r H' → aop P s H hi op K' := by
  unfold aop at h ⊢
  repeat' (split at h)
  all_goals first | exact h.elim | (exact (show False from by first | exact h.2 | exact h.2.2 | exact h.2.2.2 | exact h.2.2.2.2).elim) | exact ⟨_, _, h, fun K' g => g⟩ | exact ⟨_, _, h.2, fun K' g => ⟨h.1, g⟩⟩ | exact ⟨_, _, h.2.2, fun K' g => ⟨h.1, h.2.1, g⟩⟩ | exact ⟨_, _, h.2.2.2, fun K' g => ⟨h.1, h.2.1, h.2.2.1, g⟩⟩ | exact ⟨_, _, h.2.2.2.2.2.2, fun K' g => ⟨h.1, h.2.1, h.2.2.1, h.2.2.2.1, h.2.2.2.2.1, h.2.2.2.2.2.1, g⟩⟩ | exact ⟨_, _, h.2.2.2.2, fun K' g => ⟨h.1, h.2.1, h.2.2.1, h.2.2.2.1, g⟩⟩ | exact abuiltin_det h |
    (obtain ⟨r, h1, h2⟩ := binK_det h; exact ⟨_, _, h1, fun K' g => h2 _ g⟩) | (obtain ⟨r, h1, h2⟩ := unK_det h; exact ⟨_, _, h1, fun K' g => h2 _ g⟩) | exact aslice_det h | exact aslice3_det h | exact aassert_det h | skip
  all_goals first | (exfalso; simp_all; done) | exact ⟨_, _, h, fun K' g => by rw [if_pos (by assumption)]; exact g⟩ | exact ⟨_, _, h, fun K' g => by rw [if_neg (by assumption)]; exact g⟩ | exact ⟨_, _, h.2, fun K' g => by rw [if_pos (by assumption)]; exact ⟨h.1, g⟩⟩ | exact ⟨_, _, h.2, fun K' g => ⟨h.1, by first | (rw [if_pos (by assumption)]; exact g) | (rw [if_neg (by assumption)]; exact g)⟩⟩ |
    exact ⟨_, _, h.2, fun K' g => by rw [if_neg (by assumption)]; exact ⟨h.1, by first | (rw [if_pos (by assumption)]; exact g) | (rw [if_neg (by assumption)]; exact g)⟩⟩ | trace_state
theorem astep_det {o : Oper} {K : AV → AHeap → Prop} (h : astep P hint s H o K (fun _ _ => False)) : ∃ r H', K r H' ∧ ∀ K' KP', K' r H' → astep P hint s H o K' KP' := by
  unfold astep at h ⊢
  split at h
  · split at h <;> exact h.elim
  · split at h
    · split at h
      · obtain ⟨res, H', hd, h⟩ := h
        cases res with
        | ok r => exact ⟨r, H', h, fun K' KP' g => ⟨.ok r, H', hd, g⟩⟩
        | panic v => exact h.elim
      · exact h.elim
    · obtain ⟨r, H', h1, h2⟩ := abuiltin_det h
      exact ⟨r, H', h1, fun K' KP' g => h2 _ g⟩
    · exact h.elim
  · obtain ⟨r, H', h1, h2⟩ := aop_det h
    exact ⟨r, H', h1, fun K' KP' g => h2 _ g⟩
theorem aeval_congr {x : Operand} (h : ∀ t, x = .tmp t → s t = s' t) : aeval s x = aeval s' x := by
  cases x with
  | tmp t => exact h t rfl
  | _ => rfl
def opTmps (o : Oper) : List Tmp := o.op.operands.toList.filterMap fun | .tmp t => some t | _ => none
theorem opTmps_mem {o : Oper} (h : ∀ t ∈ opTmps o, s t = s' t) (x : Operand) (hx : x ∈ o.op.operands) : aeval s x = aeval s' x :=
  aeval_congr fun t ht => h t (by subst ht; exact List.mem_filterMap.2 ⟨_, Array.mem_toList_iff.2 hx, rfl⟩)
theorem aparts_congr {parts : Array (Nat × Operand)} (h : ∀ p ∈ parts.toList, aeval s p.2 = aeval s' p.2) : aparts s parts = aparts s' parts := by
  unfold aparts
  exact List.map_congr_left fun p hp => by rw [h p hp]
theorem intArgs_congr {k : IntKind} : ∀ {xs : List Operand}, (∀ x ∈ xs, aeval s x = aeval s' x) → intArgs s k xs = intArgs s' k xs
  | [], _ => rfl
  | x :: xs, h => by
    unfold intArgs
    rw [h x (by simp), intArgs_congr fun y hy => h y (by simp [hy])]
theorem abuiltin_congr {b : Builtin} {args : List Operand} {tys : List TypeId} {K : AV → AHeap → Prop} (h : ∀ x ∈ args, aeval s x = aeval s' x) : abuiltin P s H b args tys K = abuiltin P s' H b args tys K := by
  unfold abuiltin
  split
  · rw [h _ (by simp)]
  · rw [h _ (by simp), h _ (by simp)]
  · rw [h _ (by simp)]
  · rename_i x xs
    rw [h x (by simp)]
    have e : ∀ k, intArgs s k xs = intArgs s' k xs := fun k => intArgs_congr fun y hy => h y (by simp [hy])
    simp only [e]
  · rename_i x xs
    rw [h x (by simp)]
    have e : ∀ k, intArgs s k xs = intArgs s' k xs := fun k => intArgs_congr fun y hy => h y (by simp [hy])
    simp only [e]
  · rfl
theorem aop_congr {hi : Bool} {op : Op} {K : AV → AHeap → Prop} (h : ∀ x ∈ op.operands, aeval s x = aeval s' x) : aop P s H hi op K = aop P s' H hi op K := by
  unfold aop
  split
  all_goals first
    | rfl
    | (have e := aparts_congr (s := s) (s' := s') fun p hp => h p.2 (by simp only [Op.operands, List.mem_toArray, List.mem_map]; exact ⟨p, hp, rfl⟩); simp only [e]; done)
    | exact abuiltin_congr fun x hx => h x (by simp only [Op.operands, Call.operands]; exact Array.mem_append.2 (.inr (Array.mem_toList_iff.1 hx)))
    | (split
       · exact abuiltin_congr fun x hx => h x (by simp only [Op.operands, Call.operands]; exact Array.mem_append.2 (.inr (Array.mem_toList_iff.1 hx)))
       · rfl)
    | (rename_i x lo hi' mx
       have e0 : aeval s x = aeval s' x := h _ (by simp [Op.operands])
       have e2 : sliceLo s (some hi') = sliceLo s' (some hi') := by simp only [sliceLo]; rw [h hi' (by simp [Op.operands])]
       have e3 : sliceLo s (some mx) = sliceLo s' (some mx) := by simp only [sliceLo]; rw [h mx (by simp [Op.operands])]
       have e1 : sliceLo s lo = sliceLo s' lo := by
         cases lo with
         | none => rfl
         | some y => simp only [sliceLo]; rw [h y (by simp [Op.operands])]
       rw [e0, e1, e2, e3]; done)
    | (rename_i x xT t ok; rw [h x (by simp [Op.operands])]; done)
    | (rename_i x lo hi'
       have e0 : aeval s x = aeval s' x := h _ (by simp [Op.operands])
       have e1 : sliceLo s lo = sliceLo s' lo := by
         cases lo with
         | none => rfl
         | some y => simp only [sliceLo]; rw [h y (by simp [Op.operands])]
       have e2 : ∀ n, sliceHi s n hi' = sliceHi s' n hi' := by
         intro n
         cases hi' with
         | none => rfl
         | some y => simp only [sliceHi]; rw [h y (by simp [Op.operands])]
       first | (simp only [e0, e1, e2]; done) | (simp only [e0, e1, funext e2]; done))
    | (simp [Op.operands] at h; simp only [h]; done)
    | (rename_i caps; rw [List.map_congr_left fun x hx => h x (by simp only [Op.operands]; exact Array.mem_append.2 (.inr (Array.mem_toList_iff.1 hx)))]; done)
    | skip
  all_goals
    rename_i x lo hi'
    have e0 : aeval s x = aeval s' x := h _ (by simp [Op.operands])
    have e1 : sliceLo s lo = sliceLo s' lo := by
      cases lo with
      | none => rfl
      | some y => simp only [sliceLo]; rw [h y (by simp [Op.operands])]
    have e2 : ∀ n, sliceHi s n hi' = sliceHi s' n hi' := by
      intro n
      cases hi' with
      | none => rfl
      | some y => simp only [sliceHi]; rw [h y (by simp [Op.operands])]
    simp only [e0, e1, e2, nf_id]
theorem astep_congr {o : Oper} {K : AV → AHeap → Prop} {KP : Value → AHeap → Prop} (h : ∀ t ∈ opTmps o, s t = s' t) : astep P hint s H o K KP = astep P hint s' H o K KP := by
  have h' := opTmps_mem h
  unfold astep
  split
  · rename_i x hx
    rw [h' x (by rw [hx]; simp [Op.operands])]
  · rename_i c hc
    have hm : ∀ x ∈ c.operands, aeval s x = aeval s' x := fun x hx => h' x (by rw [hc]; exact hx)
    split
    · rename_i f hf
      have e1 : aeval s f = aeval s' f := hm f (by simp [Call.operands, hf])
      have e2 : c.args.toList.map (aeval s) = c.args.toList.map (aeval s') := List.map_congr_left fun x hx => hm x (by simp only [Call.operands]; exact Array.mem_append.2 (.inr (Array.mem_toList_iff.1 hx)))
      rw [e1, e2]
    · exact abuiltin_congr fun x hx => hm x (by simp only [Call.operands]; exact Array.mem_append.2 (.inr (Array.mem_toList_iff.1 hx)))
    · rfl
  · exact aop_congr h'
end

/-! ### A region that draws its order, of operations that leave the heap alone -/
def dstAt (ops : Array Oper) (j : Nat) : Option Tmp := (ops[j]?).bind (·.dst)
def bindsOn (o : Oper) (j : Nat) : Bool := o.after.toList.any fun e => Region.binds .any e && e.on == j
/-- Whether i is bound behind j, by way of others too. -/
def reachB (ops : Array Oper) : Nat → Nat → Nat → Bool
  | 0, _, _ => false
  | fuel + 1, i, j => match ops[i]? with
    | none => false
    | some o => bindsOn o j || (List.range i).any fun k => bindsOn o k && reachB ops fuel k j
def pureCheck (ops : Array Oper) : Bool := (List.range ops.size).all fun i => match ops[i]? with
  | none => true
  | some o => (o.after.toList.all fun e => !Region.binds .any e || decide (e.on < i)) && ((opTmps o).all fun t => (List.range ops.size).all fun j => !(dstAt ops j == some t) || (bindsOn o j || (match ops[j]? with | some oj => bindsOn oj i | none => false))) &&
    (match o.guard with | some (j, _) => bindsOn o j | none => true) && ((List.range ops.size).all fun j => j == i || (dstAt ops i).isNone || !(dstAt ops j == dstAt ops i))
structure PureOk (ops : Array Oper) : Prop where
  down : ∀ (i : Nat) (o : Oper), ops[i]? = some o → ∀ e ∈ o.after, Region.binds .any e = true → e.on < i
  reads : ∀ (i : Nat) (o : Oper), ops[i]? = some o → ∀ t ∈ opTmps o, ∀ j, dstAt ops j = some t → bindsOn o j = true ∨ ∃ oj, ops[j]? = some oj ∧ bindsOn oj i = true
  guard : ∀ (i : Nat) (o : Oper), ops[i]? = some o → ∀ j w, o.guard = some (j, w) → bindsOn o j = true
  once : ∀ (i j : Nat) (t : Tmp), dstAt ops i = some t → dstAt ops j = some t → i = j
theorem dstAt_lt {ops : Array Oper} {j : Nat} {t : Tmp} (h : dstAt ops j = some t) : j < ops.size := by
  unfold dstAt at h
  obtain ⟨o, ho, _⟩ := Option.bind_eq_some_iff.1 h
  exact (Array.getElem?_eq_some_iff.1 ho).1
theorem pureCheck_ok {ops : Array Oper} (h : pureCheck ops = true) : PureOk ops := by
  unfold pureCheck at h
  rw [List.all_eq_true] at h
  have key : ∀ i o, ops[i]? = some o → ((o.after.toList.all fun e => !Region.binds .any e || decide (e.on < i)) = true ∧ ((opTmps o).all fun t => (List.range ops.size).all fun j => !(dstAt ops j == some t) || (bindsOn o j || (match ops[j]? with | some oj => bindsOn oj i | none => false))) = true ∧
      (match o.guard with | some (j, _) => bindsOn o j | none => true) = true) ∧ ((List.range ops.size).all fun j => j == i || (dstAt ops i).isNone || !(dstAt ops j == dstAt ops i)) = true := by
    intro i o ho
    have := h i (List.mem_range.2 (Array.getElem?_eq_some_iff.1 ho).1)
    simp only [ho, Bool.and_eq_true] at this
    exact ⟨⟨this.1.1.1, this.1.1.2, this.1.2⟩, this.2⟩
  refine ⟨fun i o ho e he hbe => ?_, fun i o ho t ht j hj => ?_, fun i o ho j w hg => ?_, fun i j t hi hj => ?_⟩
  · have := (key i o ho).1.1
    rw [List.all_eq_true] at this
    simpa [hbe] using this e (Array.mem_toList_iff.2 he)
  · have := (key i o ho).1.2.1
    rw [List.all_eq_true] at this
    have := this t ht
    rw [List.all_eq_true] at this
    have := this j (List.mem_range.2 (dstAt_lt hj))
    have hjl := dstAt_lt hj
    have hoj : ops[j]? = some ops[j] := by simp [hjl]
    rw [hj, hoj] at this
    simp only [beq_self_eq_true, Bool.not_true, Bool.false_or, Bool.or_eq_true] at this
    rcases this with h | h
    · exact .inl h
    · exact .inr ⟨_, hoj, h⟩
  · have := (key i o ho).1.2.2
    simpa [hg] using this
  · obtain ⟨o, ho, _⟩ := Option.bind_eq_some_iff.1 (show (ops[i]?).bind (·.dst) = some t from hi)
    have := (key i o ho).2
    rw [List.all_eq_true] at this
    have := this j (List.mem_range.2 (dstAt_lt hj))
    simp [hi, hj] at this
    exact this.symm
section
variable (P : Program) (hint : Nat → Bool) (n : Nat) (ops : Array Oper)
def StepR (H : AHeap) (s : Nat → AV) (o : Oper) (r : AV) : Prop := match o.guard with
  | none => ∀ K KP, K r H → astep P hint s H o K KP
  | some (j, want) => ∃ b, ayield ops s n j want = some b ∧ if b = true then ∀ K KP, K r H → astep P hint s H o K KP else r = .tup []
/-- The region in the order of its text, where each operation leaves the heap alone. -/
def awpPure (Q : Post) : List Oper → (Nat → AV) → AHeap → Prop
  | [], s, H => Q .normal s H
  | o :: rest, s, H => awpOp P hint n ops (fun _ _ _ => False) o (fun s' H' => H' = H ∧ awpPure Q rest s' H) s H
def stAt (s : Nat → AV) (rs : Nat → AV) : Nat → (Nat → AV)
  | 0 => s
  | k + 1 => aput n (stAt s rs k) (dstAt ops k) (rs k)
end
section
variable (P : Program) (hint : Nat → Bool) (n : Nat) (ops : Array Oper)
def KTail (Q : Post) (l : List Oper) : Post := fun e s H => match e with | .normal => awpList P hint n ops Q l s H | _ => False
def awpPureK (Q : Post) : Nat → List Oper → (Nat → AV) → AHeap → Prop
  | 0, l, s, H => awpList P hint n ops Q l s H
  | _ + 1, [], s, H => awpList P hint n ops Q [] s H
  | m + 1, o :: rest, s, H => awpOp P hint n ops (fun _ _ _ => False) o (fun s' H' => H' = H ∧ awpPureK Q m rest s' H) s H
end
theorem awpPureK_eq {P : Program} {hint : Nat → Bool} {n : Nat} {ops : Array Oper} {Q : Post} : ∀ (m : Nat) (l : List Oper) (s : Nat → AV) (H : AHeap), awpPureK P hint n ops Q m l s H = awpPure P hint n ops (KTail P hint n ops Q (l.drop m)) (l.take m) s H
  | 0, l, s, H => by simp [awpPureK, awpPure, KTail]
  | m + 1, [], s, H => by simp [awpPureK, awpPure, KTail]
  | m + 1, o :: rest, s, H => by
    have e : ∀ s' H, awpPureK P hint n ops Q m rest s' H = _ := fun s' H => awpPureK_eq m rest s' H
    simp only [awpPureK, List.drop_succ_cons, List.take_succ_cons, awpPure, e]
theorem awpPure_mono {P : Program} {hint : Nat → Bool} {n : Nat} {ops : Array Oper} {Q Q' : Post} (hq : ∀ s H, Q .normal s H → Q' .normal s H) : ∀ (l : List Oper) (s : Nat → AV) {H : AHeap}, awpPure P hint n ops Q l s H → awpPure P hint n ops Q' l s H
  | [], s, H, h => hq _ _ h
  | o :: rest, s, H, h => by
    unfold awpPure at h ⊢
    exact awpOp_mono (fun _ _ _ h => h) (fun s' H' h' => ⟨h'.1, awpPure_mono hq rest s' h'.2⟩) h
section
variable {P : Program} {hint : Nat → Bool} {n : Nat} {ops : Array Oper} {H : AHeap} {Q : Post}
theorem StepR.op {s : Nat → AV} {o : Oper} {r : AV} (h : StepR P hint n ops H s o r) {K : (Nat → AV) → AHeap → Prop} (hk : K (aput n s o.dst r) H) : awpOp P hint n ops Q o K s H := by
  unfold StepR at h
  unfold awpOp
  split at h
  · rename_i hg
    simp only [hg]
    exact h (fun r H' => K (aput n s o.dst r) H') _ hk
  · rename_i j want hg
    obtain ⟨b, hb, h⟩ := h
    simp only [hg, hb]
    split at h
    · rw [if_pos (by assumption)]; exact h (fun r H' => K (aput n s o.dst r) H') _ hk
    · rw [if_neg (by assumption)]; rw [h] at hk; exact hk
theorem StepR.congr {s s' : Nat → AV} {o : Oper} {r : AV} (h : StepR P hint n ops H s o r) (h1 : ∀ t ∈ opTmps o, s t = s' t) (h2 : ∀ j w, o.guard = some (j, w) → ∀ d, dstAt ops j = some d → s d = s' d) : StepR P hint n ops H s' o r := by
  unfold StepR at h ⊢
  split at h
  · rename_i hg
    try simp only [hg]
    intro K KP hk
    rw [← astep_congr h1]
    exact h K KP hk
  · rename_i j want hg
    try simp only [hg]
    obtain ⟨b, hb, h⟩ := h
    refine ⟨b, ?_, ?_⟩
    · rw [← hb]
      unfold ayield
      have := h2 j want hg
      unfold dstAt at this
      cases hd : (ops[j]?).bind (·.dst) with
      | none => rfl
      | some d => simp only [this d hd]
    · split at h
      · rw [if_pos (by assumption)]
        intro K KP hk
        rw [← astep_congr h1]
        exact h K KP hk
      · rw [if_neg (by assumption)]; exact h
theorem awpPure_steps (m : Nat) (hm : m ≤ ops.size) (s0 : Nat → AV) (rs0 : Nat → AV) : ∀ (l : List Oper) (k : Nat), l = (ops.toList.take m).drop k → k ≤ m → awpPure P hint n ops Q l (stAt n ops s0 rs0 k) H →
    ∃ rs, (∀ i, i < k → rs i = rs0 i) ∧ (∀ i o, k ≤ i → i < m → ops[i]? = some o → StepR P hint n ops H (stAt n ops s0 rs i) o (rs i)) ∧ Q .normal (stAt n ops s0 rs m) H
  | [], k, hl, hk, h => by
    have : m ≤ k := by have := congrArg List.length hl; simp at this; omega
    have hk' : k = m := by omega
    subst hk'
    exact ⟨rs0, fun _ _ => rfl, fun i o hi hi2 ho => absurd hi2 (by omega), h⟩
  | o :: rest, k, hl, hk, h => by
    have hlt : k < m := by have := congrArg List.length hl; simp at this; omega
    have ho : ops[k]? = some o := by
      have : ((ops.toList.take m).drop k)[0]? = some o := by rw [← hl]; rfl
      simpa [List.getElem?_take, hlt] using this
    have hrest : rest = (ops.toList.take m).drop (k + 1) := by rw [← List.drop_drop]; rw [← hl]; rfl
    have hdst : dstAt ops k = o.dst := by simp [dstAt, ho]
    have step : ∃ r, StepR P hint n ops H (stAt n ops s0 rs0 k) o r ∧ awpPure P hint n ops Q rest (aput n (stAt n ops s0 rs0 k) o.dst r) H := by
      unfold awpPure awpOp at h
      split at h
      · rename_i hg
        obtain ⟨r, H', ⟨rfl, hr⟩, hdet⟩ := astep_det h
        exact ⟨r, by unfold StepR; simp only [hg]; exact fun K KP hk => hdet K KP hk, hr⟩
      · rename_i j want hg
        split at h
        · rename_i b hb
          split at h
          · rename_i hbw
            obtain ⟨r, H', ⟨rfl, hr⟩, hdet⟩ := astep_det h
            exact ⟨r, by unfold StepR; simp only [hg]; exact ⟨b, hb, by rw [if_pos hbw]; exact fun K KP hk => hdet K KP hk⟩, hr⟩
          · rename_i hbw
            exact ⟨.tup [], by unfold StepR; simp only [hg]; exact ⟨b, hb, by simp [hbw]⟩, h.2⟩
        · exact h.elim
    obtain ⟨r, hr, hnext⟩ := step
    let rs1 : Nat → AV := fun i => if i = k then r else rs0 i
    have hst : ∀ i, i ≤ k → stAt n ops s0 rs1 i = stAt n ops s0 rs0 i := by
      intro i
      induction i with
      | zero => intro _; rfl
      | succ i ih =>
        intro hi
        simp only [stAt, ih (by omega)]
        have : rs1 i = rs0 i := by show (if i = k then r else rs0 i) = _; rw [if_neg (by omega)]
        rw [this]
    have hk1 : rs1 k = r := by show (if k = k then r else _) = r; rw [if_pos rfl]
    have h' : awpPure P hint n ops Q rest (stAt n ops s0 rs1 (k + 1)) H := by
      simp only [stAt, hst k (Nat.le_refl _), hk1, hdst]
      exact hnext
    obtain ⟨rs, h1, h2, h3⟩ := awpPure_steps m hm s0 rs1 rest (k + 1) hrest hlt h'
    have hst2 : ∀ i, i ≤ k → stAt n ops s0 rs i = stAt n ops s0 rs0 i := by
      intro i
      induction i with
      | zero => intro _; rfl
      | succ i ih =>
        intro hi
        simp only [stAt, ih (by omega)]
        have e1 : rs i = rs1 i := h1 i (by omega)
        have e2 : rs1 i = rs0 i := by show (if i = k then r else rs0 i) = _; rw [if_neg (by omega)]
        rw [e1, e2]
    refine ⟨rs, fun i hi => ?_, fun i o' hi hi2 ho' => ?_, h3⟩
    · rw [h1 i (by omega)]; show (if i = k then r else rs0 i) = _; rw [if_neg (by omega)]
    · rcases Nat.lt_or_ge k i with hki | hki
      · exact h2 i o' hki hi2 ho'
      · obtain rfl : i = k := by omega
        rw [ho] at ho'
        cases ho'
        rw [hst2 i (Nat.le_refl _), h1 i (by omega), hk1]
        exact hr
theorem countP_lt {p q : Nat → Bool} {i : Nat} (hpq : ∀ j, p j = true → q j = true) (hp : p i = false) (hq : q i = true) : ∀ l : List Nat, i ∈ l → l.countP p < l.countP q
  | [], h => by simp at h
  | x :: l, h => by
    have hle : l.countP p ≤ l.countP q := List.countP_mono_left fun j _ => hpq j
    rw [List.countP_cons, List.countP_cons]
    by_cases hx : i = x
    · subst hx
      simp [hp, hq]; omega
    · have := countP_lt hpq hp hq l (by simpa [hx] using h)
      by_cases hpx : p x = true
      · simp [hpx, hpq x hpx]; omega
      · simp [hpx]; omega
theorem bound_listed {listed : Array Bool} {o : Oper} {j : Nat} (h1 : (o.after.all fun e => !Region.binds .any e || listed.getD e.on false) = true) (h2 : bindsOn o j = true) : listed.getD j false = true := by
  unfold bindsOn at h2
  rw [List.any_eq_true] at h2
  obtain ⟨e, he, h2⟩ := h2
  rw [Array.all_eq_true_iff_forall_mem] at h1
  have := h1 e (Array.mem_toList_iff.1 he)
  simp only [Bool.and_eq_true, beq_iff_eq] at h2
  simpa [h2.1, h2.2] using this
/-- A chain at a region's end: each operation bound behind all before it. -/
theorem awpAny_chain {m0 : Nat} (hc : PureOk ops) (htl : ∀ i o, ops[i]? = some o → m0 < i → bindsOn o (i - 1) = true) : ∀ {fuel : Nat} {listed : Array Bool} {s : Nat → AV} {H : AHeap}, listed.size = ops.size → ∀ m, m0 ≤ m → m ≤ ops.size →
    (∀ i, i < m → listed.getD i true = true) → (∀ i, m ≤ i → i < ops.size → listed.getD i false = false) → awpList P hint n ops Q (ops.toList.drop m) s H → ops.size - m ≤ fuel → awpAny P hint n ops Q fuel listed s H := by
  intro fuel
  induction fuel with
  | zero =>
    intro listed s H hsz m hm0 hm hall hno h hf
    have : m = ops.size := by omega
    subst this
    rw [List.drop_of_length_le (by simp)] at h
    refine ⟨?_, h⟩
    unfold Region.ready
    rw [List.filter_eq_nil_iff]
    intro i hi
    simp only [hall i (List.mem_range.1 hi), Bool.not_true, Bool.false_and, Bool.false_eq_true, not_false_eq_true]
  | succ fuel ih =>
    intro listed s H hsz m hm0 hm hall hno h hf
    rcases Nat.lt_or_ge m ops.size with hlt | hge
    · have hget : ops[m]? = some ops[m] := by simp [hlt]
      have hun : listed.getD m true = false := by
        have := hno m (Nat.le_refl _) hlt
        simpa [Array.getD, show m < listed.size by omega] using this
      have hd : ops.toList.drop m = ops[m] :: ops.toList.drop (m + 1) := by
        rw [List.drop_eq_getElem_cons (by simpa using hlt)]; simp
      rw [hd] at h
      refine ⟨fun hr => ?_, fun i hi => ?_⟩
      · exfalso
        have : m ∈ Region.ready .any ops listed := by
          unfold Region.ready
          rw [List.mem_filter]
          refine ⟨List.mem_range.2 hlt, ?_⟩
          simp only [hun, hget, Bool.not_false, Bool.true_and, Option.map_some, Option.getD_some]
          rw [Array.all_eq_true_iff_forall_mem]
          intro e he
          cases hbe : Region.binds .any e
          · simp
          have hl := hc.down m _ hget e he hbe
          have := hall e.on hl
          have : listed.getD e.on false = true := by simpa [Array.getD, show e.on < listed.size by omega] using this
          simp [this]
        rw [hr] at this
        simp at this
      · unfold Region.ready at hi
        rw [List.mem_filter] at hi
        obtain ⟨hi, hrd⟩ := hi
        have hi := List.mem_range.1 hi
        have hgeti : ops[i]? = some ops[i] := by simp [hi]
        simp only [hgeti, Option.map_some, Option.getD_some, Bool.and_eq_true, Bool.not_eq_true'] at hrd
        obtain ⟨hu, haft⟩ := hrd
        have him : i = m := by
          rcases Nat.lt_trichotomy i m with h1 | h1 | h1
          · rw [hall i h1] at hu; cases hu
          · exact h1
          · have := bound_listed haft (htl i _ hgeti (by omega))
            rw [hno (i - 1) (by omega) (by omega)] at this
            cases this
        subst him
        simp only [hget]
        have hset : ∀ j b, (listed.setIfInBounds i true).getD j b = if j = i then true else listed.getD j b := by
          intro j b
          simp only [Array.getD_eq_getD_getElem?, Array.getElem?_setIfInBounds]
          by_cases e : i = j
          · subst e; simp [hsz, hi]
          · rw [if_neg e, if_neg (Ne.symm e)]
        refine awpOp_mono (fun _ _ _ h => h) (fun s' H' h' => ?_) h
        refine ih (by simpa using hsz) (i + 1) (by omega) hi (fun j hj => ?_) (fun j hj hj2 => ?_) h' (by omega)
        · rw [hset]
          by_cases e : j = i
          · rw [if_pos e]
          · rw [if_neg e]; exact hall j (by omega)
        · rw [hset, if_neg (by omega)]
          exact hno j (by omega) hj2
    · have : m = ops.size := by omega
      subst this
      rw [List.drop_of_length_le (by simp)] at h
      refine ⟨fun _ => h, fun i hi => ?_⟩
      unfold Region.ready at hi
      rw [List.mem_filter] at hi
      obtain ⟨hi, hrd⟩ := hi
      rw [hall i (List.mem_range.1 hi)] at hrd
      simp at hrd
theorem reachB_listed {listed : Array Bool} (hcl : ∀ j oj i, ops[j]? = some oj → listed.getD j false = true → bindsOn oj i = true → listed.getD i false = true) : ∀ (fuel : Nat) (i : Nat) (o : Oper), ops[i]? = some o →
    (∀ j, bindsOn o j = true → listed.getD j false = true) → ∀ j, reachB ops fuel i j = true → listed.getD j false = true
  | 0, i, o, ho, hb, j, h => by simp [reachB] at h
  | fuel + 1, i, o, ho, hb, j, h => by
    simp only [reachB, ho, Bool.or_eq_true, List.any_eq_true, Bool.and_eq_true] at h
    rcases h with h | ⟨k, _, h1, h2⟩
    · exact hb j h
    · have hk := hb k h1
      cases hok : ops[k]? with
      | none => cases fuel <;> simp [reachB, hok] at h2
      | some ok => exact reachB_listed hcl fuel k ok hok (fun j' hj' => hcl k ok j' hok hk hj') j h2
theorem awpAny_steps (hc : PureOk ops) (m : Nat) (hm : m ≤ ops.size) (htl : ∀ i o, ops[i]? = some o → (i = m → ∀ j, j < m → reachB ops 12 i j = true) ∧ (m < i → bindsOn o (i - 1) = true)) (s : Nat → AV) (rs : Nat → AV) (hs : ∀ i o, i < m → ops[i]? = some o → StepR P hint n ops H (stAt n ops s rs i) o (rs i)) (hQ : awpList P hint n ops Q (ops.toList.drop m) (stAt n ops s rs m) H) :
    ∀ (fuel : Nat) (listed : Array Bool) (s' : Nat → AV), listed.size = ops.size → (List.range ops.size).countP (fun j => !listed.getD j true) ≤ fuel →
      (∀ t j, dstAt ops j = some t → s' t = if listed.getD j false = true then (if t < n then rs j else .top) else s t) → (∀ t, (∀ j, dstAt ops j ≠ some t) → s' t = s t) →
      (∀ j oj i, ops[j]? = some oj → listed.getD j false = true → bindsOn oj i = true → listed.getD i false = true) → (∀ i, m ≤ i → i < ops.size → listed.getD i false = false) → awpAny P hint n ops Q fuel listed s' H := by
  have st_no : ∀ k t, (∀ j, j < k → dstAt ops j ≠ some t) → stAt n ops s rs k t = s t := by
    intro k t
    induction k with
    | zero => intro _; rfl
    | succ k ih =>
      intro h
      simp only [stAt]
      cases hd : dstAt ops k with
      | none => exact ih fun j hj => h j (by omega)
      | some d =>
        simp only [aput]
        have : t ≠ d := fun e => h k (by omega) (by rw [hd, e])
        rw [if_neg this]
        exact ih fun j hj => h j (by omega)
  have st_dst : ∀ k t j, dstAt ops j = some t → j < k → stAt n ops s rs k t = if t < n then rs j else .top := by
    intro k t j hj
    induction k with
    | zero => intro h; omega
    | succ k ih =>
      intro h
      simp only [stAt]
      by_cases e : j = k
      · subst e
        rw [hj]
        simp only [aput, if_pos]
      · have := ih (by omega)
        cases hd : dstAt ops k with
        | none => exact this
        | some d =>
          simp only [aput]
          have hne : t ≠ d := fun e' => e (hc.once j k t hj (by rw [hd, e']))
          rw [if_neg hne]
          exact this
  have bind_of : ∀ (listed : Array Bool) (o : Oper) (j : Nat), (o.after.all fun e => !Region.binds .any e || listed.getD e.on false) = true → bindsOn o j = true → listed.getD j false = true := by
    intro listed o j h1 h2
    unfold bindsOn at h2
    rw [List.any_eq_true] at h2
    obtain ⟨e, he, h2⟩ := h2
    rw [Array.all_eq_true_iff_forall_mem] at h1
    have := h1 e (Array.mem_toList_iff.1 he)
    simp only [Bool.and_eq_true, beq_iff_eq] at h2
    simpa [h2.1, h2.2] using this
  have fin : ∀ (listed : Array Bool) (s' : Nat → AV), (∀ i, i < m → listed.getD i true = true) → (∀ i, m ≤ i → i < ops.size → listed.getD i false = false) → listed.size = ops.size →
      (∀ t j, dstAt ops j = some t → s' t = if listed.getD j false = true then (if t < n then rs j else .top) else s t) → (∀ t, (∀ j, dstAt ops j ≠ some t) → s' t = s t) → s' = stAt n ops s rs m := by
    intro listed s' hall hno hsz h1 h2
    funext t
    by_cases hd : ∃ j, dstAt ops j = some t
    · obtain ⟨j, hj⟩ := hd
      have hjl := dstAt_lt hj
      rcases Nat.lt_or_ge j m with hjm | hjm
      · have : listed.getD j false = true := by
          have := hall j hjm
          simpa [Array.getD, show j < listed.size by omega] using this
        rw [h1 t j hj, if_pos this, st_dst _ t j hj hjm]
      · rw [h1 t j hj, if_neg (by simp [hno j hjm hjl]), st_no m t fun j' hj' hd' => by
          have := hc.once j' j t hd' hj
          omega]
    · have hd' : ∀ j, dstAt ops j ≠ some t := fun j hj => hd ⟨j, hj⟩
      rw [h2 t hd', st_no _ t fun j _ => hd' j]
  intro fuel
  induction fuel with
  | zero =>
    intro listed s' hsz hcnt h1 h2 hcl hno
    have hall : ∀ i, i < ops.size → listed.getD i true = true := by
      intro i hi
      have h0 : (List.range ops.size).countP (fun j => !listed.getD j true) = 0 := by omega
      rw [List.countP_eq_zero] at h0
      simpa using h0 i (List.mem_range.2 hi)
    have hs' := fin listed s' (fun i hi => hall i (by omega)) hno hsz h1 h2
    subst hs'
    exact awpAny_chain hc (fun i o ho hi => (htl i o ho).2 hi) hsz m (Nat.le_refl _) hm (fun i hi => hall i (by omega)) (fun i hi hi2 => hno i hi hi2) hQ (by
      rcases Nat.lt_or_ge m ops.size with h | h
      · have e1 := hall m h
        have e2 := hno m (Nat.le_refl _) h
        simp [Array.getD, show m < listed.size by omega] at e1 e2
        rw [e1] at e2
        cases e2
      · omega)
  | succ fuel ih =>
    intro listed s' hsz hcnt h1 h2 hcl hno
    by_cases hpre : ∀ i, i < m → listed.getD i true = true
    · have hs' := fin listed s' hpre hno hsz h1 h2
      subst hs'
      refine awpAny_chain hc (fun i o ho hi => (htl i o ho).2 hi) hsz m (Nat.le_refl _) hm hpre hno hQ ?_
      have hsub : (List.range ops.size).countP (fun j => decide (m ≤ j)) ≤ (List.range ops.size).countP (fun j => !listed.getD j true) := by
        refine List.countP_mono_left fun j hj hmj => ?_
        have hj := List.mem_range.1 hj
        have := hno j (by simpa using hmj) hj
        simp [Array.getD, show j < listed.size by omega] at this ⊢
        exact this
      have hcm : ∀ N, m ≤ N → (List.range N).countP (fun j => decide (m ≤ j)) = N - m := by
        intro N hN
        induction N with
        | zero => simp
        | succ N ihN =>
          rw [List.range_succ, List.countP_append, List.countP_singleton]
          by_cases e : m ≤ N
          · rw [ihN e]; simp [e]; omega
          · have e' : m = N + 1 := by omega
            have : (List.range N).countP (fun j => decide (m ≤ j)) = 0 := by
              rw [List.countP_eq_zero]
              intro j hj
              have := List.mem_range.1 hj
              simp; omega
            rw [this]; simp [e]; omega
      rw [hcm _ hm] at hsub
      omega
    have hex : ∃ i, i < m ∧ listed.getD i true = false ∧ ∀ j, j < i → listed.getD j true = true := by
      have : ∃ i, i < m ∧ listed.getD i true = false := by
        rcases Classical.not_forall.1 hpre with ⟨i, hi⟩
        rcases Classical.not_imp.1 hi with ⟨h1, h2⟩
        exact ⟨i, h1, by simpa using h2⟩
      obtain ⟨i, hi⟩ := this
      induction i using Nat.strongRecOn with
      | _ i ihi =>
        by_cases hj : ∃ j, j < i ∧ listed.getD j true = false
        · obtain ⟨j, hj1, hj2⟩ := hj
          exact ihi j hj1 ⟨by omega, hj2⟩
        · refine ⟨i, hi.1, hi.2, fun j hji => ?_⟩
          cases hq : listed.getD j true with
          | true => rfl
          | false => exact absurd ⟨j, hji, hq⟩ hj
    obtain ⟨i0, hi0, hu0, hb0⟩ := hex
    refine ⟨fun hr => ?_, fun i hi => ?_⟩
    · exfalso
      have hlt0 : i0 < ops.size := by omega
      have hget : ops[i0]? = some ops[i0] := by simp [hlt0]
      have : i0 ∈ Region.ready .any ops listed := by
        unfold Region.ready
        rw [List.mem_filter]
        refine ⟨List.mem_range.2 hlt0, ?_⟩
        simp only [hu0, hget, Bool.not_false, Bool.true_and, Option.map_some, Option.getD_some]
        rw [Array.all_eq_true_iff_forall_mem]
        intro e he
        cases hbe : Region.binds .any e
        · simp
        have hlt := hc.down i0 _ hget e he hbe
        have := hb0 e.on hlt
        have : listed.getD e.on false = true := by simpa [Array.getD, show e.on < listed.size by omega] using this
        simp [this]
      rw [hr] at this
      simp at this
    · unfold Region.ready at hi
      rw [List.mem_filter] at hi
      obtain ⟨hi, hrd⟩ := hi
      have hi := List.mem_range.1 hi
      have hget : ops[i]? = some ops[i] := by simp [hi]
      simp only [hget, Option.map_some, Option.getD_some, Bool.and_eq_true, Bool.not_eq_true'] at hrd
      obtain ⟨hun, haft⟩ := hrd
      simp only [hget]
      have hdst : dstAt ops i = (ops[i]).dst := by simp [dstAt, hget]
      have hun' : listed.getD i false = false := by simpa [Array.getD, show i < listed.size by omega] using hun
      have him : i < m := by
        rcases Nat.lt_or_ge i m with h | h
        · exact h
        · exfalso
          have hu0' : listed.getD i0 false = false := by simpa [Array.getD, show i0 < listed.size by omega] using hu0
          rcases Nat.lt_or_ge m i with h2 | h2
          · have := bind_of listed ops[i] (i - 1) haft ((htl i _ hget).2 h2)
            rw [hno (i - 1) (by omega) (by omega)] at this
            cases this
          · have him : i = m := by omega
            have := reachB_listed hcl 12 i _ hget (fun j hj => bind_of listed ops[i] j haft hj) i0 ((htl i _ hget).1 him i0 hi0)
            rw [this] at hu0'
            cases hu0'
      have agree : ∀ t j, dstAt ops j = some t → bindsOn ops[i] j = true → stAt n ops s rs i t = s' t := by
        intro t j hj hb
        have hl := bind_of listed ops[i] j haft hb
        have hlt : j < i := by
          unfold bindsOn at hb
          rw [List.any_eq_true] at hb
          obtain ⟨e, he, hb⟩ := hb
          simp only [Bool.and_eq_true, beq_iff_eq] at hb
          have := hc.down i _ hget e (Array.mem_toList_iff.1 he) hb.1
          omega
        rw [st_dst i t j hj hlt, h1 t j hj, if_pos hl]
      refine StepR.op ((hs i _ him hget).congr (fun t ht => ?_) fun j w hg d hd => agree d j hd (hc.guard i _ hget j w hg)) ?_
      · by_cases hd : ∃ j, dstAt ops j = some t
        · obtain ⟨j, hj⟩ := hd
          rcases hc.reads i _ hget t ht j hj with hb | ⟨oj, hoj, hb⟩
          · exact agree t j hj hb
          · have hnl : listed.getD j false = false := by
              cases hq : listed.getD j false with
              | false => rfl
              | true => rw [hcl j oj i hoj hq hb] at hun'; cases hun'
            have hlt : i < j := by
              unfold bindsOn at hb
              rw [List.any_eq_true] at hb
              obtain ⟨e, he, hb⟩ := hb
              simp only [Bool.and_eq_true, beq_iff_eq] at hb
              have := hc.down j _ hoj e (Array.mem_toList_iff.1 he) hb.1
              omega
            rw [h1 t j hj, if_neg (by simp [hnl]), st_no i t fun j' hj' hd' => by
              have := hc.once j' j t hd' hj
              omega]
        · have hd' : ∀ j, dstAt ops j ≠ some t := fun j hj => hd ⟨j, hj⟩
          rw [st_no i t fun j _ => hd' j, h2 t hd']
      · have hset : ∀ j b, (listed.setIfInBounds i true).getD j b = if j = i then true else listed.getD j b := by
          intro j b
          simp only [Array.getD_eq_getD_getElem?, Array.getElem?_setIfInBounds]
          by_cases e : i = j
          · subst e; simp [hsz, hi]
          · rw [if_neg e, if_neg (Ne.symm e)]
        refine ih _ _ (by simpa using hsz) ?_ ?_ ?_ ?_ ?_
        · have := countP_lt (p := fun j => !(listed.setIfInBounds i true).getD j true) (q := fun j => !listed.getD j true) (i := i) (fun j hj => by
            simp only [hset] at hj ⊢
            by_cases e : j = i
            · simp [e] at hj
            · simpa [e] using hj) (by simp [hset]) (by simp [hun]) (List.range ops.size) (List.mem_range.2 hi)
          omega
        · intro t j hj
          rw [hset]
          by_cases e : j = i
          · subst e
            rw [hdst] at hj
            rw [if_pos rfl, if_pos rfl, hj]
            simp only [aput, if_pos]
          · rw [if_neg e]
            cases hd : (ops[i]).dst with
            | none => exact h1 t j hj
            | some d =>
              simp only [aput]
              have : t ≠ d := fun e' => e (hc.once j i t hj (by rw [hdst, hd, e']))
              rw [if_neg this]
              exact h1 t j hj
        · intro t ht
          cases hd : (ops[i]).dst with
          | none => exact h2 t ht
          | some d =>
            simp only [aput]
            have : t ≠ d := fun e' => ht i (by rw [hdst, hd, e'])
            rw [if_neg this]
            exact h2 t ht
        · intro j oj i' hoj hlj hb
          rw [hset] at hlj ⊢
          by_cases e' : i' = i
          · rw [if_pos e']
          · rw [if_neg e']
            by_cases e : j = i
            · subst e
              rw [hget] at hoj
              cases hoj
              exact bind_of listed _ i' haft hb
            · rw [if_neg e] at hlj
              exact hcl j oj i' hoj hlj hb
        · intro j hj hj2
          rw [hset, if_neg (by omega)]
          exact hno j hj hj2
def tailCheck (ops : Array Oper) (m : Nat) : Bool := decide (m ≤ ops.size) && (List.range ops.size).all fun i => decide (i < m) || if i = m then (List.range m).all fun j => reachB ops 12 i j else match ops[i]? with
  | none => true
  | some o => bindsOn o (i - 1)
theorem tailCheck_ok {m : Nat} (h : tailCheck ops m = true) : m ≤ ops.size ∧ ∀ i o, ops[i]? = some o → (i = m → ∀ j, j < m → reachB ops 12 i j = true) ∧ (m < i → bindsOn o (i - 1) = true) := by
  unfold tailCheck at h
  simp only [Bool.and_eq_true, decide_eq_true_eq, List.all_eq_true] at h
  refine ⟨h.1, fun i o ho => ?_⟩
  have := h.2 i (List.mem_range.2 (Array.getElem?_eq_some_iff.1 ho).1)
  refine ⟨fun e j hj => ?_, fun hi => ?_⟩
  · subst e
    simp only [Nat.lt_irrefl, decide_false, Bool.false_or, if_true, List.all_eq_true] at this
    exact this j (List.mem_range.2 hj)
  · have h1 : ¬ i < m := by omega
    have h2 : ¬ i = m := by omega
    simpa only [h1, h2, decide_false, Bool.false_or, if_false, ho] using this
/-- A drawn region: m operations that leave the heap alone, then a chain. -/
theorem awp_drawC (m : Nat) {H0 : AHeap} {id : Nat} {s : Nat → AV} (hm : P.follows .mixedOrders = true) (hc : pureCheck ops = true) (ht : tailCheck ops m = true)
    (h : awpPure P hint n ops (KTail P hint n ops Q (ops.toList.drop m)) (ops.toList.take m) s H) : awp P hint n H0 (.region id ops true) Q s H := by
  obtain ⟨hms, htl⟩ := tailCheck_ok ht
  refine ⟨hm, ?_⟩
  obtain ⟨rs, _, h2, h3⟩ := awpPure_steps m hms s (fun _ => .top) (ops.toList.take m) 0 rfl (Nat.zero_le _) h
  refine awpAny_steps (pureCheck_ok hc) m hms htl s rs (fun i o hi ho => h2 i o (Nat.zero_le _) hi ho) h3 ops.size (Array.replicate ops.size false) s (by simp) ?_ ?_ ?_ ?_ ?_
  · exact Nat.le_trans List.countP_le_length (by simp)
  · intro t j hj
    have hjl := dstAt_lt hj
    rw [if_neg (by simp [Array.getD, hjl])]
  · intro t _; rfl
  · intro j oj i hoj hl
    have hjl := (Array.getElem?_eq_some_iff.1 hoj).1
    simp [Array.getD, hjl] at hl
  · intro i hi hi2
    simp [Array.getD, hi2]
/-- A drawn region of operations that leave the heap alone: in the order of its text is enough. -/
theorem awp_draw {H0 : AHeap} {id : Nat} {s : Nat → AV} (hm : P.follows .mixedOrders = true) (hc : pureCheck ops = true) (h : awpPure P hint n ops Q ops.toList s H) : awp P hint n H0 (.region id ops true) Q s H := by
  refine awp_drawC ops.size hm hc ?_ ?_
  · unfold tailCheck
    simp only [Nat.le_refl, decide_true, Bool.true_and, List.all_eq_true]
    intro i hi
    simp [List.mem_range.1 hi]
  · have e1 : ops.toList.drop ops.size = [] := List.drop_of_length_le (by simp)
    have e2 : ops.toList.take ops.size = ops.toList := List.take_of_length_le (by simp)
    rw [e1, e2]
    exact awpPure_mono (Q := Q) (Q' := KTail P hint n ops Q []) (fun s H h => h) _ _ h
/-- Cut where the given list says. -/
theorem awp_drawK (m : Nat) {H0 : AHeap} {id : Nat} {s : Nat → AV} (hm : P.follows .mixedOrders = true) (hc : pureCheck ops = true) (ht : tailCheck ops m = true)
    (h : awpPureK P hint n ops Q m ops.toList s H) : awp P hint n H0 (.region id ops true) Q s H := awp_drawC m hm hc ht (by rw [← awpPureK_eq]; exact h)
end
section
variable (P : Program) (hint : Nat → Bool) (n : Nat) (ops : Array Oper) (Q : Post) (rest : List Oper) (s : Nat → AV) (H : AHeap)
def KPure (d : Option Tmp) (H0 : AHeap) : AV → AHeap → Prop := fun r H' => H' = H0 ∧ awpPure P hint n ops Q rest (aput n s d r) H0
def KNo : Value → AHeap → Prop := fun _ _ => False
theorem KPure_app (d : Option Tmp) (H0 : AHeap) (r : AV) : KPure P hint n ops Q rest s d H0 r H = (H = H0 ∧ awpPure P hint n ops Q rest (aput n s d r) H0) := rfl
theorem awpPure_nil : awpPure P hint n ops Q [] s H = Q .normal s H := rfl
theorem awpPure_none (d : Option Tmp) (op : Op) (ty : TypeId) (p : String) (af : Array Edge) : awpPure P hint n ops Q (⟨d, op, ty, p, af, none⟩ :: rest) s H = astep P hint s H ⟨d, op, ty, p, af, none⟩ (KPure P hint n ops Q rest s d H) KNo := rfl
theorem awpPure_guard (d : Option Tmp) (op : Op) (ty : TypeId) (p : String) (af : Array Edge) (j : Nat) (b : Bool) :
    awpPure P hint n ops Q (⟨d, op, ty, p, af, some (j, b)⟩ :: rest) s H = ob (ayield ops s n j b) fun b' => aite b' (astep P hint s H ⟨d, op, ty, p, af, some (j, b)⟩ (KPure P hint n ops Q rest s d H) KNo) (H = H ∧ awpPure P hint n ops Q rest (aput n s d (.tup [])) H) := by
  simp only [awpPure, awpOp, nf_id]
  cases ayield ops s n j b with
  | none => rfl
  | some b' => cases b' <;> rfl
def KPureK (m : Nat) (d : Option Tmp) (H0 : AHeap) : AV → AHeap → Prop := fun r H' => H' = H0 ∧ awpPureK P hint n ops Q m rest (aput n s d r) H0
theorem KPureK_app (m : Nat) (d : Option Tmp) (H0 : AHeap) (r : AV) : KPureK P hint n ops Q rest s m d H0 r H = (H = H0 ∧ awpPureK P hint n ops Q m rest (aput n s d r) H0) := rfl
theorem awpPureK_zero (l : List Oper) : awpPureK P hint n ops Q 0 l s H = awpList P hint n ops Q l s H := by cases l <;> rfl
theorem awpPureK_none (m : Nat) (d : Option Tmp) (op : Op) (ty : TypeId) (p : String) (af : Array Edge) : awpPureK P hint n ops Q (m + 1) (⟨d, op, ty, p, af, none⟩ :: rest) s H = astep P hint s H ⟨d, op, ty, p, af, none⟩ (KPureK P hint n ops Q rest s m d H) KNo := rfl
theorem awpPureK_guard (m : Nat) (d : Option Tmp) (op : Op) (ty : TypeId) (p : String) (af : Array Edge) (j : Nat) (b : Bool) :
    awpPureK P hint n ops Q (m + 1) (⟨d, op, ty, p, af, some (j, b)⟩ :: rest) s H = ob (ayield ops s n j b) fun b' => aite b' (astep P hint s H ⟨d, op, ty, p, af, some (j, b)⟩ (KPureK P hint n ops Q rest s m d H) KNo) (H = H ∧ awpPureK P hint n ops Q m rest (aput n s d (.tup [])) H) := by
  simp only [awpPureK, awpOp, nf_id]
  cases ayield ops s n j b with
  | none => rfl
  | some b' => cases b' <;> rfl
theorem awpPureK_mk (m : Nat) (l : List Oper) : awpPureK P hint n ops Q m l.toArray.toList s H = awpPureK P hint n ops Q m l s H := rfl
theorem awpPure_mk (l : List Oper) : awpPure P hint n ops Q l.toArray.toList s H = awpPure P hint n ops Q l s H := rfl
end
@[congr] theorem cg_pure {P : Program} {hint : Nat → Bool} {n : Nat} {ops : Array Oper} {Q : Post} {l : List Oper} {s : Nat → AV} {H H' : AHeap} (h : nf H = H') : awpPure P hint n ops Q l s H = awpPure P hint n ops Q l s H' := by rw [← h]; rfl
@[congr] theorem cg_KPure {P : Program} {hint : Nat → Bool} {n : Nat} {ops : Array Oper} {Q : Post} {rest : List Oper} {s : Nat → AV} {d : Option Tmp} {H0 H H' : AHeap} {r r' : AV} (g : nf r = r') (h : nf H = H') : KPure P hint n ops Q rest s d H0 r H = KPure P hint n ops Q rest s d H0 r' H' := by rw [← g, ← h]; rfl
@[congr] theorem cg_pureK {P : Program} {hint : Nat → Bool} {n : Nat} {ops : Array Oper} {Q : Post} {m : Nat} {l : List Oper} {s : Nat → AV} {H H' : AHeap} (h : nf H = H') : awpPureK P hint n ops Q m l s H = awpPureK P hint n ops Q m l s H' := by rw [← h]; rfl
@[congr] theorem cg_KPureK {P : Program} {hint : Nat → Bool} {n : Nat} {ops : Array Oper} {Q : Post} {rest : List Oper} {s : Nat → AV} {m : Nat} {d : Option Tmp} {H0 H H' : AHeap} {r r' : AV} (g : nf r = r') (h : nf H = H') : KPureK P hint n ops Q rest s m d H0 r H = KPureK P hint n ops Q rest s m d H0 r' H' := by rw [← g, ← h]; rfl
attribute [go_sem] KPureK_app awpPureK_zero awpPureK_none awpPureK_guard awpPureK_mk
attribute [go_sem] KPure_app awpPure_nil awpPure_none awpPure_guard awpPure_mk
end Go.Proofs.YtfmmemboakdeiaaAw

/- Regions that draw their order: in the order of their text is enough, where operations leave the heap alone. Words for the program's data. Structs held against structs. The program's structs held against each other. Values, atoms: the program's data as Lean's. cmp.Compare, flt.Compare, val.Compare: what they do. Functions of which a result lies in memory. The empty text. val.May: what it does. slices.IndexFunc, ContainsFunc of values with a closure: what they do. An owned array that is handed on: from then on it never changes. Drawn regions in which some operations change the heap: what does not depend on that. plain.Check: what it does. leb.Zig, delta.Steps: what they do. Numbers that are not negative, in the machine's operations. math/bits.Len64: what it does; numbers of bits. What a function leaves may be frozen afterwards. Lists of numbers and of bytes. -/
import Derived.Laws.StructEq
import Derived.Laws.Externs
import Derived.Laws.Bits64b
import Derived.Laws.Bits64
import Derived.Test.YtkapgooedfompaaM02
namespace Go.Proofs.YtkapgooedfompaaAw
open Go.RowKit
set_option linter.unusedVariables false
set_option linter.unusedSimpArgs false
/-! ### What an operation comes to is one thing; and it reads its operands alone -/
section
variable {P : Program} {hint : Nat → Bool} {s s' : Nat → AV} {H : AHeap}
theorem binK_det {op : BinOp} {t : TypeId} {u v : Value} {K : Value → Prop} (h : binK P op t u v K) : ∃ r, K r ∧ ∀ K', K' r → binK P op t u v K' := by
  unfold binK at h ⊢
  repeat' (split at h)
  all_goals first | exact h.elim | exact ⟨_, h, fun K' g => g⟩ | exact ⟨_, h.2, fun K' g => ⟨h.1, g⟩⟩ | exact ⟨_, h.2.2, fun K' g => ⟨h.1, h.2.1, g⟩⟩ | (obtain ⟨r, h1, h2⟩ := h; first | exact ⟨r, h2, fun K' g => ⟨r, h1, g⟩⟩ | exact ⟨r, h2, fun K' g => by simp_all; exact ⟨r, h1, g⟩⟩)
theorem unK_det {op : UnOp} {u : Value} {K : Value → Prop} (h : unK op u K) : ∃ r, K r ∧ ∀ K', K' r → unK op u K' := by
  cases op <;> cases u <;> first | exact h.elim | exact ⟨_, h, fun K' g => g⟩ | exact ⟨_, h.2, fun K' g => ⟨h.1, g⟩⟩
theorem abuiltin_det {b : Builtin} {args : List Operand} {tys : List TypeId} {K : AV → AHeap → Prop} (h : abuiltin P s H b args tys K) : ∃ r H', K r H' ∧ ∀ K', K' r H' → abuiltin P s H b args tys K' := by
  unfold abuiltin at h ⊢
  repeat' (split at h)
  all_goals first | exact h.elim | (exact (show False from by first | exact h.2 | exact h.2.2 | exact h.2.2.2 | exact h.2.2.2.2).elim) | exact ⟨_, _, h, fun K' g => g⟩ | exact ⟨_, _, h.2, fun K' g => ⟨h.1, g⟩⟩ | exact ⟨_, _, h.2.2, fun K' g => ⟨h.1, h.2.1, g⟩⟩ | exact ⟨_, _, h.2.2.2, fun K' g => ⟨h.1, h.2.1, h.2.2.1, g⟩⟩ | exact ⟨_, _, h.2.2.2.2.2, fun K' g => ⟨h.1, h.2.1, h.2.2.1, h.2.2.2.1, h.2.2.2.2.1, g⟩⟩ | exact ⟨_, _, h.2.2.2.2.2.2, fun K' g => ⟨h.1, h.2.1, h.2.2.1, h.2.2.2.1, h.2.2.2.2.1, h.2.2.2.2.2.1, g⟩⟩
theorem aslice_det {k : Nat} {lo : Option Int} {hi : Nat → Option Int} {x : AV} {K : AV → AHeap → Prop} (h : aslice H k lo hi K x) : ∃ r H', K r H' ∧ ∀ K', K' r H' → aslice H k lo hi K' x := by
  cases x with
  | d u =>
    cases u with
    | v _ => exact h.elim
    | list nn es =>
      simp only [aslice] at h ⊢
      obtain ⟨h0, h⟩ := h
      cases lo with
      | none => exact h.elim
      | some l =>
        cases hq : hi es.length with
        | none => rw [hq] at h; exact h.elim
        | some m => rw [hq] at h; exact ⟨_, _, h.2.2.2, fun K' g => ⟨h0, h.1, h.2.1, h.2.2.1, g⟩⟩
  | sl id ver off len =>
    simp only [aslice] at h ⊢
    cases ho : H[id]? with
    | none => rw [ho] at h; exact h.elim
    | some o =>
      rw [ho] at h
      cases lo with
      | none => exact h.elim
      | some l =>
        cases hq : hi len with
        | none => rw [hq] at h; exact h.elim
        | some m => rw [hq] at h; exact ⟨_, _, h.2.2.2.2.2, fun K' g => ⟨h.1, h.2.1, h.2.2.1, h.2.2.2.1, h.2.2.2.2.1, g⟩⟩
  | _ => exact h.elim
theorem aslice3_det {k : Nat} {lo hi mx : Option Int} {x : AV} {K : AV → AHeap → Prop} (h : aslice3 H k lo hi mx K x) : ∃ r H', K r H' ∧ ∀ K', K' r H' → aslice3 H k lo hi mx K' x := by
  cases x with
  | d u =>
    cases u with
    | v _ => exact h.elim
    | list nn es => cases lo <;> cases hi <;> cases mx <;> first | exact h.2.elim | exact ⟨_, _, h.2.2.2.2.2, fun K' g => ⟨h.1, h.2.1, h.2.2.1, h.2.2.2.1, h.2.2.2.2.1, g⟩⟩
  | _ => exact h.elim
theorem aassert_det {t : TypeId} {ok : Bool} {v : Option Value} {K : AV → AHeap → Prop} (h : aassert P t ok H K v) : ∃ r H', K r H' ∧ ∀ K', K' r H' → aassert P t ok H K' v := by
  unfold aassert at h ⊢
  cases e : assertR P t ok v with
  | none => rw [e] at h; exact h.2.elim
  | some r => rw [e] at h; exact ⟨_, _, h.2, fun K' g => ⟨h.1, g⟩⟩
/-- Only the step of a range over a map has more than one outcome. -/
def detOp : Op → Bool
  | .next _ _ => false
  | _ => true
theorem aop_det {hi : Bool} {op : Op} {K : AV → AHeap → Prop} (hd : detOp op = true) (h : aop P s H hi op K) : ∃ r H', K r H' ∧ ∀ K', K' r H' → aop P s H hi op K' := by
  unfold aop at h ⊢
  repeat' (split at h)
  all_goals first | exact h.elim | (cases hd; done) | (exact (show False from by first | exact h.2 | exact h.2.2 | exact h.2.2.2 | exact h.2.2.2.2).elim) | exact ⟨_, _, h, fun K' g => g⟩ | exact ⟨_, _, h.2, fun K' g => ⟨h.1, g⟩⟩ | exact ⟨_, _, h.2.2, fun K' g => ⟨h.1, h.2.1, g⟩⟩ | exact ⟨_, _, h.2.2.2, fun K' g => ⟨h.1, h.2.1, h.2.2.1, g⟩⟩ | exact ⟨_, _, h.2.2.2.2.2.2, fun K' g => ⟨h.1, h.2.1, h.2.2.1, h.2.2.2.1, h.2.2.2.2.1, h.2.2.2.2.2.1, g⟩⟩ | exact ⟨_, _, h.2.2.2.2, fun K' g => ⟨h.1, h.2.1, h.2.2.1, h.2.2.2.1, g⟩⟩ | exact abuiltin_det h |
    (obtain ⟨r, h1, h2⟩ := binK_det h; exact ⟨_, _, h1, fun K' g => h2 _ g⟩) | (obtain ⟨r, h1, h2⟩ := unK_det h; exact ⟨_, _, h1, fun K' g => h2 _ g⟩) | exact aslice_det h | exact aslice3_det h | exact aassert_det h | skip
  all_goals first | (exfalso; simp_all; done) | exact ⟨_, _, h, fun K' g => by rw [if_pos (by assumption)]; exact g⟩ | exact ⟨_, _, h, fun K' g => by rw [if_neg (by assumption)]; exact g⟩ | exact ⟨_, _, h.2, fun K' g => by rw [if_pos (by assumption)]; exact ⟨h.1, g⟩⟩ | exact ⟨_, _, h.2, fun K' g => ⟨h.1, by first | (rw [if_pos (by assumption)]; exact g) | (rw [if_neg (by assumption)]; exact g)⟩⟩ |
    exact ⟨_, _, h.2, fun K' g => by rw [if_neg (by assumption)]; exact ⟨h.1, by first | (rw [if_pos (by assumption)]; exact g) | (rw [if_neg (by assumption)]; exact g)⟩⟩ | trace_state
theorem astep_det {o : Oper} {K : AV → AHeap → Prop} (hdo : detOp o.op = true) (h : astep P hint s H o K (fun _ _ => False)) : ∃ r H', K r H' ∧ ∀ K' KP', K' r H' → astep P hint s H o K' KP' := by
  unfold astep at h ⊢
  split at h
  · split at h <;> exact h.elim
  · split at h
    · split at h
      · obtain ⟨res, H', hd, h⟩ := h
        cases res with
        | ok r => exact ⟨r, H', h, fun K' KP' g => ⟨.ok r, H', hd, g⟩⟩
        | panic v => exact h.elim
      · exact h.elim
    · obtain ⟨r, H', h1, h2⟩ := abuiltin_det h
      exact ⟨r, H', h1, fun K' KP' g => h2 _ g⟩
    · exact h.elim
  · obtain ⟨r, H', h1, h2⟩ := aop_det hdo h
    exact ⟨r, H', h1, fun K' KP' g => h2 _ g⟩
theorem aeval_congr {x : Operand} (h : ∀ t, x = .tmp t → s t = s' t) : aeval s x = aeval s' x := by
  cases x with
  | tmp t => exact h t rfl
  | _ => rfl
def opTmps (o : Oper) : List Tmp := o.op.operands.toList.filterMap fun | .tmp t => some t | _ => none
theorem opTmps_mem {o : Oper} (h : ∀ t ∈ opTmps o, s t = s' t) (x : Operand) (hx : x ∈ o.op.operands) : aeval s x = aeval s' x :=
  aeval_congr fun t ht => h t (by subst ht; exact List.mem_filterMap.2 ⟨_, Array.mem_toList_iff.2 hx, rfl⟩)
theorem aparts_congr {parts : Array (Nat × Operand)} (h : ∀ p ∈ parts.toList, aeval s p.2 = aeval s' p.2) : aparts s parts = aparts s' parts := by
  unfold aparts
  exact List.map_congr_left fun p hp => by rw [h p hp]
theorem intArgs_congr {k : IntKind} : ∀ {xs : List Operand}, (∀ x ∈ xs, aeval s x = aeval s' x) → intArgs s k xs = intArgs s' k xs
  | [], _ => rfl
  | x :: xs, h => by
    unfold intArgs
    rw [h x (by simp), intArgs_congr fun y hy => h y (by simp [hy])]
theorem abuiltin_congr {b : Builtin} {args : List Operand} {tys : List TypeId} {K : AV → AHeap → Prop} (h : ∀ x ∈ args, aeval s x = aeval s' x) : abuiltin P s H b args tys K = abuiltin P s' H b args tys K := by
  unfold abuiltin
  split
  · rw [h _ (by simp)]
  · rw [h _ (by simp), h _ (by simp)]
  · rw [h _ (by simp)]
  · rename_i x xs
    rw [h x (by simp)]
    have e : ∀ k, intArgs s k xs = intArgs s' k xs := fun k => intArgs_congr fun y hy => h y (by simp [hy])
    simp only [e]
  · rename_i x xs
    rw [h x (by simp)]
    have e : ∀ k, intArgs s k xs = intArgs s' k xs := fun k => intArgs_congr fun y hy => h y (by simp [hy])
    simp only [e]
  · rfl
theorem aop_congr {hi : Bool} {op : Op} {K : AV → AHeap → Prop} (h : ∀ x ∈ op.operands, aeval s x = aeval s' x) : aop P s H hi op K = aop P s' H hi op K := by
  unfold aop
  split
  all_goals first
    | rfl
    | (have e := aparts_congr (s := s) (s' := s') fun p hp => h p.2 (by simp only [Op.operands, List.mem_toArray, List.mem_map]; exact ⟨p, hp, rfl⟩); simp only [e]; done)
    | exact abuiltin_congr fun x hx => h x (by simp only [Op.operands, Call.operands]; exact Array.mem_append.2 (.inr (Array.mem_toList_iff.1 hx)))
    | (split
       · exact abuiltin_congr fun x hx => h x (by simp only [Op.operands, Call.operands]; exact Array.mem_append.2 (.inr (Array.mem_toList_iff.1 hx)))
       · rfl)
    | (rename_i x lo hi' mx
       have e0 : aeval s x = aeval s' x := h _ (by simp [Op.operands])
       have e2 : sliceLo s (some hi') = sliceLo s' (some hi') := by simp only [sliceLo]; rw [h hi' (by simp [Op.operands])]
       have e3 : sliceLo s (some mx) = sliceLo s' (some mx) := by simp only [sliceLo]; rw [h mx (by simp [Op.operands])]
       have e1 : sliceLo s lo = sliceLo s' lo := by
         cases lo with
         | none => rfl
         | some y => simp only [sliceLo]; rw [h y (by simp [Op.operands])]
       rw [e0, e1, e2, e3]; done)
    | (rename_i x xT t ok; rw [h x (by simp [Op.operands])]; done)
    | (rename_i x lo hi'
       have e0 : aeval s x = aeval s' x := h _ (by simp [Op.operands])
       have e1 : sliceLo s lo = sliceLo s' lo := by
         cases lo with
         | none => rfl
         | some y => simp only [sliceLo]; rw [h y (by simp [Op.operands])]
       have e2 : ∀ n, sliceHi s n hi' = sliceHi s' n hi' := by
         intro n
         cases hi' with
         | none => rfl
         | some y => simp only [sliceHi]; rw [h y (by simp [Op.operands])]
       first | (simp only [e0, e1, e2]; done) | (simp only [e0, e1, funext e2]; done))
    | (simp [Op.operands] at h; simp only [h]; done)
    | (rename_i caps; rw [List.map_congr_left fun x hx => h x (by simp only [Op.operands]; exact Array.mem_append.2 (.inr (Array.mem_toList_iff.1 hx)))]; done)
    | skip
  all_goals
    rename_i x lo hi'
    have e0 : aeval s x = aeval s' x := h _ (by simp [Op.operands])
    have e1 : sliceLo s lo = sliceLo s' lo := by
      cases lo with
      | none => rfl
      | some y => simp only [sliceLo]; rw [h y (by simp [Op.operands])]
    have e2 : ∀ n, sliceHi s n hi' = sliceHi s' n hi' := by
      intro n
      cases hi' with
      | none => rfl
      | some y => simp only [sliceHi]; rw [h y (by simp [Op.operands])]
    simp only [e0, e1, e2, nf_id]
theorem astep_congr {o : Oper} {K : AV → AHeap → Prop} {KP : Value → AHeap → Prop} (h : ∀ t ∈ opTmps o, s t = s' t) : astep P hint s H o K KP = astep P hint s' H o K KP := by
  have h' := opTmps_mem h
  unfold astep
  split
  · rename_i x hx
    rw [h' x (by rw [hx]; simp [Op.operands])]
  · rename_i c hc
    have hm : ∀ x ∈ c.operands, aeval s x = aeval s' x := fun x hx => h' x (by rw [hc]; exact hx)
    split
    · rename_i f hf
      have e1 : aeval s f = aeval s' f := hm f (by simp [Call.operands, hf])
      have e2 : c.args.toList.map (aeval s) = c.args.toList.map (aeval s') := List.map_congr_left fun x hx => hm x (by simp only [Call.operands]; exact Array.mem_append.2 (.inr (Array.mem_toList_iff.1 hx)))
      rw [e1, e2]
    · exact abuiltin_congr fun x hx => hm x (by simp only [Call.operands]; exact Array.mem_append.2 (.inr (Array.mem_toList_iff.1 hx)))
    · rfl
  · exact aop_congr h'
end

/-! ### A region that draws its order, of operations that leave the heap alone -/
def dstAt (ops : Array Oper) (j : Nat) : Option Tmp := (ops[j]?).bind (·.dst)
def bindsOn (o : Oper) (j : Nat) : Bool := o.after.toList.any fun e => Region.binds .any e && e.on == j
/-- Whether i is bound behind j, by way of others too. -/
def reachB (ops : Array Oper) : Nat → Nat → Nat → Bool
  | 0, _, _ => false
  | fuel + 1, i, j => match ops[i]? with
    | none => false
    | some o => bindsOn o j || (List.range i).any fun k => bindsOn o k && reachB ops fuel k j
def pureCheck (ops : Array Oper) : Bool := (List.range ops.size).all fun i => match ops[i]? with
  | none => true
  | some o => (o.after.toList.all fun e => !Region.binds .any e || decide (e.on < i)) && ((opTmps o).all fun t => (List.range ops.size).all fun j => !(dstAt ops j == some t) || (bindsOn o j || (match ops[j]? with | some oj => bindsOn oj i | none => false))) &&
    (match o.guard with | some (j, _) => bindsOn o j | none => true) && detOp o.op && ((List.range ops.size).all fun j => j == i || (dstAt ops i).isNone || !(dstAt ops j == dstAt ops i))
structure PureOk (ops : Array Oper) : Prop where
  down : ∀ (i : Nat) (o : Oper), ops[i]? = some o → ∀ e ∈ o.after, Region.binds .any e = true → e.on < i
  reads : ∀ (i : Nat) (o : Oper), ops[i]? = some o → ∀ t ∈ opTmps o, ∀ j, dstAt ops j = some t → bindsOn o j = true ∨ ∃ oj, ops[j]? = some oj ∧ bindsOn oj i = true
  guard : ∀ (i : Nat) (o : Oper), ops[i]? = some o → ∀ j w, o.guard = some (j, w) → bindsOn o j = true
  det : ∀ (i : Nat) (o : Oper), ops[i]? = some o → detOp o.op = true
  once : ∀ (i j : Nat) (t : Tmp), dstAt ops i = some t → dstAt ops j = some t → i = j
theorem dstAt_lt {ops : Array Oper} {j : Nat} {t : Tmp} (h : dstAt ops j = some t) : j < ops.size := by
  unfold dstAt at h
  obtain ⟨o, ho, _⟩ := Option.bind_eq_some_iff.1 h
  exact (Array.getElem?_eq_some_iff.1 ho).1
theorem pureCheck_ok {ops : Array Oper} (h : pureCheck ops = true) : PureOk ops := by
  unfold pureCheck at h
  rw [List.all_eq_true] at h
  have key : ∀ i o, ops[i]? = some o → ((o.after.toList.all fun e => !Region.binds .any e || decide (e.on < i)) = true ∧ ((opTmps o).all fun t => (List.range ops.size).all fun j => !(dstAt ops j == some t) || (bindsOn o j || (match ops[j]? with | some oj => bindsOn oj i | none => false))) = true ∧
      (match o.guard with | some (j, _) => bindsOn o j | none => true) = true ∧ detOp o.op = true) ∧ ((List.range ops.size).all fun j => j == i || (dstAt ops i).isNone || !(dstAt ops j == dstAt ops i)) = true := by
    intro i o ho
    have := h i (List.mem_range.2 (Array.getElem?_eq_some_iff.1 ho).1)
    simp only [ho, Bool.and_eq_true] at this
    exact ⟨⟨this.1.1.1.1, this.1.1.1.2, this.1.1.2, this.1.2⟩, this.2⟩
  refine ⟨fun i o ho e he hbe => ?_, fun i o ho t ht j hj => ?_, fun i o ho j w hg => ?_, fun i o ho => (key i o ho).1.2.2.2, fun i j t hi hj => ?_⟩
  · have := (key i o ho).1.1
    rw [List.all_eq_true] at this
    simpa [hbe] using this e (Array.mem_toList_iff.2 he)
  · have := (key i o ho).1.2.1
    rw [List.all_eq_true] at this
    have := this t ht
    rw [List.all_eq_true] at this
    have := this j (List.mem_range.2 (dstAt_lt hj))
    have hjl := dstAt_lt hj
    have hoj : ops[j]? = some ops[j] := by simp [hjl]
    rw [hj, hoj] at this
    simp only [beq_self_eq_true, Bool.not_true, Bool.false_or, Bool.or_eq_true] at this
    rcases this with h | h
    · exact .inl h
    · exact .inr ⟨_, hoj, h⟩
  · have := (key i o ho).1.2.2.1
    simpa [hg] using this
  · obtain ⟨o, ho, _⟩ := Option.bind_eq_some_iff.1 (show (ops[i]?).bind (·.dst) = some t from hi)
    have := (key i o ho).2
    rw [List.all_eq_true] at this
    have := this j (List.mem_range.2 (dstAt_lt hj))
    simp [hi, hj] at this
    exact this.symm
section
variable (P : Program) (hint : Nat → Bool) (n : Nat) (ops : Array Oper)
def StepR (H : AHeap) (s : Nat → AV) (o : Oper) (r : AV) : Prop := match o.guard with
  | none => ∀ K KP, K r H → astep P hint s H o K KP
  | some (j, want) => ∃ b, ayield ops s n j want = some b ∧ if b = true then ∀ K KP, K r H → astep P hint s H o K KP else r = .tup []
/-- The region in the order of its text, where each operation leaves the heap alone. -/
def awpPure (Q : Post) : List Oper → (Nat → AV) → AHeap → Prop
  | [], s, H => Q .normal s H
  | o :: rest, s, H => awpOp P hint n ops (fun _ _ _ => False) o (fun s' H' => H' = H ∧ awpPure Q rest s' H) s H
def stAt (s : Nat → AV) (rs : Nat → AV) : Nat → (Nat → AV)
  | 0 => s
  | k + 1 => aput n (stAt s rs k) (dstAt ops k) (rs k)
end
section
variable (P : Program) (hint : Nat → Bool) (n : Nat) (ops : Array Oper)
def KTail (Q : Post) (l : List Oper) : Post := fun e s H => match e with | .normal => awpList P hint n ops Q l s H | _ => False
def awpPureK (Q : Post) : Nat → List Oper → (Nat → AV) → AHeap → Prop
  | 0, l, s, H => awpList P hint n ops Q l s H
  | _ + 1, [], s, H => awpList P hint n ops Q [] s H
  | m + 1, o :: rest, s, H => awpOp P hint n ops (fun _ _ _ => False) o (fun s' H' => H' = H ∧ awpPureK Q m rest s' H) s H
end
theorem awpPureK_eq {P : Program} {hint : Nat → Bool} {n : Nat} {ops : Array Oper} {Q : Post} : ∀ (m : Nat) (l : List Oper) (s : Nat → AV) (H : AHeap), awpPureK P hint n ops Q m l s H = awpPure P hint n ops (KTail P hint n ops Q (l.drop m)) (l.take m) s H
  | 0, l, s, H => by simp [awpPureK, awpPure, KTail]
  | m + 1, [], s, H => by simp [awpPureK, awpPure, KTail]
  | m + 1, o :: rest, s, H => by
    have e : ∀ s' H, awpPureK P hint n ops Q m rest s' H = _ := fun s' H => awpPureK_eq m rest s' H
    simp only [awpPureK, List.drop_succ_cons, List.take_succ_cons, awpPure, e]
theorem awpPure_mono {P : Program} {hint : Nat → Bool} {n : Nat} {ops : Array Oper} {Q Q' : Post} (hq : ∀ s H, Q .normal s H → Q' .normal s H) : ∀ (l : List Oper) (s : Nat → AV) {H : AHeap}, awpPure P hint n ops Q l s H → awpPure P hint n ops Q' l s H
  | [], s, H, h => hq _ _ h
  | o :: rest, s, H, h => by
    unfold awpPure at h ⊢
    exact awpOp_mono (fun _ _ _ h => h) (fun s' H' h' => ⟨h'.1, awpPure_mono hq rest s' h'.2⟩) h
section
variable {P : Program} {hint : Nat → Bool} {n : Nat} {ops : Array Oper} {H : AHeap} {Q : Post}
theorem StepR.op {s : Nat → AV} {o : Oper} {r : AV} (h : StepR P hint n ops H s o r) {K : (Nat → AV) → AHeap → Prop} (hk : K (aput n s o.dst r) H) : awpOp P hint n ops Q o K s H := by
  unfold StepR at h
  unfold awpOp
  split at h
  · rename_i hg
    simp only [hg]
    exact h (fun r H' => K (aput n s o.dst r) H') _ hk
  · rename_i j want hg
    obtain ⟨b, hb, h⟩ := h
    simp only [hg, hb]
    split at h
    · rw [if_pos (by assumption)]; exact h (fun r H' => K (aput n s o.dst r) H') _ hk
    · rw [if_neg (by assumption)]; rw [h] at hk; exact hk
theorem StepR.congr {s s' : Nat → AV} {o : Oper} {r : AV} (h : StepR P hint n ops H s o r) (h1 : ∀ t ∈ opTmps o, s t = s' t) (h2 : ∀ j w, o.guard = some (j, w) → ∀ d, dstAt ops j = some d → s d = s' d) : StepR P hint n ops H s' o r := by
  unfold StepR at h ⊢
  split at h
  · rename_i hg
    try simp only [hg]
    intro K KP hk
    rw [← astep_congr h1]
    exact h K KP hk
  · rename_i j want hg
    try simp only [hg]
    obtain ⟨b, hb, h⟩ := h
    refine ⟨b, ?_, ?_⟩
    · rw [← hb]
      unfold ayield
      have := h2 j want hg
      unfold dstAt at this
      cases hd : (ops[j]?).bind (·.dst) with
      | none => rfl
      | some d => simp only [this d hd]
    · split at h
      · rw [if_pos (by assumption)]
        intro K KP hk
        rw [← astep_congr h1]
        exact h K KP hk
      · rw [if_neg (by assumption)]; exact h
theorem awpPure_steps (hdt : ∀ (i : Nat) (o : Oper), ops[i]? = some o → detOp o.op = true) (m : Nat) (hm : m ≤ ops.size) (s0 : Nat → AV) (rs0 : Nat → AV) : ∀ (l : List Oper) (k : Nat), l = (ops.toList.take m).drop k → k ≤ m → awpPure P hint n ops Q l (stAt n ops s0 rs0 k) H →
    ∃ rs, (∀ i, i < k → rs i = rs0 i) ∧ (∀ i o, k ≤ i → i < m → ops[i]? = some o → StepR P hint n ops H (stAt n ops s0 rs i) o (rs i)) ∧ Q .normal (stAt n ops s0 rs m) H
  | [], k, hl, hk, h => by
    have : m ≤ k := by have := congrArg List.length hl; simp at this; omega
    have hk' : k = m := by omega
    subst hk'
    exact ⟨rs0, fun _ _ => rfl, fun i o hi hi2 ho => absurd hi2 (by omega), h⟩
  | o :: rest, k, hl, hk, h => by
    have hlt : k < m := by have := congrArg List.length hl; simp at this; omega
    have ho : ops[k]? = some o := by
      have : ((ops.toList.take m).drop k)[0]? = some o := by rw [← hl]; rfl
      simpa [List.getElem?_take, hlt] using this
    have hrest : rest = (ops.toList.take m).drop (k + 1) := by rw [← List.drop_drop]; rw [← hl]; rfl
    have hdst : dstAt ops k = o.dst := by simp [dstAt, ho]
    have step : ∃ r, StepR P hint n ops H (stAt n ops s0 rs0 k) o r ∧ awpPure P hint n ops Q rest (aput n (stAt n ops s0 rs0 k) o.dst r) H := by
      unfold awpPure awpOp at h
      split at h
      · rename_i hg
        obtain ⟨r, H', ⟨rfl, hr⟩, hdet⟩ := astep_det (hdt k o ho) h
        exact ⟨r, by unfold StepR; simp only [hg]; exact fun K KP hk => hdet K KP hk, hr⟩
      · rename_i j want hg
        split at h
        · rename_i b hb
          split at h
          · rename_i hbw
            obtain ⟨r, H', ⟨rfl, hr⟩, hdet⟩ := astep_det (hdt k o ho) h
            exact ⟨r, by unfold StepR; simp only [hg]; exact ⟨b, hb, by rw [if_pos hbw]; exact fun K KP hk => hdet K KP hk⟩, hr⟩
          · rename_i hbw
            exact ⟨.tup [], by unfold StepR; simp only [hg]; exact ⟨b, hb, by simp [hbw]⟩, h.2⟩
        · exact h.elim
    obtain ⟨r, hr, hnext⟩ := step
    let rs1 : Nat → AV := fun i => if i = k then r else rs0 i
    have hst : ∀ i, i ≤ k → stAt n ops s0 rs1 i = stAt n ops s0 rs0 i := by
      intro i
      induction i with
      | zero => intro _; rfl
      | succ i ih =>
        intro hi
        simp only [stAt, ih (by omega)]
        have : rs1 i = rs0 i := by show (if i = k then r else rs0 i) = _; rw [if_neg (by omega)]
        rw [this]
    have hk1 : rs1 k = r := by show (if k = k then r else _) = r; rw [if_pos rfl]
    have h' : awpPure P hint n ops Q rest (stAt n ops s0 rs1 (k + 1)) H := by
      simp only [stAt, hst k (Nat.le_refl _), hk1, hdst]
      exact hnext
    obtain ⟨rs, h1, h2, h3⟩ := awpPure_steps hdt m hm s0 rs1 rest (k + 1) hrest hlt h'
    have hst2 : ∀ i, i ≤ k → stAt n ops s0 rs i = stAt n ops s0 rs0 i := by
      intro i
      induction i with
      | zero => intro _; rfl
      | succ i ih =>
        intro hi
        simp only [stAt, ih (by omega)]
        have e1 : rs i = rs1 i := h1 i (by omega)
        have e2 : rs1 i = rs0 i := by show (if i = k then r else rs0 i) = _; rw [if_neg (by omega)]
        rw [e1, e2]
    refine ⟨rs, fun i hi => ?_, fun i o' hi hi2 ho' => ?_, h3⟩
    · rw [h1 i (by omega)]; show (if i = k then r else rs0 i) = _; rw [if_neg (by omega)]
    · rcases Nat.lt_or_ge k i with hki | hki
      · exact h2 i o' hki hi2 ho'
      · obtain rfl : i = k := by omega
        rw [ho] at ho'
        cases ho'
        rw [hst2 i (Nat.le_refl _), h1 i (by omega), hk1]
        exact hr
theorem countP_lt {p q : Nat → Bool} {i : Nat} (hpq : ∀ j, p j = true → q j = true) (hp : p i = false) (hq : q i = true) : ∀ l : List Nat, i ∈ l → l.countP p < l.countP q
  | [], h => by simp at h
  | x :: l, h => by
    have hle : l.countP p ≤ l.countP q := List.countP_mono_left fun j _ => hpq j
    rw [List.countP_cons, List.countP_cons]
    by_cases hx : i = x
    · subst hx
      simp [hp, hq]; omega
    · have := countP_lt hpq hp hq l (by simpa [hx] using h)
      by_cases hpx : p x = true
      · simp [hpx, hpq x hpx]; omega
      · simp [hpx]; omega
theorem bound_listed {listed : Array Bool} {o : Oper} {j : Nat} (h1 : (o.after.all fun e => !Region.binds .any e || listed.getD e.on false) = true) (h2 : bindsOn o j = true) : listed.getD j false = true := by
  unfold bindsOn at h2
  rw [List.any_eq_true] at h2
  obtain ⟨e, he, h2⟩ := h2
  rw [Array.all_eq_true_iff_forall_mem] at h1
  have := h1 e (Array.mem_toList_iff.1 he)
  simp only [Bool.and_eq_true, beq_iff_eq] at h2
  simpa [h2.1, h2.2] using this
/-- A chain at a region's end: each operation bound behind all before it. -/
theorem awpAny_chain {m0 : Nat} (hc : PureOk ops) (htl : ∀ i o, ops[i]? = some o → m0 < i → bindsOn o (i - 1) = true) : ∀ {fuel : Nat} {listed : Array Bool} {s : Nat → AV} {H : AHeap}, listed.size = ops.size → ∀ m, m0 ≤ m → m ≤ ops.size →
    (∀ i, i < m → listed.getD i true = true) → (∀ i, m ≤ i → i < ops.size → listed.getD i false = false) → awpList P hint n ops Q (ops.toList.drop m) s H → ops.size - m ≤ fuel → awpAny P hint n ops Q fuel listed s H := by
  intro fuel
  induction fuel with
  | zero =>
    intro listed s H hsz m hm0 hm hall hno h hf
    have : m = ops.size := by omega
    subst this
    rw [List.drop_of_length_le (by simp)] at h
    refine ⟨?_, h⟩
    unfold Region.ready
    rw [List.filter_eq_nil_iff]
    intro i hi
    simp only [hall i (List.mem_range.1 hi), Bool.not_true, Bool.false_and, Bool.false_eq_true, not_false_eq_true]
  | succ fuel ih =>
    intro listed s H hsz m hm0 hm hall hno h hf
    rcases Nat.lt_or_ge m ops.size with hlt | hge
    · have hget : ops[m]? = some ops[m] := by simp [hlt]
      have hun : listed.getD m true = false := by
        have := hno m (Nat.le_refl _) hlt
        simpa [Array.getD, show m < listed.size by omega] using this
      have hd : ops.toList.drop m = ops[m] :: ops.toList.drop (m + 1) := by
        rw [List.drop_eq_getElem_cons (by simpa using hlt)]; simp
      rw [hd] at h
      refine ⟨fun hr => ?_, fun i hi => ?_⟩
      · exfalso
        have : m ∈ Region.ready .any ops listed := by
          unfold Region.ready
          rw [List.mem_filter]
          refine ⟨List.mem_range.2 hlt, ?_⟩
          simp only [hun, hget, Bool.not_false, Bool.true_and, Option.map_some, Option.getD_some]
          rw [Array.all_eq_true_iff_forall_mem]
          intro e he
          cases hbe : Region.binds .any e
          · simp
          have hl := hc.down m _ hget e he hbe
          have := hall e.on hl
          have : listed.getD e.on false = true := by simpa [Array.getD, show e.on < listed.size by omega] using this
          simp [this]
        rw [hr] at this
        simp at this
      · unfold Region.ready at hi
        rw [List.mem_filter] at hi
        obtain ⟨hi, hrd⟩ := hi
        have hi := List.mem_range.1 hi
        have hgeti : ops[i]? = some ops[i] := by simp [hi]
        simp only [hgeti, Option.map_some, Option.getD_some, Bool.and_eq_true, Bool.not_eq_true'] at hrd
        obtain ⟨hu, haft⟩ := hrd
        have him : i = m := by
          rcases Nat.lt_trichotomy i m with h1 | h1 | h1
          · rw [hall i h1] at hu; cases hu
          · exact h1
          · have := bound_listed haft (htl i _ hgeti (by omega))
            rw [hno (i - 1) (by omega) (by omega)] at this
            cases this
        subst him
        simp only [hget]
        have hset : ∀ j b, (listed.setIfInBounds i true).getD j b = if j = i then true else listed.getD j b := by
          intro j b
          simp only [Array.getD_eq_getD_getElem?, Array.getElem?_setIfInBounds]
          by_cases e : i = j
          · subst e; simp [hsz, hi]
          · rw [if_neg e, if_neg (Ne.symm e)]
        refine awpOp_mono (fun _ _ _ h => h) (fun s' H' h' => ?_) h
        refine ih (by simpa using hsz) (i + 1) (by omega) hi (fun j hj => ?_) (fun j hj hj2 => ?_) h' (by omega)
        · rw [hset]
          by_cases e : j = i
          · rw [if_pos e]
          · rw [if_neg e]; exact hall j (by omega)
        · rw [hset, if_neg (by omega)]
          exact hno j (by omega) hj2
    · have : m = ops.size := by omega
      subst this
      rw [List.drop_of_length_le (by simp)] at h
      refine ⟨fun _ => h, fun i hi => ?_⟩
      unfold Region.ready at hi
      rw [List.mem_filter] at hi
      obtain ⟨hi, hrd⟩ := hi
      rw [hall i (List.mem_range.1 hi)] at hrd
      simp at hrd
theorem reachB_listed {listed : Array Bool} (hcl : ∀ j oj i, ops[j]? = some oj → listed.getD j false = true → bindsOn oj i = true → listed.getD i false = true) : ∀ (fuel : Nat) (i : Nat) (o : Oper), ops[i]? = some o →
    (∀ j, bindsOn o j = true → listed.getD j false = true) → ∀ j, reachB ops fuel i j = true → listed.getD j false = true
  | 0, i, o, ho, hb, j, h => by simp [reachB] at h
  | fuel + 1, i, o, ho, hb, j, h => by
    simp only [reachB, ho, Bool.or_eq_true, List.any_eq_true, Bool.and_eq_true] at h
    rcases h with h | ⟨k, _, h1, h2⟩
    · exact hb j h
    · have hk := hb k h1
      cases hok : ops[k]? with
      | none => cases fuel <;> simp [reachB, hok] at h2
      | some ok => exact reachB_listed hcl fuel k ok hok (fun j' hj' => hcl k ok j' hok hk hj') j h2
theorem awpAny_steps (hc : PureOk ops) (m : Nat) (hm : m ≤ ops.size) (htl : ∀ i o, ops[i]? = some o → (i = m → ∀ j, j < m → reachB ops 12 i j = true) ∧ (m < i → bindsOn o (i - 1) = true)) (s : Nat → AV) (rs : Nat → AV) (hs : ∀ i o, i < m → ops[i]? = some o → StepR P hint n ops H (stAt n ops s rs i) o (rs i)) (hQ : awpList P hint n ops Q (ops.toList.drop m) (stAt n ops s rs m) H) :
    ∀ (fuel : Nat) (listed : Array Bool) (s' : Nat → AV), listed.size = ops.size → (List.range ops.size).countP (fun j => !listed.getD j true) ≤ fuel →
      (∀ t j, dstAt ops j = some t → s' t = if listed.getD j false = true then (if t < n then rs j else .top) else s t) → (∀ t, (∀ j, dstAt ops j ≠ some t) → s' t = s t) →
      (∀ j oj i, ops[j]? = some oj → listed.getD j false = true → bindsOn oj i = true → listed.getD i false = true) → (∀ i, m ≤ i → i < ops.size → listed.getD i false = false) → awpAny P hint n ops Q fuel listed s' H := by
  have st_no : ∀ k t, (∀ j, j < k → dstAt ops j ≠ some t) → stAt n ops s rs k t = s t := by
    intro k t
    induction k with
    | zero => intro _; rfl
    | succ k ih =>
      intro h
      simp only [stAt]
      cases hd : dstAt ops k with
      | none => exact ih fun j hj => h j (by omega)
      | some d =>
        simp only [aput]
        have : t ≠ d := fun e => h k (by omega) (by rw [hd, e])
        rw [if_neg this]
        exact ih fun j hj => h j (by omega)
  have st_dst : ∀ k t j, dstAt ops j = some t → j < k → stAt n ops s rs k t = if t < n then rs j else .top := by
    intro k t j hj
    induction k with
    | zero => intro h; omega
    | succ k ih =>
      intro h
      simp only [stAt]
      by_cases e : j = k
      · subst e
        rw [hj]
        simp only [aput, if_pos]
      · have := ih (by omega)
        cases hd : dstAt ops k with
        | none => exact this
        | some d =>
          simp only [aput]
          have hne : t ≠ d := fun e' => e (hc.once j k t hj (by rw [hd, e']))
          rw [if_neg hne]
          exact this
  have bind_of : ∀ (listed : Array Bool) (o : Oper) (j : Nat), (o.after.all fun e => !Region.binds .any e || listed.getD e.on false) = true → bindsOn o j = true → listed.getD j false = true := by
    intro listed o j h1 h2
    unfold bindsOn at h2
    rw [List.any_eq_true] at h2
    obtain ⟨e, he, h2⟩ := h2
    rw [Array.all_eq_true_iff_forall_mem] at h1
    have := h1 e (Array.mem_toList_iff.1 he)
    simp only [Bool.and_eq_true, beq_iff_eq] at h2
    simpa [h2.1, h2.2] using this
  have fin : ∀ (listed : Array Bool) (s' : Nat → AV), (∀ i, i < m → listed.getD i true = true) → (∀ i, m ≤ i → i < ops.size → listed.getD i false = false) → listed.size = ops.size →
      (∀ t j, dstAt ops j = some t → s' t = if listed.getD j false = true then (if t < n then rs j else .top) else s t) → (∀ t, (∀ j, dstAt ops j ≠ some t) → s' t = s t) → s' = stAt n ops s rs m := by
    intro listed s' hall hno hsz h1 h2
    funext t
    by_cases hd : ∃ j, dstAt ops j = some t
    · obtain ⟨j, hj⟩ := hd
      have hjl := dstAt_lt hj
      rcases Nat.lt_or_ge j m with hjm | hjm
      · have : listed.getD j false = true := by
          have := hall j hjm
          simpa [Array.getD, show j < listed.size by omega] using this
        rw [h1 t j hj, if_pos this, st_dst _ t j hj hjm]
      · rw [h1 t j hj, if_neg (by simp [hno j hjm hjl]), st_no m t fun j' hj' hd' => by
          have := hc.once j' j t hd' hj
          omega]
    · have hd' : ∀ j, dstAt ops j ≠ some t := fun j hj => hd ⟨j, hj⟩
      rw [h2 t hd', st_no _ t fun j _ => hd' j]
  intro fuel
  induction fuel with
  | zero =>
    intro listed s' hsz hcnt h1 h2 hcl hno
    have hall : ∀ i, i < ops.size → listed.getD i true = true := by
      intro i hi
      have h0 : (List.range ops.size).countP (fun j => !listed.getD j true) = 0 := by omega
      rw [List.countP_eq_zero] at h0
      simpa using h0 i (List.mem_range.2 hi)
    have hs' := fin listed s' (fun i hi => hall i (by omega)) hno hsz h1 h2
    subst hs'
    exact awpAny_chain hc (fun i o ho hi => (htl i o ho).2 hi) hsz m (Nat.le_refl _) hm (fun i hi => hall i (by omega)) (fun i hi hi2 => hno i hi hi2) hQ (by
      rcases Nat.lt_or_ge m ops.size with h | h
      · have e1 := hall m h
        have e2 := hno m (Nat.le_refl _) h
        simp [Array.getD, show m < listed.size by omega] at e1 e2
        rw [e1] at e2
        cases e2
      · omega)
  | succ fuel ih =>
    intro listed s' hsz hcnt h1 h2 hcl hno
    by_cases hpre : ∀ i, i < m → listed.getD i true = true
    · have hs' := fin listed s' hpre hno hsz h1 h2
      subst hs'
      refine awpAny_chain hc (fun i o ho hi => (htl i o ho).2 hi) hsz m (Nat.le_refl _) hm hpre hno hQ ?_
      have hsub : (List.range ops.size).countP (fun j => decide (m ≤ j)) ≤ (List.range ops.size).countP (fun j => !listed.getD j true) := by
        refine List.countP_mono_left fun j hj hmj => ?_
        have hj := List.mem_range.1 hj
        have := hno j (by simpa using hmj) hj
        simp [Array.getD, show j < listed.size by omega] at this ⊢
        exact this
      have hcm : ∀ N, m ≤ N → (List.range N).countP (fun j => decide (m ≤ j)) = N - m := by
        intro N hN
        induction N with
        | zero => simp
        | succ N ihN =>
          rw [List.range_succ, List.countP_append, List.countP_singleton]
          by_cases e : m ≤ N
          · rw [ihN e]; simp [e]; omega
          · have e' : m = N + 1 := by omega
            have : (List.range N).countP (fun j => decide (m ≤ j)) = 0 := by
              rw [List.countP_eq_zero]
              intro j hj
              have := List.mem_range.1 hj
              simp; omega
            rw [this]; simp [e]; omega
      rw [hcm _ hm] at hsub
      omega
    have hex : ∃ i, i < m ∧ listed.getD i true = false ∧ ∀ j, j < i → listed.getD j true = true := by
      have : ∃ i, i < m ∧ listed.getD i true = false := by
        rcases Classical.not_forall.1 hpre with ⟨i, hi⟩
        rcases Classical.not_imp.1 hi with ⟨h1, h2⟩
        exact ⟨i, h1, by simpa using h2⟩
      obtain ⟨i, hi⟩ := this
      induction i using Nat.strongRecOn with
      | _ i ihi =>
        by_cases hj : ∃ j, j < i ∧ listed.getD j true = false
        · obtain ⟨j, hj1, hj2⟩ := hj
          exact ihi j hj1 ⟨by omega, hj2⟩
        · refine ⟨i, hi.1, hi.2, fun j hji => ?_⟩
          cases hq : listed.getD j true with
          | true => rfl
          | false => exact absurd ⟨j, hji, hq⟩ hj
    obtain ⟨i0, hi0, hu0, hb0⟩ := hex
    refine ⟨fun hr => ?_, fun i hi => ?_⟩
    · exfalso
      have hlt0 : i0 < ops.size := by omega
      have hget : ops[i0]? = some ops[i0] := by simp [hlt0]
      have : i0 ∈ Region.ready .any ops listed := by
        unfold Region.ready
        rw [List.mem_filter]
        refine ⟨List.mem_range.2 hlt0, ?_⟩
        simp only [hu0, hget, Bool.not_false, Bool.true_and, Option.map_some, Option.getD_some]
        rw [Array.all_eq_true_iff_forall_mem]
        intro e he
        cases hbe : Region.binds .any e
        · simp
        have hlt := hc.down i0 _ hget e he hbe
        have := hb0 e.on hlt
        have : listed.getD e.on false = true := by simpa [Array.getD, show e.on < listed.size by omega] using this
        simp [this]
      rw [hr] at this
      simp at this
    · unfold Region.ready at hi
      rw [List.mem_filter] at hi
      obtain ⟨hi, hrd⟩ := hi
      have hi := List.mem_range.1 hi
      have hget : ops[i]? = some ops[i] := by simp [hi]
      simp only [hget, Option.map_some, Option.getD_some, Bool.and_eq_true, Bool.not_eq_true'] at hrd
      obtain ⟨hun, haft⟩ := hrd
      simp only [hget]
      have hdst : dstAt ops i = (ops[i]).dst := by simp [dstAt, hget]
      have hun' : listed.getD i false = false := by simpa [Array.getD, show i < listed.size by omega] using hun
      have him : i < m := by
        rcases Nat.lt_or_ge i m with h | h
        · exact h
        · exfalso
          have hu0' : listed.getD i0 false = false := by simpa [Array.getD, show i0 < listed.size by omega] using hu0
          rcases Nat.lt_or_ge m i with h2 | h2
          · have := bind_of listed ops[i] (i - 1) haft ((htl i _ hget).2 h2)
            rw [hno (i - 1) (by omega) (by omega)] at this
            cases this
          · have him : i = m := by omega
            have := reachB_listed hcl 12 i _ hget (fun j hj => bind_of listed ops[i] j haft hj) i0 ((htl i _ hget).1 him i0 hi0)
            rw [this] at hu0'
            cases hu0'
      have agree : ∀ t j, dstAt ops j = some t → bindsOn ops[i] j = true → stAt n ops s rs i t = s' t := by
        intro t j hj hb
        have hl := bind_of listed ops[i] j haft hb
        have hlt : j < i := by
          unfold bindsOn at hb
          rw [List.any_eq_true] at hb
          obtain ⟨e, he, hb⟩ := hb
          simp only [Bool.and_eq_true, beq_iff_eq] at hb
          have := hc.down i _ hget e (Array.mem_toList_iff.1 he) hb.1
          omega
        rw [st_dst i t j hj hlt, h1 t j hj, if_pos hl]
      refine StepR.op ((hs i _ him hget).congr (fun t ht => ?_) fun j w hg d hd => agree d j hd (hc.guard i _ hget j w hg)) ?_
      · by_cases hd : ∃ j, dstAt ops j = some t
        · obtain ⟨j, hj⟩ := hd
          rcases hc.reads i _ hget t ht j hj with hb | ⟨oj, hoj, hb⟩
          · exact agree t j hj hb
          · have hnl : listed.getD j false = false := by
              cases hq : listed.getD j false with
              | false => rfl
              | true => rw [hcl j oj i hoj hq hb] at hun'; cases hun'
            have hlt : i < j := by
              unfold bindsOn at hb
              rw [List.any_eq_true] at hb
              obtain ⟨e, he, hb⟩ := hb
              simp only [Bool.and_eq_true, beq_iff_eq] at hb
              have := hc.down j _ hoj e (Array.mem_toList_iff.1 he) hb.1
              omega
            rw [h1 t j hj, if_neg (by simp [hnl]), st_no i t fun j' hj' hd' => by
              have := hc.once j' j t hd' hj
              omega]
        · have hd' : ∀ j, dstAt ops j ≠ some t := fun j hj => hd ⟨j, hj⟩
          rw [st_no i t fun j _ => hd' j, h2 t hd']
      · have hset : ∀ j b, (listed.setIfInBounds i true).getD j b = if j = i then true else listed.getD j b := by
          intro j b
          simp only [Array.getD_eq_getD_getElem?, Array.getElem?_setIfInBounds]
          by_cases e : i = j
          · subst e; simp [hsz, hi]
          · rw [if_neg e, if_neg (Ne.symm e)]
        refine ih _ _ (by simpa using hsz) ?_ ?_ ?_ ?_ ?_
        · have := countP_lt (p := fun j => !(listed.setIfInBounds i true).getD j true) (q := fun j => !listed.getD j true) (i := i) (fun j hj => by
            simp only [hset] at hj ⊢
            by_cases e : j = i
            · simp [e] at hj
            · simpa [e] using hj) (by simp [hset]) (by simp [hun]) (List.range ops.size) (List.mem_range.2 hi)
          omega
        · intro t j hj
          rw [hset]
          by_cases e : j = i
          · subst e
            rw [hdst] at hj
            rw [if_pos rfl, if_pos rfl, hj]
            simp only [aput, if_pos]
          · rw [if_neg e]
            cases hd : (ops[i]).dst with
            | none => exact h1 t j hj
            | some d =>
              simp only [aput]
              have : t ≠ d := fun e' => e (hc.once j i t hj (by rw [hdst, hd, e']))
              rw [if_neg this]
              exact h1 t j hj
        · intro t ht
          cases hd : (ops[i]).dst with
          | none => exact h2 t ht
          | some d =>
            simp only [aput]
            have : t ≠ d := fun e' => ht i (by rw [hdst, hd, e'])
            rw [if_neg this]
            exact h2 t ht
        · intro j oj i' hoj hlj hb
          rw [hset] at hlj ⊢
          by_cases e' : i' = i
          · rw [if_pos e']
          · rw [if_neg e']
            by_cases e : j = i
            · subst e
              rw [hget] at hoj
              cases hoj
              exact bind_of listed _ i' haft hb
            · rw [if_neg e] at hlj
              exact hcl j oj i' hoj hlj hb
        · intro j hj hj2
          rw [hset, if_neg (by omega)]
          exact hno j hj hj2
def tailCheck (ops : Array Oper) (m : Nat) : Bool := decide (m ≤ ops.size) && (List.range ops.size).all fun i => decide (i < m) || if i = m then (List.range m).all fun j => reachB ops 12 i j else match ops[i]? with
  | none => true
  | some o => bindsOn o (i - 1)
theorem tailCheck_ok {m : Nat} (h : tailCheck ops m = true) : m ≤ ops.size ∧ ∀ i o, ops[i]? = some o → (i = m → ∀ j, j < m → reachB ops 12 i j = true) ∧ (m < i → bindsOn o (i - 1) = true) := by
  unfold tailCheck at h
  simp only [Bool.and_eq_true, decide_eq_true_eq, List.all_eq_true] at h
  refine ⟨h.1, fun i o ho => ?_⟩
  have := h.2 i (List.mem_range.2 (Array.getElem?_eq_some_iff.1 ho).1)
  refine ⟨fun e j hj => ?_, fun hi => ?_⟩
  · subst e
    simp only [Nat.lt_irrefl, decide_false, Bool.false_or, if_true, List.all_eq_true] at this
    exact this j (List.mem_range.2 hj)
  · have h1 : ¬ i < m := by omega
    have h2 : ¬ i = m := by omega
    simpa only [h1, h2, decide_false, Bool.false_or, if_false, ho] using this
/-- A drawn region: m operations that leave the heap alone, then a chain. -/
theorem awp_drawC (m : Nat) {H0 : AHeap} {id : Nat} {s : Nat → AV} (hm : P.follows .mixedOrders = true) (hc : pureCheck ops = true) (ht : tailCheck ops m = true)
    (h : awpPure P hint n ops (KTail P hint n ops Q (ops.toList.drop m)) (ops.toList.take m) s H) : awp P hint n H0 (.region id ops true) Q s H := by
  obtain ⟨hms, htl⟩ := tailCheck_ok ht
  refine ⟨hm, ?_⟩
  obtain ⟨rs, _, h2, h3⟩ := awpPure_steps (pureCheck_ok hc).det m hms s (fun _ => .top) (ops.toList.take m) 0 rfl (Nat.zero_le _) h
  refine awpAny_steps (pureCheck_ok hc) m hms htl s rs (fun i o hi ho => h2 i o (Nat.zero_le _) hi ho) h3 ops.size (Array.replicate ops.size false) s (by simp) ?_ ?_ ?_ ?_ ?_
  · exact Nat.le_trans List.countP_le_length (by simp)
  · intro t j hj
    have hjl := dstAt_lt hj
    rw [if_neg (by simp [Array.getD, hjl])]
  · intro t _; rfl
  · intro j oj i hoj hl
    have hjl := (Array.getElem?_eq_some_iff.1 hoj).1
    simp [Array.getD, hjl] at hl
  · intro i hi hi2
    simp [Array.getD, hi2]
/-- A drawn region of operations that leave the heap alone: in the order of its text is enough. -/
theorem awp_draw {H0 : AHeap} {id : Nat} {s : Nat → AV} (hm : P.follows .mixedOrders = true) (hc : pureCheck ops = true) (h : awpPure P hint n ops Q ops.toList s H) : awp P hint n H0 (.region id ops true) Q s H := by
  refine awp_drawC ops.size hm hc ?_ ?_
  · unfold tailCheck
    simp only [Nat.le_refl, decide_true, Bool.true_and, List.all_eq_true]
    intro i hi
    simp [List.mem_range.1 hi]
  · have e1 : ops.toList.drop ops.size = [] := List.drop_of_length_le (by simp)
    have e2 : ops.toList.take ops.size = ops.toList := List.take_of_length_le (by simp)
    rw [e1, e2]
    exact awpPure_mono (Q := Q) (Q' := KTail P hint n ops Q []) (fun s H h => h) _ _ h
/-- Cut where the given list says. -/
theorem awp_drawK (m : Nat) {H0 : AHeap} {id : Nat} {s : Nat → AV} (hm : P.follows .mixedOrders = true) (hc : pureCheck ops = true) (ht : tailCheck ops m = true)
    (h : awpPureK P hint n ops Q m ops.toList s H) : awp P hint n H0 (.region id ops true) Q s H := awp_drawC m hm hc ht (by rw [← awpPureK_eq]; exact h)
end
section
variable (P : Program) (hint : Nat → Bool) (n : Nat) (ops : Array Oper) (Q : Post) (rest : List Oper) (s : Nat → AV) (H : AHeap)
def KPure (d : Option Tmp) (H0 : AHeap) : AV → AHeap → Prop := fun r H' => H' = H0 ∧ awpPure P hint n ops Q rest (aput n s d r) H0
def KNo : Value → AHeap → Prop := fun _ _ => False
theorem KPure_app (d : Option Tmp) (H0 : AHeap) (r : AV) : KPure P hint n ops Q rest s d H0 r H = (H = H0 ∧ awpPure P hint n ops Q rest (aput n s d r) H0) := rfl
theorem awpPure_nil : awpPure P hint n ops Q [] s H = Q .normal s H := rfl
theorem awpPure_none (d : Option Tmp) (op : Op) (ty : TypeId) (p : String) (af : Array Edge) : awpPure P hint n ops Q (⟨d, op, ty, p, af, none⟩ :: rest) s H = astep P hint s H ⟨d, op, ty, p, af, none⟩ (KPure P hint n ops Q rest s d H) KNo := rfl
theorem awpPure_guard (d : Option Tmp) (op : Op) (ty : TypeId) (p : String) (af : Array Edge) (j : Nat) (b : Bool) :
    awpPure P hint n ops Q (⟨d, op, ty, p, af, some (j, b)⟩ :: rest) s H = ob (ayield ops s n j b) fun b' => aite b' (astep P hint s H ⟨d, op, ty, p, af, some (j, b)⟩ (KPure P hint n ops Q rest s d H) KNo) (H = H ∧ awpPure P hint n ops Q rest (aput n s d (.tup [])) H) := by
  simp only [awpPure, awpOp, nf_id]
  cases ayield ops s n j b with
  | none => rfl
  | some b' => cases b' <;> rfl
def KPureK (m : Nat) (d : Option Tmp) (H0 : AHeap) : AV → AHeap → Prop := fun r H' => H' = H0 ∧ awpPureK P hint n ops Q m rest (aput n s d r) H0
theorem KPureK_app (m : Nat) (d : Option Tmp) (H0 : AHeap) (r : AV) : KPureK P hint n ops Q rest s m d H0 r H = (H = H0 ∧ awpPureK P hint n ops Q m rest (aput n s d r) H0) := rfl
theorem awpPureK_zero (l : List Oper) : awpPureK P hint n ops Q 0 l s H = awpList P hint n ops Q l s H := by cases l <;> rfl
theorem awpPureK_none (m : Nat) (d : Option Tmp) (op : Op) (ty : TypeId) (p : String) (af : Array Edge) : awpPureK P hint n ops Q (m + 1) (⟨d, op, ty, p, af, none⟩ :: rest) s H = astep P hint s H ⟨d, op, ty, p, af, none⟩ (KPureK P hint n ops Q rest s m d H) KNo := rfl
theorem awpPureK_guard (m : Nat) (d : Option Tmp) (op : Op) (ty : TypeId) (p : String) (af : Array Edge) (j : Nat) (b : Bool) :
    awpPureK P hint n ops Q (m + 1) (⟨d, op, ty, p, af, some (j, b)⟩ :: rest) s H = ob (ayield ops s n j b) fun b' => aite b' (astep P hint s H ⟨d, op, ty, p, af, some (j, b)⟩ (KPureK P hint n ops Q rest s m d H) KNo) (H = H ∧ awpPureK P hint n ops Q m rest (aput n s d (.tup [])) H) := by
  simp only [awpPureK, awpOp, nf_id]
  cases ayield ops s n j b with
  | none => rfl
  | some b' => cases b' <;> rfl
theorem awpPureK_mk (m : Nat) (l : List Oper) : awpPureK P hint n ops Q m l.toArray.toList s H = awpPureK P hint n ops Q m l s H := rfl
theorem awpPure_mk (l : List Oper) : awpPure P hint n ops Q l.toArray.toList s H = awpPure P hint n ops Q l s H := rfl
end
@[congr] theorem cg_pure {P : Program} {hint : Nat → Bool} {n : Nat} {ops : Array Oper} {Q : Post} {l : List Oper} {s : Nat → AV} {H H' : AHeap} (h : nf H = H') : awpPure P hint n ops Q l s H = awpPure P hint n ops Q l s H' := by rw [← h]; rfl
@[congr] theorem cg_KPure {P : Program} {hint : Nat → Bool} {n : Nat} {ops : Array Oper} {Q : Post} {rest : List Oper} {s : Nat → AV} {d : Option Tmp} {H0 H H' : AHeap} {r r' : AV} (g : nf r = r') (h : nf H = H') : KPure P hint n ops Q rest s d H0 r H = KPure P hint n ops Q rest s d H0 r' H' := by rw [← g, ← h]; rfl
@[congr] theorem cg_pureK {P : Program} {hint : Nat → Bool} {n : Nat} {ops : Array Oper} {Q : Post} {m : Nat} {l : List Oper} {s : Nat → AV} {H H' : AHeap} (h : nf H = H') : awpPureK P hint n ops Q m l s H = awpPureK P hint n ops Q m l s H' := by rw [← h]; rfl
@[congr] theorem cg_KPureK {P : Program} {hint : Nat → Bool} {n : Nat} {ops : Array Oper} {Q : Post} {rest : List Oper} {s : Nat → AV} {m : Nat} {d : Option Tmp} {H0 H H' : AHeap} {r r' : AV} (g : nf r = r') (h : nf H = H') : KPureK P hint n ops Q rest s m d H0 r H = KPureK P hint n ops Q rest s m d H0 r' H' := by rw [← g, ← h]; rfl
attribute [go_sem] KPureK_app awpPureK_zero awpPureK_none awpPureK_guard awpPureK_mk
attribute [go_sem] KPure_app awpPure_nil awpPure_none awpPure_guard awpPure_mk
end Go.Proofs.YtkapgooedfompaaAw
namespace Go.Proofs.Ytkapgooedfompaa
open Go.Proofs.YtkapgooedfompaaAw Go.RowKit
set_option linter.unusedVariables false
abbrev iD (n : Int) : D := .v (.int .i64 n)
abbrev iA (n : Int) : AV := .d (.v (.int .i64 n))
abbrev bA (b : Bool) : AV := .d (.v (.bool b))
abbrev uA (n : Int) : AV := .d (.v (.int .u64 n))
abbrev sA (b : ByteArray) : AV := .d (.v (.string b))
def ints (l : List Int) : List (List D) := l.map fun x => [.v (.int .i64 x)]
theorem ints_len (l : List Int) : (ints l).length = l.length := by simp [ints]
theorem ints_snoc (l : List Int) (n : Int) : ints l ++ [[.v (.int .i64 n)]] = ints (l ++ [n]) := by simp [ints]
theorem ints_get (l : List Int) (k : Nat) (h : k < l.length) : (ints l)[k]? = some [.v (.int .i64 l[k])] := by simp [ints, h]
theorem ints_nil : ints [] = [] := rfl
theorem strTs : strT Try.prog 9 = true := by kernel_rfl
attribute [go_sem] strTs
end Go.Proofs.Ytkapgooedfompaa
namespace Go.Proofs.YtkapgooedfompaaAw
def fproj (f : Field) : Bool × TypeId × Nat := (f.name != "_", f.type, f.offset)
def eqP (d : Nat) (xs ys : Array Value) : List (Bool × TypeId × Nat) → Sem Bool
  | [] => pure true
  | (true, t, off) :: fs => do
      let a ← part t xs off
      let b ← part t ys off
      let r ← Op.equalIn d t a b
      if (!r) = true then pure false else eqP d xs ys fs
  | (false, _, _) :: fs => eqP d xs ys fs
theorem eqP_eq (d : Nat) (xs ys : Array Value) : ∀ fs : List Field, Op.eqFields d xs ys fs = eqP d xs ys (fs.map fproj)
  | [] => rfl
  | f :: fs => by
    simp only [Op.eqFields, List.map_cons, fproj]
    rw [eqP_eq d xs ys fs]
    by_cases h : f.name = "_"
    · simp [h, eqP]
    · have hb : (f.name != "_") = true := by simp [h]
      rw [hb, if_pos h]; rfl
theorem PureBin.eqS {P : Program} {t : TypeId} {xs ys : Array Value} {fs : List (Bool × TypeId × Nat)} {r : Bool} (h1 : P.eqGuardType P.depth t = false) (h2 : P.underlying t = some (.struct (P.fieldsOf t))) (h3 : P.stoodInHeld t = false)
    (h4 : (P.fieldsOf t).toList.map fproj = fs) (h5 : ∀ w, (eqP 9999 xs ys fs).run P w = .ok r w) : PureBin P .eql t (.agg xs) (.agg ys) (.bool r) ∧ PureBin P .neq t (.agg xs) (.agg ys) (.bool !r) := by
  refine ⟨fun x y w => ?_, fun x y w => ?_⟩
  · rw [Sem.run_bind, run_eqGuard_agg _ _ _ _ _ _ _ h1]
    simp only [Result.andThen_ok, run_eql_struct]
    rw [run_equalIn_struct w 9999 t _ _ h2 h3, eqP_eq, h4, h5]
    rfl
  · rw [Sem.run_bind, run_eqGuard_agg _ _ _ _ _ _ _ h1]
    simp only [Result.andThen_ok, run_neq_struct]
    rw [run_equalIn_struct w 9999 t _ _ h2 h3, eqP_eq, h4, h5]
    rfl
theorem PureBin.inj {P : Program} {op : BinOp} {t : TypeId} {u v r r' : Value} (h : PureBin P op t u v r) (h' : PureBin P op t u v r') : r = r' := by
  have h1 := h (.const .nilIface) (.const .nilIface) default
  rw [h' (.const .nilIface) (.const .nilIface) default] at h1
  cases h1; rfl
theorem binK_agg {P : Program} {op : BinOp} {t : TypeId} {xs ys : Array Value} {r : Value} (h : PureBin P op t (.agg xs) (.agg ys) r) (K : Value → Prop) : binK P op t (.agg xs) (.agg ys) K = K r := by
  have : binK P op t (.agg xs) (.agg ys) K = ∃ r, PureBin P op t (.agg xs) (.agg ys) r ∧ K r := by unfold binK; rfl
  rw [this]
  exact propext ⟨fun ⟨r', h', k⟩ => by rw [h.inj h']; exact k, fun k => ⟨r, h, k⟩⟩
section
variable {P : Program} {w : World} {d : Nat} {t : TypeId} {off : Nat} {xs ys : Array Value} {fs : List (Bool × TypeId × Nat)} {r : Bool}
theorem part_one (hg : agB P t = some false) {v : Value} (h : xs[off]? = some v) : (part t xs off).run P w = .ok v w := by
  unfold part
  rw [Sem.run_bind, agB.run hg]
  simp [h]
theorem part_agg (hg : agB P t = some true) {z : Value} {k b : Nat} (hz : TI P t = some (z, k, b)) : (part t xs off).run P w = .ok (.agg (xs.extract off (off + k))) w := by
  unfold part
  rw [Sem.run_bind, agB.run hg]
  simp [TI.sizeOf hz]
theorem eqP_step {a b : Value} {q : Bool} (ha : (part t xs off).run P w = .ok a w) (hb : (part t ys off).run P w = .ok b w) (he : (Op.equalIn d t a b).run P w = .ok q w) (hr : (eqP d xs ys fs).run P w = .ok r w) : (eqP d xs ys ((true, t, off) :: fs)).run P w = .ok (q && r) w := by
  simp only [eqP, Sem.run_bind, ha, hb, he, Result.andThen_ok]
  cases q
  · simp
  · simpa using hr
theorem eqP_nil : (eqP d xs ys []).run P w = .ok true w := rfl
theorem eqP_int {k : IntKind} {a b : Int} (hu : UK P t = some k) (hg : agB P t = some false) (ha : xs[off]? = some (.int k a)) (hb : ys[off]? = some (.int k b)) (hr : (eqP (d + 1) xs ys fs).run P w = .ok r w) : (eqP (d + 1) xs ys ((true, t, off) :: fs)).run P w = .ok ((a == b) && r) w :=
  eqP_step (part_one hg ha) (part_one hg hb) (run_equalIn_int w d t k k a b (UK.get hu)) hr
theorem eqP_str {a b : ByteArray} (hu : P.underlying t = some .string) (hg : agB P t = some false) (ha : xs[off]? = some (.string a)) (hb : ys[off]? = some (.string b)) (hr : (eqP (d + 1) xs ys fs).run P w = .ok r w) : (eqP (d + 1) xs ys ((true, t, off) :: fs)).run P w = .ok ((a.toList == b.toList) && r) w :=
  eqP_step (part_one hg ha) (part_one hg hb) (run_equalIn_string w d t a b hu) hr
theorem eqP_bool {a b : Bool} (hu : P.underlying t = some .bool) (hg : agB P t = some false) (ha : xs[off]? = some (.bool a)) (hb : ys[off]? = some (.bool b)) (hr : (eqP (d + 1) xs ys fs).run P w = .ok r w) : (eqP (d + 1) xs ys ((true, t, off) :: fs)).run P w = .ok ((a == b) && r) w :=
  eqP_step (part_one hg ha) (part_one hg hb) (run_equalIn_bool' w d t a b hu) hr
theorem eqP_struct {z : Value} {k b : Nat} {gs : List (Bool × TypeId × Nat)} {q : Bool} (hg : agB P t = some true) (hz : TI P t = some (z, k, b)) (h2 : P.underlying t = some (.struct (P.fieldsOf t))) (h3 : P.stoodInHeld t = false) (h4 : (P.fieldsOf t).toList.map fproj = gs)
    (hq : (eqP d (xs.extract off (off + k)) (ys.extract off (off + k)) gs).run P w = .ok q w) (hr : (eqP (d + 1) xs ys fs).run P w = .ok r w) : (eqP (d + 1) xs ys ((true, t, off) :: fs)).run P w = .ok (q && r) w := by
  refine eqP_step (part_agg hg hz) (part_agg hg hz) ?_ hr
  rw [run_equalIn_struct w d t _ _ h2 h3, eqP_eq, h4]
  exact hq
end
end Go.Proofs.YtkapgooedfompaaAw
namespace Go.Proofs.Ytkapgooedfompaa
open Go.Proofs.YtkapgooedfompaaAw Go.RowKit
set_option linter.unusedVariables false
def valC (k i : Int) (s : ByteArray) : Array Value := #[.int .i64 k, .int .i64 i, .string s]
def atomC (c o k i : Int) (s : ByteArray) : Array Value := #[.int .i64 c, .int .i64 o, .int .i64 k, .int .i64 i, .string s]
def sameV (k i : Int) (s : ByteArray) (k' i' : Int) (s' : ByteArray) : Bool := (k == k') && ((i == i') && ((s.toList == s'.toList) && true))
def sameA (c o k i : Int) (s : ByteArray) (c' o' k' i' : Int) (s' : ByteArray) : Bool := (c == c') && ((o == o') && (sameV k i s k' i' s' && true))
theorem eqP_val (w : World) (d : Nat) (k i : Int) (s : ByteArray) (k' i' : Int) (s' : ByteArray) : (eqP (d + 1) #[.int .i64 k, .int .i64 i, .string s] #[.int .i64 k', .int .i64 i', .string s'] [(true, 3, 0), (true, 2, 1), (true, 9, 2)]).run Try.prog w = .ok (sameV k i s k' i' s') w :=
  eqP_int K.UK3 K.agB3 rfl rfl (eqP_int K.UK2 K.agB2 rfl rfl (eqP_str K.US9 K.agB9 rfl rfl eqP_nil))
theorem pb_val (k i : Int) (s : ByteArray) (k' i' : Int) (s' : ByteArray) : PureBin Try.prog .eql 24 (.agg #[.int .i64 k, .int .i64 i, .string s]) (.agg #[.int .i64 k', .int .i64 i', .string s']) (.bool (sameV k i s k' i' s')) ∧
    PureBin Try.prog .neq 24 (.agg #[.int .i64 k, .int .i64 i, .string s]) (.agg #[.int .i64 k', .int .i64 i', .string s']) (.bool !(sameV k i s k' i' s')) :=
  PureBin.eqS (by kernel_rfl) (by kernel_rfl) (by kernel_rfl) (by kernel_rfl) fun w => eqP_val w 9998 k i s k' i' s'
theorem bk_eql_val (k i : Int) (s : ByteArray) (k' i' : Int) (s' : ByteArray) (K : Value → Prop) : binK Try.prog .eql 24 (.agg #[.int .i64 k, .int .i64 i, .string s]) (.agg #[.int .i64 k', .int .i64 i', .string s']) K = K (.bool (sameV k i s k' i' s')) := binK_agg (pb_val ..).1 K
theorem bk_neq_val (k i : Int) (s : ByteArray) (k' i' : Int) (s' : ByteArray) (K : Value → Prop) : binK Try.prog .neq 24 (.agg #[.int .i64 k, .int .i64 i, .string s]) (.agg #[.int .i64 k', .int .i64 i', .string s']) K = K (.bool !(sameV k i s k' i' s')) := binK_agg (pb_val ..).2 K
attribute [go_sem] bk_eql_val bk_neq_val
end Go.Proofs.Ytkapgooedfompaa
namespace Go.Proofs.Ytkapgooedfompaa
open Go.Proofs.YtkapgooedfompaaAw Go.RowKit
set_option linter.unusedVariables false
structure Val where
  kind : Int
  i : Int
  s : ByteArray
deriving DecidableEq
structure Atom where
  col : Int
  op : Int
  val : Val
deriving DecidableEq
def Val.enc (v : Val) : List D := [.v (.int .i64 v.kind), .v (.int .i64 v.i), .v (.string v.s)]
def Atom.enc (a : Atom) : List D := [.v (.int .i64 a.col), .v (.int .i64 a.op), .v (.int .i64 a.val.kind), .v (.int .i64 a.val.i), .v (.string a.val.s)]
theorem Val.enc_len (v : Val) : v.enc.length = 3 := rfl
theorem Atom.enc_len (a : Atom) : a.enc.length = 5 := rfl
theorem toList_inj {a b : ByteArray} (h : a.toList = b.toList) : a = b := by
  rw [ByteArray.toList_eq, ByteArray.toList_eq] at h
  obtain ⟨⟨x⟩⟩ := a
  obtain ⟨⟨y⟩⟩ := b
  simp_all
theorem sameV_eq (v w : Val) : sameV v.kind v.i v.s w.kind w.i w.s = decide (v = w) := by
  cases v with | mk k i s =>
  cases w with | mk k' i' s' =>
  rw [Bool.eq_iff_iff]
  simp only [sameV, Bool.and_true, Bool.and_eq_true, beq_iff_eq, decide_eq_true_eq, Val.mk.injEq]
  exact ⟨fun ⟨a, b, c⟩ => ⟨a, b, toList_inj c⟩, fun ⟨a, b, c⟩ => ⟨a, b, by rw [c]⟩⟩
theorem sameA_eq (a b : Atom) : sameA a.col a.op a.val.kind a.val.i a.val.s b.col b.op b.val.kind b.val.i b.val.s = decide (a = b) := by
  cases a with | mk c o v =>
  cases b with | mk c' o' v' =>
  simp only [sameA, sameV_eq]
  rw [Bool.eq_iff_iff]
  simp only [Bool.and_true, Bool.and_eq_true, beq_iff_eq, decide_eq_true_eq, Atom.mk.injEq]
end Go.Proofs.Ytkapgooedfompaa
namespace Go.Proofs.Ytkapgooedfompaa
open Go.Proofs.YtkapgooedfompaaAw Go.RowKit
set_option linter.unusedVariables false
set_option linter.unusedSimpArgs false
abbrev du (n : Nat) : AV := .d (.v (.int .u64 n))
theorem RAs.closed {H : AHeap} {φ : Phi} {N : Addr → Prop} {w : World} {vals : Array Value} (vs : List Value) (h : RAs H φ N w (vs.map fun v => .d (.v v)) vals) : vals = vs.toArray := by
  obtain ⟨hl, hh⟩ := h
  simp only [List.length_map] at hl
  apply Array.ext
  · simpa using hl.symm
  · intro i h1 h2
    have := hh i (by simpa using h2) h1
    simp only [List.getElem_map] at this
    simpa using this.closed
/-- Which of two is ahead. -/
def ordI (less more : Bool) : Int := if less then -1 else if more then 1 else 0
def cmpI (a b : Int) : Int := ordI (decide (a < b)) (decide (b < a))
def lessS (a b : ByteArray) : Bool := Op.bytesLess a.toList b.toList
def cmpS (a b : ByteArray) : Int := ordI (lessS a b) (!(lessS a b || a.toList == b.toList))
def nanN (b : Nat) : Bool := decide (9218868437227405312 < b % 9223372036854775808)
def cleanN (b : Nat) : Nat := if nanN b then 9221120237041090560 else b
def keyN (b : Nat) : Nat := if 9223372036854775808 ≤ cleanN b then 18446744073709551615 - cleanN b else cleanN b + 9223372036854775808
def toU (n : Int) : Nat := (n % 18446744073709551616).toNat
def cmpF (a b : Nat) : Int := ordI (decide (keyN a < keyN b)) (decide (keyN b < keyN a))
def cmpV (a b : Val) : Int := if a.kind ≠ b.kind then cmpI a.kind b.kind else if a.kind = 1 then cmpI a.i b.i else if a.kind = 2 then cmpF (toU a.i) (toU b.i) else if a.kind = 3 then cmpS a.s b.s else 0
theorem toU_lt (n : Int) : toU n < 18446744073709551616 := by unfold toU; omega
theorem wrap_toU (n : Int) : IntKind.u64.wrap n = ((toU n : Nat) : Int) := by
  unfold toU
  rw [Int.toNat_of_nonneg (Int.emod_nonneg _ (by omega))]
  simp [IntKind.wrap, IntKind.signed, IntKind.bits]
theorem cleanN_lt (b : Nat) (h : b < 18446744073709551616) : cleanN b < 18446744073709551616 := by unfold cleanN; split <;> omega
theorem keyN_lt (b : Nat) (h : b < 18446744073709551616) : keyN b < 18446744073709551616 := by
  have := cleanN_lt b h
  unfold keyN; split <;> omega

set_option maxRecDepth 10000 in
theorem isNaN_int_does (a : Int) (H : AHeap) : Does Try.prog 59 [iA a] H (.ok (bA false)) H := by
  refine Does.of_awp (hint := (fun _ => false)) Try.func59 (by kernel_rfl) rfl [2] (by kernel_rfl) (by decide) (by simp [Try.ntmps59]) ?_
  rw [Try.ntmps59]
  simp (implicitDefEqProofs := false) only [↓reduceIte, go_sem, oread, owrite, Nat.reduceAdd, Nat.reduceSub, Nat.reduceMul, Nat.reduceLT, Nat.reduceLeDiff, Nat.reduceEqDiff, Nat.reduceBEq, Int.reduceLE, Int.reduceLT, Int.reduceEq, Int.reduceNe, Int.reduceAdd, Int.reduceSub, Int.reduceMul, Int.reduceNeg, Int.reduceToNat, Int.reduceNatCast, reduceCtorEq, eq_self]
  refine AEnd.ret0 ?_
  simp (implicitDefEqProofs := false) only [↓reduceIte, go_sem, oread, owrite, Nat.reduceAdd, Nat.reduceSub, Nat.reduceMul, Nat.reduceLT, Nat.reduceLeDiff, Nat.reduceEqDiff, Nat.reduceBEq, Int.reduceLE, Int.reduceLT, Int.reduceEq, Int.reduceNe, Int.reduceAdd, Int.reduceSub, Int.reduceMul, Int.reduceNeg, Int.reduceToNat, Int.reduceNatCast, reduceCtorEq, eq_self]
set_option maxRecDepth 10000 in
theorem isNaN_int64_does (a : Int) (H : AHeap) : Does Try.prog 60 [iA a] H (.ok (bA false)) H := by
  refine Does.of_awp (hint := (fun _ => false)) Try.func60 (by kernel_rfl) rfl [2] (by kernel_rfl) (by decide) (by simp [Try.ntmps60]) ?_
  rw [Try.ntmps60]
  simp (implicitDefEqProofs := false) only [↓reduceIte, go_sem, oread, owrite, Nat.reduceAdd, Nat.reduceSub, Nat.reduceMul, Nat.reduceLT, Nat.reduceLeDiff, Nat.reduceEqDiff, Nat.reduceBEq, Int.reduceLE, Int.reduceLT, Int.reduceEq, Int.reduceNe, Int.reduceAdd, Int.reduceSub, Int.reduceMul, Int.reduceNeg, Int.reduceToNat, Int.reduceNatCast, reduceCtorEq, eq_self]
  refine AEnd.ret0 ?_
  simp (implicitDefEqProofs := false) only [↓reduceIte, go_sem, oread, owrite, Nat.reduceAdd, Nat.reduceSub, Nat.reduceMul, Nat.reduceLT, Nat.reduceLeDiff, Nat.reduceEqDiff, Nat.reduceBEq, Int.reduceLE, Int.reduceLT, Int.reduceEq, Int.reduceNe, Int.reduceAdd, Int.reduceSub, Int.reduceMul, Int.reduceNeg, Int.reduceToNat, Int.reduceNatCast, reduceCtorEq, eq_self]
set_option maxRecDepth 10000 in
theorem isNaN_string_does (a : ByteArray) (H : AHeap) : Does Try.prog 61 [sA a] H (.ok (bA false)) H := by
  refine Does.of_awp (hint := (fun _ => false)) Try.func61 (by kernel_rfl) rfl [2] (by kernel_rfl) (by decide) (by simp [Try.ntmps61]) ?_
  rw [Try.ntmps61]
  simp (implicitDefEqProofs := false) only [↓reduceIte, go_sem, oread, owrite, Nat.reduceAdd, Nat.reduceSub, Nat.reduceMul, Nat.reduceLT, Nat.reduceLeDiff, Nat.reduceEqDiff, Nat.reduceBEq, Int.reduceLE, Int.reduceLT, Int.reduceEq, Int.reduceNe, Int.reduceAdd, Int.reduceSub, Int.reduceMul, Int.reduceNeg, Int.reduceToNat, Int.reduceNatCast, reduceCtorEq, eq_self]
  refine AEnd.ret0 ?_
  simp (implicitDefEqProofs := false) only [↓reduceIte, go_sem, oread, owrite, Nat.reduceAdd, Nat.reduceSub, Nat.reduceMul, Nat.reduceLT, Nat.reduceLeDiff, Nat.reduceEqDiff, Nat.reduceBEq, Int.reduceLE, Int.reduceLT, Int.reduceEq, Int.reduceNe, Int.reduceAdd, Int.reduceSub, Int.reduceMul, Int.reduceNeg, Int.reduceToNat, Int.reduceNatCast, reduceCtorEq, eq_self]
set_option maxRecDepth 10000 in
theorem cmp_int_does (a b : Int) (H : AHeap) : Does Try.prog 37 [iA a, iA b] H (.ok (iA (cmpI a b))) H := by
  refine Does.of_awp (hint := (fun _ => false)) Try.func37 (by kernel_rfl) rfl [4] (by kernel_rfl) (by decide) (by simp [Try.ntmps37]) ?_
  rw [Try.ntmps37]
  simp (implicitDefEqProofs := false) only [↓reduceIte, go_sem, oread, owrite, Nat.reduceAdd, Nat.reduceSub, Nat.reduceMul, Nat.reduceLT, Nat.reduceLeDiff, Nat.reduceEqDiff, Nat.reduceBEq, Int.reduceLE, Int.reduceLT, Int.reduceEq, Int.reduceNe, Int.reduceAdd, Int.reduceSub, Int.reduceMul, Int.reduceNeg, Int.reduceToNat, Int.reduceNatCast, reduceCtorEq, eq_self]
  refine KCall.ok (isNaN_int_does a H) ?_
  simp (implicitDefEqProofs := false) only [↓reduceIte, go_sem, oread, owrite, Nat.reduceAdd, Nat.reduceSub, Nat.reduceMul, Nat.reduceLT, Nat.reduceLeDiff, Nat.reduceEqDiff, Nat.reduceBEq, Int.reduceLE, Int.reduceLT, Int.reduceEq, Int.reduceNe, Int.reduceAdd, Int.reduceSub, Int.reduceMul, Int.reduceNeg, Int.reduceToNat, Int.reduceNatCast, reduceCtorEq, eq_self]
  refine KCall.ok (isNaN_int_does b H) ?_
  simp (implicitDefEqProofs := false) only [↓reduceIte, go_sem, oread, owrite, Nat.reduceAdd, Nat.reduceSub, Nat.reduceMul, Nat.reduceLT, Nat.reduceLeDiff, Nat.reduceEqDiff, Nat.reduceBEq, Int.reduceLE, Int.reduceLT, Int.reduceEq, Int.reduceNe, Int.reduceAdd, Int.reduceSub, Int.reduceMul, Int.reduceNeg, Int.reduceToNat, Int.reduceNatCast, reduceCtorEq, eq_self]
  by_cases h : a < b
  · refine awp_T (by simp (implicitDefEqProofs := false) only [↓reduceIte, go_sem, oread, owrite, Nat.reduceAdd, Nat.reduceSub, Nat.reduceMul, Nat.reduceLT, Nat.reduceLeDiff, Nat.reduceEqDiff, Nat.reduceBEq, Int.reduceLE, Int.reduceLT, Int.reduceEq, Int.reduceNe, Int.reduceAdd, Int.reduceSub, Int.reduceMul, Int.reduceNeg, Int.reduceToNat, Int.reduceNatCast, reduceCtorEq, eq_self, h]) ?_
    simp (implicitDefEqProofs := false) only [↓reduceIte, go_sem, oread, owrite, Nat.reduceAdd, Nat.reduceSub, Nat.reduceMul, Nat.reduceLT, Nat.reduceLeDiff, Nat.reduceEqDiff, Nat.reduceBEq, Int.reduceLE, Int.reduceLT, Int.reduceEq, Int.reduceNe, Int.reduceAdd, Int.reduceSub, Int.reduceMul, Int.reduceNeg, Int.reduceToNat, Int.reduceNatCast, reduceCtorEq, eq_self]
    refine AEnd.ret0 ?_
    simp (implicitDefEqProofs := false) only [↓reduceIte, go_sem, oread, owrite, Nat.reduceAdd, Nat.reduceSub, Nat.reduceMul, Nat.reduceLT, Nat.reduceLeDiff, Nat.reduceEqDiff, Nat.reduceBEq, Int.reduceLE, Int.reduceLT, Int.reduceEq, Int.reduceNe, Int.reduceAdd, Int.reduceSub, Int.reduceMul, Int.reduceNeg, Int.reduceToNat, Int.reduceNatCast, reduceCtorEq, eq_self, cmpI, ordI, h]
  · refine awp_F (by simp (implicitDefEqProofs := false) only [↓reduceIte, go_sem, oread, owrite, Nat.reduceAdd, Nat.reduceSub, Nat.reduceMul, Nat.reduceLT, Nat.reduceLeDiff, Nat.reduceEqDiff, Nat.reduceBEq, Int.reduceLE, Int.reduceLT, Int.reduceEq, Int.reduceNe, Int.reduceAdd, Int.reduceSub, Int.reduceMul, Int.reduceNeg, Int.reduceToNat, Int.reduceNatCast, reduceCtorEq, eq_self, h]) ?_
    simp (implicitDefEqProofs := false) only [↓reduceIte, go_sem, oread, owrite, Nat.reduceAdd, Nat.reduceSub, Nat.reduceMul, Nat.reduceLT, Nat.reduceLeDiff, Nat.reduceEqDiff, Nat.reduceBEq, Int.reduceLE, Int.reduceLT, Int.reduceEq, Int.reduceNe, Int.reduceAdd, Int.reduceSub, Int.reduceMul, Int.reduceNeg, Int.reduceToNat, Int.reduceNatCast, reduceCtorEq, eq_self]
    by_cases h2 : b < a
    · refine awp_T (by simp (implicitDefEqProofs := false) only [↓reduceIte, go_sem, oread, owrite, Nat.reduceAdd, Nat.reduceSub, Nat.reduceMul, Nat.reduceLT, Nat.reduceLeDiff, Nat.reduceEqDiff, Nat.reduceBEq, Int.reduceLE, Int.reduceLT, Int.reduceEq, Int.reduceNe, Int.reduceAdd, Int.reduceSub, Int.reduceMul, Int.reduceNeg, Int.reduceToNat, Int.reduceNatCast, reduceCtorEq, eq_self, h2]) ?_
      simp (implicitDefEqProofs := false) only [↓reduceIte, go_sem, oread, owrite, Nat.reduceAdd, Nat.reduceSub, Nat.reduceMul, Nat.reduceLT, Nat.reduceLeDiff, Nat.reduceEqDiff, Nat.reduceBEq, Int.reduceLE, Int.reduceLT, Int.reduceEq, Int.reduceNe, Int.reduceAdd, Int.reduceSub, Int.reduceMul, Int.reduceNeg, Int.reduceToNat, Int.reduceNatCast, reduceCtorEq, eq_self]
      refine AEnd.ret0 ?_
      simp (implicitDefEqProofs := false) only [↓reduceIte, go_sem, oread, owrite, Nat.reduceAdd, Nat.reduceSub, Nat.reduceMul, Nat.reduceLT, Nat.reduceLeDiff, Nat.reduceEqDiff, Nat.reduceBEq, Int.reduceLE, Int.reduceLT, Int.reduceEq, Int.reduceNe, Int.reduceAdd, Int.reduceSub, Int.reduceMul, Int.reduceNeg, Int.reduceToNat, Int.reduceNatCast, reduceCtorEq, eq_self, cmpI, ordI, h, h2]
    · refine awp_F (by simp (implicitDefEqProofs := false) only [↓reduceIte, go_sem, oread, owrite, Nat.reduceAdd, Nat.reduceSub, Nat.reduceMul, Nat.reduceLT, Nat.reduceLeDiff, Nat.reduceEqDiff, Nat.reduceBEq, Int.reduceLE, Int.reduceLT, Int.reduceEq, Int.reduceNe, Int.reduceAdd, Int.reduceSub, Int.reduceMul, Int.reduceNeg, Int.reduceToNat, Int.reduceNatCast, reduceCtorEq, eq_self, h2]) ?_
      simp (implicitDefEqProofs := false) only [↓reduceIte, go_sem, oread, owrite, Nat.reduceAdd, Nat.reduceSub, Nat.reduceMul, Nat.reduceLT, Nat.reduceLeDiff, Nat.reduceEqDiff, Nat.reduceBEq, Int.reduceLE, Int.reduceLT, Int.reduceEq, Int.reduceNe, Int.reduceAdd, Int.reduceSub, Int.reduceMul, Int.reduceNeg, Int.reduceToNat, Int.reduceNatCast, reduceCtorEq, eq_self]
      refine AEnd.ret0 ?_
      simp (implicitDefEqProofs := false) only [↓reduceIte, go_sem, oread, owrite, Nat.reduceAdd, Nat.reduceSub, Nat.reduceMul, Nat.reduceLT, Nat.reduceLeDiff, Nat.reduceEqDiff, Nat.reduceBEq, Int.reduceLE, Int.reduceLT, Int.reduceEq, Int.reduceNe, Int.reduceAdd, Int.reduceSub, Int.reduceMul, Int.reduceNeg, Int.reduceToNat, Int.reduceNatCast, reduceCtorEq, eq_self, cmpI, ordI, h, h2]
set_option maxRecDepth 10000 in
theorem cmp_int64_does (a b : Int) (H : AHeap) : Does Try.prog 38 [iA a, iA b] H (.ok (iA (cmpI a b))) H := by
  refine Does.of_awp (hint := (fun _ => false)) Try.func38 (by kernel_rfl) rfl [4] (by kernel_rfl) (by decide) (by simp [Try.ntmps38]) ?_
  rw [Try.ntmps38]
  simp (implicitDefEqProofs := false) only [↓reduceIte, go_sem, oread, owrite, Nat.reduceAdd, Nat.reduceSub, Nat.reduceMul, Nat.reduceLT, Nat.reduceLeDiff, Nat.reduceEqDiff, Nat.reduceBEq, Int.reduceLE, Int.reduceLT, Int.reduceEq, Int.reduceNe, Int.reduceAdd, Int.reduceSub, Int.reduceMul, Int.reduceNeg, Int.reduceToNat, Int.reduceNatCast, reduceCtorEq, eq_self]
  refine KCall.ok (isNaN_int64_does a H) ?_
  simp (implicitDefEqProofs := false) only [↓reduceIte, go_sem, oread, owrite, Nat.reduceAdd, Nat.reduceSub, Nat.reduceMul, Nat.reduceLT, Nat.reduceLeDiff, Nat.reduceEqDiff, Nat.reduceBEq, Int.reduceLE, Int.reduceLT, Int.reduceEq, Int.reduceNe, Int.reduceAdd, Int.reduceSub, Int.reduceMul, Int.reduceNeg, Int.reduceToNat, Int.reduceNatCast, reduceCtorEq, eq_self]
  refine KCall.ok (isNaN_int64_does b H) ?_
  simp (implicitDefEqProofs := false) only [↓reduceIte, go_sem, oread, owrite, Nat.reduceAdd, Nat.reduceSub, Nat.reduceMul, Nat.reduceLT, Nat.reduceLeDiff, Nat.reduceEqDiff, Nat.reduceBEq, Int.reduceLE, Int.reduceLT, Int.reduceEq, Int.reduceNe, Int.reduceAdd, Int.reduceSub, Int.reduceMul, Int.reduceNeg, Int.reduceToNat, Int.reduceNatCast, reduceCtorEq, eq_self]
  by_cases h : a < b
  · refine awp_T (by simp (implicitDefEqProofs := false) only [↓reduceIte, go_sem, oread, owrite, Nat.reduceAdd, Nat.reduceSub, Nat.reduceMul, Nat.reduceLT, Nat.reduceLeDiff, Nat.reduceEqDiff, Nat.reduceBEq, Int.reduceLE, Int.reduceLT, Int.reduceEq, Int.reduceNe, Int.reduceAdd, Int.reduceSub, Int.reduceMul, Int.reduceNeg, Int.reduceToNat, Int.reduceNatCast, reduceCtorEq, eq_self, h]) ?_
    simp (implicitDefEqProofs := false) only [↓reduceIte, go_sem, oread, owrite, Nat.reduceAdd, Nat.reduceSub, Nat.reduceMul, Nat.reduceLT, Nat.reduceLeDiff, Nat.reduceEqDiff, Nat.reduceBEq, Int.reduceLE, Int.reduceLT, Int.reduceEq, Int.reduceNe, Int.reduceAdd, Int.reduceSub, Int.reduceMul, Int.reduceNeg, Int.reduceToNat, Int.reduceNatCast, reduceCtorEq, eq_self]
    refine AEnd.ret0 ?_
    simp (implicitDefEqProofs := false) only [↓reduceIte, go_sem, oread, owrite, Nat.reduceAdd, Nat.reduceSub, Nat.reduceMul, Nat.reduceLT, Nat.reduceLeDiff, Nat.reduceEqDiff, Nat.reduceBEq, Int.reduceLE, Int.reduceLT, Int.reduceEq, Int.reduceNe, Int.reduceAdd, Int.reduceSub, Int.reduceMul, Int.reduceNeg, Int.reduceToNat, Int.reduceNatCast, reduceCtorEq, eq_self, cmpI, ordI, h]
  · refine awp_F (by simp (implicitDefEqProofs := false) only [↓reduceIte, go_sem, oread, owrite, Nat.reduceAdd, Nat.reduceSub, Nat.reduceMul, Nat.reduceLT, Nat.reduceLeDiff, Nat.reduceEqDiff, Nat.reduceBEq, Int.reduceLE, Int.reduceLT, Int.reduceEq, Int.reduceNe, Int.reduceAdd, Int.reduceSub, Int.reduceMul, Int.reduceNeg, Int.reduceToNat, Int.reduceNatCast, reduceCtorEq, eq_self, h]) ?_
    simp (implicitDefEqProofs := false) only [↓reduceIte, go_sem, oread, owrite, Nat.reduceAdd, Nat.reduceSub, Nat.reduceMul, Nat.reduceLT, Nat.reduceLeDiff, Nat.reduceEqDiff, Nat.reduceBEq, Int.reduceLE, Int.reduceLT, Int.reduceEq, Int.reduceNe, Int.reduceAdd, Int.reduceSub, Int.reduceMul, Int.reduceNeg, Int.reduceToNat, Int.reduceNatCast, reduceCtorEq, eq_self]
    by_cases h2 : b < a
    · refine awp_T (by simp (implicitDefEqProofs := false) only [↓reduceIte, go_sem, oread, owrite, Nat.reduceAdd, Nat.reduceSub, Nat.reduceMul, Nat.reduceLT, Nat.reduceLeDiff, Nat.reduceEqDiff, Nat.reduceBEq, Int.reduceLE, Int.reduceLT, Int.reduceEq, Int.reduceNe, Int.reduceAdd, Int.reduceSub, Int.reduceMul, Int.reduceNeg, Int.reduceToNat, Int.reduceNatCast, reduceCtorEq, eq_self, h2]) ?_
      simp (implicitDefEqProofs := false) only [↓reduceIte, go_sem, oread, owrite, Nat.reduceAdd, Nat.reduceSub, Nat.reduceMul, Nat.reduceLT, Nat.reduceLeDiff, Nat.reduceEqDiff, Nat.reduceBEq, Int.reduceLE, Int.reduceLT, Int.reduceEq, Int.reduceNe, Int.reduceAdd, Int.reduceSub, Int.reduceMul, Int.reduceNeg, Int.reduceToNat, Int.reduceNatCast, reduceCtorEq, eq_self]
      refine AEnd.ret0 ?_
      simp (implicitDefEqProofs := false) only [↓reduceIte, go_sem, oread, owrite, Nat.reduceAdd, Nat.reduceSub, Nat.reduceMul, Nat.reduceLT, Nat.reduceLeDiff, Nat.reduceEqDiff, Nat.reduceBEq, Int.reduceLE, Int.reduceLT, Int.reduceEq, Int.reduceNe, Int.reduceAdd, Int.reduceSub, Int.reduceMul, Int.reduceNeg, Int.reduceToNat, Int.reduceNatCast, reduceCtorEq, eq_self, cmpI, ordI, h, h2]
    · refine awp_F (by simp (implicitDefEqProofs := false) only [↓reduceIte, go_sem, oread, owrite, Nat.reduceAdd, Nat.reduceSub, Nat.reduceMul, Nat.reduceLT, Nat.reduceLeDiff, Nat.reduceEqDiff, Nat.reduceBEq, Int.reduceLE, Int.reduceLT, Int.reduceEq, Int.reduceNe, Int.reduceAdd, Int.reduceSub, Int.reduceMul, Int.reduceNeg, Int.reduceToNat, Int.reduceNatCast, reduceCtorEq, eq_self, h2]) ?_
      simp (implicitDefEqProofs := false) only [↓reduceIte, go_sem, oread, owrite, Nat.reduceAdd, Nat.reduceSub, Nat.reduceMul, Nat.reduceLT, Nat.reduceLeDiff, Nat.reduceEqDiff, Nat.reduceBEq, Int.reduceLE, Int.reduceLT, Int.reduceEq, Int.reduceNe, Int.reduceAdd, Int.reduceSub, Int.reduceMul, Int.reduceNeg, Int.reduceToNat, Int.reduceNatCast, reduceCtorEq, eq_self]
      refine AEnd.ret0 ?_
      simp (implicitDefEqProofs := false) only [↓reduceIte, go_sem, oread, owrite, Nat.reduceAdd, Nat.reduceSub, Nat.reduceMul, Nat.reduceLT, Nat.reduceLeDiff, Nat.reduceEqDiff, Nat.reduceBEq, Int.reduceLE, Int.reduceLT, Int.reduceEq, Int.reduceNe, Int.reduceAdd, Int.reduceSub, Int.reduceMul, Int.reduceNeg, Int.reduceToNat, Int.reduceNatCast, reduceCtorEq, eq_self, cmpI, ordI, h, h2]
set_option maxRecDepth 10000 in
theorem cmp_string_does (a b : ByteArray) (H : AHeap) : Does Try.prog 40 [sA a, sA b] H (.ok (iA (cmpS a b))) H := by
  refine Does.of_awp (hint := (fun _ => false)) Try.func40 (by kernel_rfl) rfl [4] (by kernel_rfl) (by decide) (by simp [Try.ntmps40]) ?_
  rw [Try.ntmps40]
  simp (implicitDefEqProofs := false) only [↓reduceIte, go_sem, oread, owrite, Nat.reduceAdd, Nat.reduceSub, Nat.reduceMul, Nat.reduceLT, Nat.reduceLeDiff, Nat.reduceEqDiff, Nat.reduceBEq, Int.reduceLE, Int.reduceLT, Int.reduceEq, Int.reduceNe, Int.reduceAdd, Int.reduceSub, Int.reduceMul, Int.reduceNeg, Int.reduceToNat, Int.reduceNatCast, reduceCtorEq, eq_self]
  refine KCall.ok (isNaN_string_does a H) ?_
  simp (implicitDefEqProofs := false) only [↓reduceIte, go_sem, oread, owrite, Nat.reduceAdd, Nat.reduceSub, Nat.reduceMul, Nat.reduceLT, Nat.reduceLeDiff, Nat.reduceEqDiff, Nat.reduceBEq, Int.reduceLE, Int.reduceLT, Int.reduceEq, Int.reduceNe, Int.reduceAdd, Int.reduceSub, Int.reduceMul, Int.reduceNeg, Int.reduceToNat, Int.reduceNatCast, reduceCtorEq, eq_self]
  refine KCall.ok (isNaN_string_does b H) ?_
  simp (implicitDefEqProofs := false) only [↓reduceIte, go_sem, oread, owrite, Nat.reduceAdd, Nat.reduceSub, Nat.reduceMul, Nat.reduceLT, Nat.reduceLeDiff, Nat.reduceEqDiff, Nat.reduceBEq, Int.reduceLE, Int.reduceLT, Int.reduceEq, Int.reduceNe, Int.reduceAdd, Int.reduceSub, Int.reduceMul, Int.reduceNeg, Int.reduceToNat, Int.reduceNatCast, reduceCtorEq, eq_self]
  cases h : Op.bytesLess a.toList b.toList with
  | true =>
    refine awp_T (by simp (implicitDefEqProofs := false) only [↓reduceIte, go_sem, oread, owrite, Nat.reduceAdd, Nat.reduceSub, Nat.reduceMul, Nat.reduceLT, Nat.reduceLeDiff, Nat.reduceEqDiff, Nat.reduceBEq, Int.reduceLE, Int.reduceLT, Int.reduceEq, Int.reduceNe, Int.reduceAdd, Int.reduceSub, Int.reduceMul, Int.reduceNeg, Int.reduceToNat, Int.reduceNatCast, reduceCtorEq, eq_self, h]) ?_
    simp (implicitDefEqProofs := false) only [↓reduceIte, go_sem, oread, owrite, Nat.reduceAdd, Nat.reduceSub, Nat.reduceMul, Nat.reduceLT, Nat.reduceLeDiff, Nat.reduceEqDiff, Nat.reduceBEq, Int.reduceLE, Int.reduceLT, Int.reduceEq, Int.reduceNe, Int.reduceAdd, Int.reduceSub, Int.reduceMul, Int.reduceNeg, Int.reduceToNat, Int.reduceNatCast, reduceCtorEq, eq_self]
    refine AEnd.ret0 ?_
    simp (implicitDefEqProofs := false) only [↓reduceIte, go_sem, oread, owrite, Nat.reduceAdd, Nat.reduceSub, Nat.reduceMul, Nat.reduceLT, Nat.reduceLeDiff, Nat.reduceEqDiff, Nat.reduceBEq, Int.reduceLE, Int.reduceLT, Int.reduceEq, Int.reduceNe, Int.reduceAdd, Int.reduceSub, Int.reduceMul, Int.reduceNeg, Int.reduceToNat, Int.reduceNatCast, reduceCtorEq, eq_self, cmpS, ordI, lessS, h]
  | false =>
    refine awp_F (by simp (implicitDefEqProofs := false) only [↓reduceIte, go_sem, oread, owrite, Nat.reduceAdd, Nat.reduceSub, Nat.reduceMul, Nat.reduceLT, Nat.reduceLeDiff, Nat.reduceEqDiff, Nat.reduceBEq, Int.reduceLE, Int.reduceLT, Int.reduceEq, Int.reduceNe, Int.reduceAdd, Int.reduceSub, Int.reduceMul, Int.reduceNeg, Int.reduceToNat, Int.reduceNatCast, reduceCtorEq, eq_self, h]) ?_
    simp (implicitDefEqProofs := false) only [↓reduceIte, go_sem, oread, owrite, Nat.reduceAdd, Nat.reduceSub, Nat.reduceMul, Nat.reduceLT, Nat.reduceLeDiff, Nat.reduceEqDiff, Nat.reduceBEq, Int.reduceLE, Int.reduceLT, Int.reduceEq, Int.reduceNe, Int.reduceAdd, Int.reduceSub, Int.reduceMul, Int.reduceNeg, Int.reduceToNat, Int.reduceNatCast, reduceCtorEq, eq_self, h]
    cases h2 : (a.toList == b.toList) with
    | false =>
      refine awp_T (by simp (implicitDefEqProofs := false) only [↓reduceIte, go_sem, oread, owrite, Nat.reduceAdd, Nat.reduceSub, Nat.reduceMul, Nat.reduceLT, Nat.reduceLeDiff, Nat.reduceEqDiff, Nat.reduceBEq, Int.reduceLE, Int.reduceLT, Int.reduceEq, Int.reduceNe, Int.reduceAdd, Int.reduceSub, Int.reduceMul, Int.reduceNeg, Int.reduceToNat, Int.reduceNatCast, reduceCtorEq, eq_self, h2]) ?_
      simp (implicitDefEqProofs := false) only [↓reduceIte, go_sem, oread, owrite, Nat.reduceAdd, Nat.reduceSub, Nat.reduceMul, Nat.reduceLT, Nat.reduceLeDiff, Nat.reduceEqDiff, Nat.reduceBEq, Int.reduceLE, Int.reduceLT, Int.reduceEq, Int.reduceNe, Int.reduceAdd, Int.reduceSub, Int.reduceMul, Int.reduceNeg, Int.reduceToNat, Int.reduceNatCast, reduceCtorEq, eq_self]
      refine AEnd.ret0 ?_
      simp (implicitDefEqProofs := false) only [↓reduceIte, go_sem, oread, owrite, Nat.reduceAdd, Nat.reduceSub, Nat.reduceMul, Nat.reduceLT, Nat.reduceLeDiff, Nat.reduceEqDiff, Nat.reduceBEq, Int.reduceLE, Int.reduceLT, Int.reduceEq, Int.reduceNe, Int.reduceAdd, Int.reduceSub, Int.reduceMul, Int.reduceNeg, Int.reduceToNat, Int.reduceNatCast, reduceCtorEq, eq_self, cmpS, ordI, lessS, h, h2]
    | true =>
      refine awp_F (by simp (implicitDefEqProofs := false) only [↓reduceIte, go_sem, oread, owrite, Nat.reduceAdd, Nat.reduceSub, Nat.reduceMul, Nat.reduceLT, Nat.reduceLeDiff, Nat.reduceEqDiff, Nat.reduceBEq, Int.reduceLE, Int.reduceLT, Int.reduceEq, Int.reduceNe, Int.reduceAdd, Int.reduceSub, Int.reduceMul, Int.reduceNeg, Int.reduceToNat, Int.reduceNatCast, reduceCtorEq, eq_self, h2]) ?_
      simp (implicitDefEqProofs := false) only [↓reduceIte, go_sem, oread, owrite, Nat.reduceAdd, Nat.reduceSub, Nat.reduceMul, Nat.reduceLT, Nat.reduceLeDiff, Nat.reduceEqDiff, Nat.reduceBEq, Int.reduceLE, Int.reduceLT, Int.reduceEq, Int.reduceNe, Int.reduceAdd, Int.reduceSub, Int.reduceMul, Int.reduceNeg, Int.reduceToNat, Int.reduceNatCast, reduceCtorEq, eq_self]
      refine AEnd.ret0 ?_
      simp (implicitDefEqProofs := false) only [↓reduceIte, go_sem, oread, owrite, Nat.reduceAdd, Nat.reduceSub, Nat.reduceMul, Nat.reduceLT, Nat.reduceLeDiff, Nat.reduceEqDiff, Nat.reduceBEq, Int.reduceLE, Int.reduceLT, Int.reduceEq, Int.reduceNe, Int.reduceAdd, Int.reduceSub, Int.reduceMul, Int.reduceNeg, Int.reduceToNat, Int.reduceNatCast, reduceCtorEq, eq_self, cmpS, ordI, lessS, h, h2]
/-! ### Numbers with a point -/
theorem order_self (b : Nat) (hb : b < 18446744073709551616) : (FloatKind.f64.format.order b b != some .eq) = nanN b := by
  have key : ∀ d : Ieee.Datum, (d.order d != some .eq) = d.isNaN := by
    intro d
    cases d with
    | nan s f => rfl
    | infinity s => simp [Ieee.Datum.order, Ieee.Datum.isNaN]
    | number s m i => simp [Ieee.Datum.order, Ieee.Datum.isNaN]
  have h1 : (FloatKind.f64.format.order b b != some .eq) = (FloatKind.f64.format.read b).isNaN := key _
  rw [h1]
  have hs : FloatKind.f64.format.signWeight = 9223372036854775808 := by decide
  have hb' : FloatKind.f64.format.binade = 4503599627370496 := by decide
  have hi : FloatKind.f64.format.infRung = 9218868437227405312 := by decide
  unfold Ieee.Format.read nanN
  rw [hs, hb', hi]
  generalize b % 9223372036854775808 = r
  by_cases h1 : r < 4503599627370496
  · simp only [h1, if_true, Ieee.Datum.isNaN]; simp; omega
  · by_cases h2 : r < 9218868437227405312
    · simp only [h1, h2, if_true, if_false, Ieee.Datum.isNaN]; simp; omega
    · by_cases h3 : r = 9218868437227405312
      · subst h3; simp [Ieee.Datum.isNaN]
      · simp only [h1, h2, h3, if_false, Ieee.Datum.isNaN]; simp; omega
def frombitsEntry : Array Value → Sem Value := Extern.MathFloatBits.float64frombits
theorem frombits_does (n : Nat) (H : AHeap) : Does Try.prog 77 [du n] H (.ok (.d (.v (.float .f64 n)))) H := by
  intro φ N w vals hR hA
  have hv := RAs.closed [.int .u64 (n : Int)] hA
  subst hv
  refine .inr ⟨.float .f64 n, w, ?_, φ, N, hR, Since.refl, .d (.v _ rfl)⟩
  rw [run_callFunc_extern (e := frombitsEntry) Try.func77 (by kernel_rfl) (by kernel_rfl) (by kernel_rfl) (by kernel_rfl)]
  rfl
set_option maxRecDepth 10000 in
theorem fclean_does (b : Nat) (hb : b < 18446744073709551616) (H : AHeap) : Does Try.prog 66 [du b] H (.ok (du (cleanN b))) H := by
  refine Does.of_awp (hint := (fun _ => false)) Try.func66 (by kernel_rfl) rfl [2] (by kernel_rfl) (by decide) (by simp [Try.ntmps66]) ?_
  rw [Try.ntmps66]
  simp (implicitDefEqProofs := false) only [↓reduceIte, go_sem, oread, owrite, Nat.reduceAdd, Nat.reduceSub, Nat.reduceMul, Nat.reduceLT, Nat.reduceLeDiff, Nat.reduceEqDiff, Nat.reduceBEq, Int.reduceLE, Int.reduceLT, Int.reduceEq, Int.reduceNe, Int.reduceAdd, Int.reduceSub, Int.reduceMul, Int.reduceNeg, Int.reduceToNat, Int.reduceNatCast, reduceCtorEq, eq_self]
  refine KCall.ok (frombits_does b H) ?_
  simp (implicitDefEqProofs := false) only [↓reduceIte, go_sem, oread, owrite, Nat.reduceAdd, Nat.reduceSub, Nat.reduceMul, Nat.reduceLT, Nat.reduceLeDiff, Nat.reduceEqDiff, Nat.reduceBEq, Int.reduceLE, Int.reduceLT, Int.reduceEq, Int.reduceNe, Int.reduceAdd, Int.reduceSub, Int.reduceMul, Int.reduceNeg, Int.reduceToNat, Int.reduceNatCast, reduceCtorEq, eq_self, order_self b hb]
  cases h : nanN b with
  | true =>
    refine awp_T (by simp (implicitDefEqProofs := false) only [↓reduceIte, go_sem, oread, owrite, Nat.reduceAdd, Nat.reduceSub, Nat.reduceMul, Nat.reduceLT, Nat.reduceLeDiff, Nat.reduceEqDiff, Nat.reduceBEq, Int.reduceLE, Int.reduceLT, Int.reduceEq, Int.reduceNe, Int.reduceAdd, Int.reduceSub, Int.reduceMul, Int.reduceNeg, Int.reduceToNat, Int.reduceNatCast, reduceCtorEq, eq_self, h]) ?_
    simp (implicitDefEqProofs := false) only [↓reduceIte, go_sem, oread, owrite, Nat.reduceAdd, Nat.reduceSub, Nat.reduceMul, Nat.reduceLT, Nat.reduceLeDiff, Nat.reduceEqDiff, Nat.reduceBEq, Int.reduceLE, Int.reduceLT, Int.reduceEq, Int.reduceNe, Int.reduceAdd, Int.reduceSub, Int.reduceMul, Int.reduceNeg, Int.reduceToNat, Int.reduceNatCast, reduceCtorEq, eq_self]
    refine AEnd.ret0 ?_
    simp (implicitDefEqProofs := false) only [↓reduceIte, go_sem, oread, owrite, Nat.reduceAdd, Nat.reduceSub, Nat.reduceMul, Nat.reduceLT, Nat.reduceLeDiff, Nat.reduceEqDiff, Nat.reduceBEq, Int.reduceLE, Int.reduceLT, Int.reduceEq, Int.reduceNe, Int.reduceAdd, Int.reduceSub, Int.reduceMul, Int.reduceNeg, Int.reduceToNat, Int.reduceNatCast, reduceCtorEq, eq_self, cleanN, h, du]
  | false =>
    refine awp_F (by simp (implicitDefEqProofs := false) only [↓reduceIte, go_sem, oread, owrite, Nat.reduceAdd, Nat.reduceSub, Nat.reduceMul, Nat.reduceLT, Nat.reduceLeDiff, Nat.reduceEqDiff, Nat.reduceBEq, Int.reduceLE, Int.reduceLT, Int.reduceEq, Int.reduceNe, Int.reduceAdd, Int.reduceSub, Int.reduceMul, Int.reduceNeg, Int.reduceToNat, Int.reduceNatCast, reduceCtorEq, eq_self, h]) ?_
    simp (implicitDefEqProofs := false) only [↓reduceIte, go_sem, oread, owrite, Nat.reduceAdd, Nat.reduceSub, Nat.reduceMul, Nat.reduceLT, Nat.reduceLeDiff, Nat.reduceEqDiff, Nat.reduceBEq, Int.reduceLE, Int.reduceLT, Int.reduceEq, Int.reduceNe, Int.reduceAdd, Int.reduceSub, Int.reduceMul, Int.reduceNeg, Int.reduceToNat, Int.reduceNatCast, reduceCtorEq, eq_self]
    refine AEnd.ret0 ?_
    simp (implicitDefEqProofs := false) only [↓reduceIte, go_sem, oread, owrite, Nat.reduceAdd, Nat.reduceSub, Nat.reduceMul, Nat.reduceLT, Nat.reduceLeDiff, Nat.reduceEqDiff, Nat.reduceBEq, Int.reduceLE, Int.reduceLT, Int.reduceEq, Int.reduceNe, Int.reduceAdd, Int.reduceSub, Int.reduceMul, Int.reduceNeg, Int.reduceToNat, Int.reduceNatCast, reduceCtorEq, eq_self, cleanN, h, Bool.false_eq_true]
theorem orTop (c : Nat) (h : c < 9223372036854775808) : IntKind.u64.wrap (orI .u64 (c : Int) 9223372036854775808) = ((c + 9223372036854775808 : Nat) : Int) := by
  have e := bits_or_u64_nat c 9223372036854775808 (by omega) (by omega)
  have : c ||| 9223372036854775808 = c + 9223372036854775808 := by
    have := Nat.two_pow_add_eq_or_of_lt (i := 63) (b := c) (by omega) 1
    rw [Nat.or_comm]
    simpa [Nat.add_comm] using this.symm
  rw [this] at e
  exact e
theorem notU (c : Nat) (h : c < 18446744073709551616) : IntKind.u64.wrap (notI .u64 (c : Int)) = ((18446744073709551615 - c : Nat) : Int) := by
  have e := bits_xor_u64_nat 18446744073709551615 c (by omega) h
  have : 18446744073709551615 ^^^ c = 18446744073709551615 - c := by
    rw [Nat.xor_comm]
    have := Nat.testBit_two_pow_sub_succ (x := c) (n := 64) h
    apply Nat.eq_of_testBit_eq
    intro i
    rw [Nat.testBit_xor]
    have h2 := this i
    rw [show 2 ^ 64 - (c + 1) = 18446744073709551615 - c from by omega] at h2
    rw [h2]
    have h3 : (18446744073709551615 : Nat).testBit i = decide (i < 64) := by
      have := Nat.testBit_two_pow_sub_one 64 i
      simpa using this
    rw [h3]
    by_cases hi : i < 64
    · simp [hi]
    · have h5 : 2 ^ 64 ≤ 2 ^ i := Nat.pow_le_pow_right (by omega) (by omega)
      have : c.testBit i = false := Nat.testBit_lt_two_pow (by omega)
      simp [hi, this]
  rw [this] at e
  exact e
set_option maxRecDepth 10000 in
theorem fkey_does (b : Nat) (hb : b < 18446744073709551616) (H : AHeap) : Does Try.prog 49 [du b] H (.ok (du (keyN b))) H := by
  have hc := cleanN_lt b hb
  have k1 := fclean_does b hb H
  unfold keyN
  generalize cleanN b = c at hc k1 ⊢
  refine Does.of_awp (hint := (fun _ => false)) Try.func49 (by kernel_rfl) rfl [2] (by kernel_rfl) (by decide) (by simp [Try.ntmps49]) ?_
  rw [Try.ntmps49]
  simp (implicitDefEqProofs := false) only [↓reduceIte, go_sem, oread, owrite, Nat.reduceAdd, Nat.reduceSub, Nat.reduceMul, Nat.reduceLT, Nat.reduceLeDiff, Nat.reduceEqDiff, Nat.reduceBEq, Int.reduceLE, Int.reduceLT, Int.reduceEq, Int.reduceNe, Int.reduceAdd, Int.reduceSub, Int.reduceMul, Int.reduceNeg, Int.reduceToNat, Int.reduceNatCast, reduceCtorEq, eq_self]
  refine KCall.ok k1 ?_
  simp (implicitDefEqProofs := false) only [↓reduceIte, go_sem, oread, owrite, Nat.reduceAdd, Nat.reduceSub, Nat.reduceMul, Nat.reduceLT, Nat.reduceLeDiff, Nat.reduceEqDiff, Nat.reduceBEq, Int.reduceLE, Int.reduceLT, Int.reduceEq, Int.reduceNe, Int.reduceAdd, Int.reduceSub, Int.reduceMul, Int.reduceNeg, Int.reduceToNat, Int.reduceNatCast, reduceCtorEq, eq_self]
  by_cases h : 9223372036854775808 ≤ c
  · simp (implicitDefEqProofs := false) only [↓reduceIte, go_sem, oread, owrite, Nat.reduceAdd, Nat.reduceSub, Nat.reduceMul, Nat.reduceLT, Nat.reduceLeDiff, Nat.reduceEqDiff, Nat.reduceBEq, Int.reduceLE, Int.reduceLT, Int.reduceEq, Int.reduceNe, Int.reduceAdd, Int.reduceSub, Int.reduceMul, Int.reduceNeg, Int.reduceToNat, Int.reduceNatCast, reduceCtorEq, eq_self, show (9223372036854775808 : Int) ≤ c from by omega, notU c hc]
    refine AEnd.ret0 ?_
    simp (implicitDefEqProofs := false) only [↓reduceIte, go_sem, oread, owrite, Nat.reduceAdd, Nat.reduceSub, Nat.reduceMul, Nat.reduceLT, Nat.reduceLeDiff, Nat.reduceEqDiff, Nat.reduceBEq, Int.reduceLE, Int.reduceLT, Int.reduceEq, Int.reduceNe, Int.reduceAdd, Int.reduceSub, Int.reduceMul, Int.reduceNeg, Int.reduceToNat, Int.reduceNatCast, reduceCtorEq, eq_self, h, du]
  · simp (implicitDefEqProofs := false) only [↓reduceIte, go_sem, oread, owrite, Nat.reduceAdd, Nat.reduceSub, Nat.reduceMul, Nat.reduceLT, Nat.reduceLeDiff, Nat.reduceEqDiff, Nat.reduceBEq, Int.reduceLE, Int.reduceLT, Int.reduceEq, Int.reduceNe, Int.reduceAdd, Int.reduceSub, Int.reduceMul, Int.reduceNeg, Int.reduceToNat, Int.reduceNatCast, reduceCtorEq, eq_self, show ¬ (9223372036854775808 : Int) ≤ c from by omega, orTop c (by omega)]
    refine AEnd.ret0 ?_
    simp (implicitDefEqProofs := false) only [↓reduceIte, go_sem, oread, owrite, Nat.reduceAdd, Nat.reduceSub, Nat.reduceMul, Nat.reduceLT, Nat.reduceLeDiff, Nat.reduceEqDiff, Nat.reduceBEq, Int.reduceLE, Int.reduceLT, Int.reduceEq, Int.reduceNe, Int.reduceAdd, Int.reduceSub, Int.reduceMul, Int.reduceNeg, Int.reduceToNat, Int.reduceNatCast, reduceCtorEq, eq_self, h, du]
set_option maxRecDepth 10000 in
theorem fcmp_does (a b : Nat) (ha : a < 18446744073709551616) (hb : b < 18446744073709551616) (H : AHeap) : Does Try.prog 39 [du a, du b] H (.ok (iA (cmpF a b))) H := by
  have k1 := fkey_does a ha H
  have k2 := fkey_does b hb H
  unfold cmpF
  generalize keyN a = x at k1 ⊢
  generalize keyN b = y at k2 ⊢
  refine Does.of_awp (hint := (fun _ => false)) Try.func39 (by kernel_rfl) rfl [4] (by kernel_rfl) (by decide) (by simp [Try.ntmps39]) ?_
  rw [Try.ntmps39]
  simp (implicitDefEqProofs := false) only [↓reduceIte, go_sem, oread, owrite, Nat.reduceAdd, Nat.reduceSub, Nat.reduceMul, Nat.reduceLT, Nat.reduceLeDiff, Nat.reduceEqDiff, Nat.reduceBEq, Int.reduceLE, Int.reduceLT, Int.reduceEq, Int.reduceNe, Int.reduceAdd, Int.reduceSub, Int.reduceMul, Int.reduceNeg, Int.reduceToNat, Int.reduceNatCast, reduceCtorEq, eq_self]
  refine KCall.ok k1 ?_
  simp (implicitDefEqProofs := false) only [↓reduceIte, go_sem, oread, owrite, Nat.reduceAdd, Nat.reduceSub, Nat.reduceMul, Nat.reduceLT, Nat.reduceLeDiff, Nat.reduceEqDiff, Nat.reduceBEq, Int.reduceLE, Int.reduceLT, Int.reduceEq, Int.reduceNe, Int.reduceAdd, Int.reduceSub, Int.reduceMul, Int.reduceNeg, Int.reduceToNat, Int.reduceNatCast, reduceCtorEq, eq_self]
  refine KCall.ok k2 ?_
  simp (implicitDefEqProofs := false) only [↓reduceIte, go_sem, oread, owrite, Nat.reduceAdd, Nat.reduceSub, Nat.reduceMul, Nat.reduceLT, Nat.reduceLeDiff, Nat.reduceEqDiff, Nat.reduceBEq, Int.reduceLE, Int.reduceLT, Int.reduceEq, Int.reduceNe, Int.reduceAdd, Int.reduceSub, Int.reduceMul, Int.reduceNeg, Int.reduceToNat, Int.reduceNatCast, reduceCtorEq, eq_self]
  by_cases h : x < y
  · refine awp_T (by simp (implicitDefEqProofs := false) only [↓reduceIte, go_sem, oread, owrite, Nat.reduceAdd, Nat.reduceSub, Nat.reduceMul, Nat.reduceLT, Nat.reduceLeDiff, Nat.reduceEqDiff, Nat.reduceBEq, Int.reduceLE, Int.reduceLT, Int.reduceEq, Int.reduceNe, Int.reduceAdd, Int.reduceSub, Int.reduceMul, Int.reduceNeg, Int.reduceToNat, Int.reduceNatCast, reduceCtorEq, eq_self, h]) ?_
    simp (implicitDefEqProofs := false) only [↓reduceIte, go_sem, oread, owrite, Nat.reduceAdd, Nat.reduceSub, Nat.reduceMul, Nat.reduceLT, Nat.reduceLeDiff, Nat.reduceEqDiff, Nat.reduceBEq, Int.reduceLE, Int.reduceLT, Int.reduceEq, Int.reduceNe, Int.reduceAdd, Int.reduceSub, Int.reduceMul, Int.reduceNeg, Int.reduceToNat, Int.reduceNatCast, reduceCtorEq, eq_self]
    refine AEnd.ret0 ?_
    simp (implicitDefEqProofs := false) only [↓reduceIte, go_sem, oread, owrite, Nat.reduceAdd, Nat.reduceSub, Nat.reduceMul, Nat.reduceLT, Nat.reduceLeDiff, Nat.reduceEqDiff, Nat.reduceBEq, Int.reduceLE, Int.reduceLT, Int.reduceEq, Int.reduceNe, Int.reduceAdd, Int.reduceSub, Int.reduceMul, Int.reduceNeg, Int.reduceToNat, Int.reduceNatCast, reduceCtorEq, eq_self, ordI, h]
  · refine awp_F (by simp (implicitDefEqProofs := false) only [↓reduceIte, go_sem, oread, owrite, Nat.reduceAdd, Nat.reduceSub, Nat.reduceMul, Nat.reduceLT, Nat.reduceLeDiff, Nat.reduceEqDiff, Nat.reduceBEq, Int.reduceLE, Int.reduceLT, Int.reduceEq, Int.reduceNe, Int.reduceAdd, Int.reduceSub, Int.reduceMul, Int.reduceNeg, Int.reduceToNat, Int.reduceNatCast, reduceCtorEq, eq_self, h]) ?_
    simp (implicitDefEqProofs := false) only [↓reduceIte, go_sem, oread, owrite, Nat.reduceAdd, Nat.reduceSub, Nat.reduceMul, Nat.reduceLT, Nat.reduceLeDiff, Nat.reduceEqDiff, Nat.reduceBEq, Int.reduceLE, Int.reduceLT, Int.reduceEq, Int.reduceNe, Int.reduceAdd, Int.reduceSub, Int.reduceMul, Int.reduceNeg, Int.reduceToNat, Int.reduceNatCast, reduceCtorEq, eq_self]
    by_cases h2 : y < x
    · refine awp_T (by simp (implicitDefEqProofs := false) only [↓reduceIte, go_sem, oread, owrite, Nat.reduceAdd, Nat.reduceSub, Nat.reduceMul, Nat.reduceLT, Nat.reduceLeDiff, Nat.reduceEqDiff, Nat.reduceBEq, Int.reduceLE, Int.reduceLT, Int.reduceEq, Int.reduceNe, Int.reduceAdd, Int.reduceSub, Int.reduceMul, Int.reduceNeg, Int.reduceToNat, Int.reduceNatCast, reduceCtorEq, eq_self, h2]) ?_
      simp (implicitDefEqProofs := false) only [↓reduceIte, go_sem, oread, owrite, Nat.reduceAdd, Nat.reduceSub, Nat.reduceMul, Nat.reduceLT, Nat.reduceLeDiff, Nat.reduceEqDiff, Nat.reduceBEq, Int.reduceLE, Int.reduceLT, Int.reduceEq, Int.reduceNe, Int.reduceAdd, Int.reduceSub, Int.reduceMul, Int.reduceNeg, Int.reduceToNat, Int.reduceNatCast, reduceCtorEq, eq_self]
      refine AEnd.ret0 ?_
      simp (implicitDefEqProofs := false) only [↓reduceIte, go_sem, oread, owrite, Nat.reduceAdd, Nat.reduceSub, Nat.reduceMul, Nat.reduceLT, Nat.reduceLeDiff, Nat.reduceEqDiff, Nat.reduceBEq, Int.reduceLE, Int.reduceLT, Int.reduceEq, Int.reduceNe, Int.reduceAdd, Int.reduceSub, Int.reduceMul, Int.reduceNeg, Int.reduceToNat, Int.reduceNatCast, reduceCtorEq, eq_self, ordI, h, h2]
    · refine awp_F (by simp (implicitDefEqProofs := false) only [↓reduceIte, go_sem, oread, owrite, Nat.reduceAdd, Nat.reduceSub, Nat.reduceMul, Nat.reduceLT, Nat.reduceLeDiff, Nat.reduceEqDiff, Nat.reduceBEq, Int.reduceLE, Int.reduceLT, Int.reduceEq, Int.reduceNe, Int.reduceAdd, Int.reduceSub, Int.reduceMul, Int.reduceNeg, Int.reduceToNat, Int.reduceNatCast, reduceCtorEq, eq_self, h2]) ?_
      simp (implicitDefEqProofs := false) only [↓reduceIte, go_sem, oread, owrite, Nat.reduceAdd, Nat.reduceSub, Nat.reduceMul, Nat.reduceLT, Nat.reduceLeDiff, Nat.reduceEqDiff, Nat.reduceBEq, Int.reduceLE, Int.reduceLT, Int.reduceEq, Int.reduceNe, Int.reduceAdd, Int.reduceSub, Int.reduceMul, Int.reduceNeg, Int.reduceToNat, Int.reduceNatCast, reduceCtorEq, eq_self]
      refine AEnd.ret0 ?_
      simp (implicitDefEqProofs := false) only [↓reduceIte, go_sem, oread, owrite, Nat.reduceAdd, Nat.reduceSub, Nat.reduceMul, Nat.reduceLT, Nat.reduceLeDiff, Nat.reduceEqDiff, Nat.reduceBEq, Int.reduceLE, Int.reduceLT, Int.reduceEq, Int.reduceNe, Int.reduceAdd, Int.reduceSub, Int.reduceMul, Int.reduceNeg, Int.reduceToNat, Int.reduceNatCast, reduceCtorEq, eq_self, ordI, h, h2]
/-- A value as an argument. -/
abbrev Val.av (v : Val) : AV := .agg [iA v.kind, iA v.i, sA v.s]
set_option maxRecDepth 10000 in
set_option maxHeartbeats 1000000 in
theorem vcmp_does (a b : Val) (H : AHeap) : Does Try.prog 22 [a.av, b.av] H (.ok (iA (cmpV a b))) H := by
  unfold cmpV
  refine Does.of_awp (hint := (fun _ => false)) Try.func22 (by kernel_rfl) rfl [4] (by kernel_rfl) (by decide) (by simp [Try.ntmps22]) ?_
  rw [Try.ntmps22]
  simp (implicitDefEqProofs := false) only [↓reduceIte, go_sem, oread, owrite, Nat.reduceAdd, Nat.reduceSub, Nat.reduceMul, Nat.reduceLT, Nat.reduceLeDiff, Nat.reduceEqDiff, Nat.reduceBEq, Int.reduceLE, Int.reduceLT, Int.reduceEq, Int.reduceNe, Int.reduceAdd, Int.reduceSub, Int.reduceMul, Int.reduceNeg, Int.reduceToNat, Int.reduceNatCast, reduceCtorEq, eq_self]
  by_cases h : a.kind = b.kind
  · refine awp_F (by simp (implicitDefEqProofs := false) only [↓reduceIte, go_sem, oread, owrite, Nat.reduceAdd, Nat.reduceSub, Nat.reduceMul, Nat.reduceLT, Nat.reduceLeDiff, Nat.reduceEqDiff, Nat.reduceBEq, Int.reduceLE, Int.reduceLT, Int.reduceEq, Int.reduceNe, Int.reduceAdd, Int.reduceSub, Int.reduceMul, Int.reduceNeg, Int.reduceToNat, Int.reduceNatCast, reduceCtorEq, eq_self, h]) ?_
    simp (implicitDefEqProofs := false) only [↓reduceIte, go_sem, oread, owrite, Nat.reduceAdd, Nat.reduceSub, Nat.reduceMul, Nat.reduceLT, Nat.reduceLeDiff, Nat.reduceEqDiff, Nat.reduceBEq, Int.reduceLE, Int.reduceLT, Int.reduceEq, Int.reduceNe, Int.reduceAdd, Int.reduceSub, Int.reduceMul, Int.reduceNeg, Int.reduceToNat, Int.reduceNatCast, reduceCtorEq, eq_self]
    by_cases h1 : a.kind = 1
    · refine awp_T (by simp (implicitDefEqProofs := false) only [↓reduceIte, go_sem, oread, owrite, Nat.reduceAdd, Nat.reduceSub, Nat.reduceMul, Nat.reduceLT, Nat.reduceLeDiff, Nat.reduceEqDiff, Nat.reduceBEq, Int.reduceLE, Int.reduceLT, Int.reduceEq, Int.reduceNe, Int.reduceAdd, Int.reduceSub, Int.reduceMul, Int.reduceNeg, Int.reduceToNat, Int.reduceNatCast, reduceCtorEq, eq_self, h1]) ?_
      simp (implicitDefEqProofs := false) only [↓reduceIte, go_sem, oread, owrite, Nat.reduceAdd, Nat.reduceSub, Nat.reduceMul, Nat.reduceLT, Nat.reduceLeDiff, Nat.reduceEqDiff, Nat.reduceBEq, Int.reduceLE, Int.reduceLT, Int.reduceEq, Int.reduceNe, Int.reduceAdd, Int.reduceSub, Int.reduceMul, Int.reduceNeg, Int.reduceToNat, Int.reduceNatCast, reduceCtorEq, eq_self]
      refine KCall.ok (cmp_int64_does _ _ _) ?_
      simp (implicitDefEqProofs := false) only [↓reduceIte, go_sem, oread, owrite, Nat.reduceAdd, Nat.reduceSub, Nat.reduceMul, Nat.reduceLT, Nat.reduceLeDiff, Nat.reduceEqDiff, Nat.reduceBEq, Int.reduceLE, Int.reduceLT, Int.reduceEq, Int.reduceNe, Int.reduceAdd, Int.reduceSub, Int.reduceMul, Int.reduceNeg, Int.reduceToNat, Int.reduceNatCast, reduceCtorEq, eq_self]
      refine AEnd.ret ?_
      simp (implicitDefEqProofs := false) only [↓reduceIte, go_sem, oread, owrite, Nat.reduceAdd, Nat.reduceSub, Nat.reduceMul, Nat.reduceLT, Nat.reduceLeDiff, Nat.reduceEqDiff, Nat.reduceBEq, Int.reduceLE, Int.reduceLT, Int.reduceEq, Int.reduceNe, Int.reduceAdd, Int.reduceSub, Int.reduceMul, Int.reduceNeg, Int.reduceToNat, Int.reduceNatCast, reduceCtorEq, eq_self, h1, ← h]
    · refine awp_F (by simp (implicitDefEqProofs := false) only [↓reduceIte, go_sem, oread, owrite, Nat.reduceAdd, Nat.reduceSub, Nat.reduceMul, Nat.reduceLT, Nat.reduceLeDiff, Nat.reduceEqDiff, Nat.reduceBEq, Int.reduceLE, Int.reduceLT, Int.reduceEq, Int.reduceNe, Int.reduceAdd, Int.reduceSub, Int.reduceMul, Int.reduceNeg, Int.reduceToNat, Int.reduceNatCast, reduceCtorEq, eq_self, h1]) ?_
      simp (implicitDefEqProofs := false) only [↓reduceIte, go_sem, oread, owrite, Nat.reduceAdd, Nat.reduceSub, Nat.reduceMul, Nat.reduceLT, Nat.reduceLeDiff, Nat.reduceEqDiff, Nat.reduceBEq, Int.reduceLE, Int.reduceLT, Int.reduceEq, Int.reduceNe, Int.reduceAdd, Int.reduceSub, Int.reduceMul, Int.reduceNeg, Int.reduceToNat, Int.reduceNatCast, reduceCtorEq, eq_self]
      by_cases h2 : a.kind = 2
      · refine awp_T (by simp (implicitDefEqProofs := false) only [↓reduceIte, go_sem, oread, owrite, Nat.reduceAdd, Nat.reduceSub, Nat.reduceMul, Nat.reduceLT, Nat.reduceLeDiff, Nat.reduceEqDiff, Nat.reduceBEq, Int.reduceLE, Int.reduceLT, Int.reduceEq, Int.reduceNe, Int.reduceAdd, Int.reduceSub, Int.reduceMul, Int.reduceNeg, Int.reduceToNat, Int.reduceNatCast, reduceCtorEq, eq_self, h2]) ?_
        simp (implicitDefEqProofs := false) only [↓reduceIte, go_sem, oread, owrite, Nat.reduceAdd, Nat.reduceSub, Nat.reduceMul, Nat.reduceLT, Nat.reduceLeDiff, Nat.reduceEqDiff, Nat.reduceBEq, Int.reduceLE, Int.reduceLT, Int.reduceEq, Int.reduceNe, Int.reduceAdd, Int.reduceSub, Int.reduceMul, Int.reduceNeg, Int.reduceToNat, Int.reduceNatCast, reduceCtorEq, eq_self, wrap_toU]
        refine KCall.ok (fcmp_does _ _ (toU_lt _) (toU_lt _) _) ?_
        simp (implicitDefEqProofs := false) only [↓reduceIte, go_sem, oread, owrite, Nat.reduceAdd, Nat.reduceSub, Nat.reduceMul, Nat.reduceLT, Nat.reduceLeDiff, Nat.reduceEqDiff, Nat.reduceBEq, Int.reduceLE, Int.reduceLT, Int.reduceEq, Int.reduceNe, Int.reduceAdd, Int.reduceSub, Int.reduceMul, Int.reduceNeg, Int.reduceToNat, Int.reduceNatCast, reduceCtorEq, eq_self]
        refine AEnd.ret ?_
        simp (implicitDefEqProofs := false) only [↓reduceIte, go_sem, oread, owrite, Nat.reduceAdd, Nat.reduceSub, Nat.reduceMul, Nat.reduceLT, Nat.reduceLeDiff, Nat.reduceEqDiff, Nat.reduceBEq, Int.reduceLE, Int.reduceLT, Int.reduceEq, Int.reduceNe, Int.reduceAdd, Int.reduceSub, Int.reduceMul, Int.reduceNeg, Int.reduceToNat, Int.reduceNatCast, reduceCtorEq, eq_self, h2, ← h]
      · refine awp_F (by simp (implicitDefEqProofs := false) only [↓reduceIte, go_sem, oread, owrite, Nat.reduceAdd, Nat.reduceSub, Nat.reduceMul, Nat.reduceLT, Nat.reduceLeDiff, Nat.reduceEqDiff, Nat.reduceBEq, Int.reduceLE, Int.reduceLT, Int.reduceEq, Int.reduceNe, Int.reduceAdd, Int.reduceSub, Int.reduceMul, Int.reduceNeg, Int.reduceToNat, Int.reduceNatCast, reduceCtorEq, eq_self, h2]) ?_
        simp (implicitDefEqProofs := false) only [↓reduceIte, go_sem, oread, owrite, Nat.reduceAdd, Nat.reduceSub, Nat.reduceMul, Nat.reduceLT, Nat.reduceLeDiff, Nat.reduceEqDiff, Nat.reduceBEq, Int.reduceLE, Int.reduceLT, Int.reduceEq, Int.reduceNe, Int.reduceAdd, Int.reduceSub, Int.reduceMul, Int.reduceNeg, Int.reduceToNat, Int.reduceNatCast, reduceCtorEq, eq_self]
        by_cases h3 : a.kind = 3
        · refine awp_T (by simp (implicitDefEqProofs := false) only [↓reduceIte, go_sem, oread, owrite, Nat.reduceAdd, Nat.reduceSub, Nat.reduceMul, Nat.reduceLT, Nat.reduceLeDiff, Nat.reduceEqDiff, Nat.reduceBEq, Int.reduceLE, Int.reduceLT, Int.reduceEq, Int.reduceNe, Int.reduceAdd, Int.reduceSub, Int.reduceMul, Int.reduceNeg, Int.reduceToNat, Int.reduceNatCast, reduceCtorEq, eq_self, h3]) ?_
          simp (implicitDefEqProofs := false) only [↓reduceIte, go_sem, oread, owrite, Nat.reduceAdd, Nat.reduceSub, Nat.reduceMul, Nat.reduceLT, Nat.reduceLeDiff, Nat.reduceEqDiff, Nat.reduceBEq, Int.reduceLE, Int.reduceLT, Int.reduceEq, Int.reduceNe, Int.reduceAdd, Int.reduceSub, Int.reduceMul, Int.reduceNeg, Int.reduceToNat, Int.reduceNatCast, reduceCtorEq, eq_self]
          refine KCall.ok (cmp_string_does _ _ _) ?_
          simp (implicitDefEqProofs := false) only [↓reduceIte, go_sem, oread, owrite, Nat.reduceAdd, Nat.reduceSub, Nat.reduceMul, Nat.reduceLT, Nat.reduceLeDiff, Nat.reduceEqDiff, Nat.reduceBEq, Int.reduceLE, Int.reduceLT, Int.reduceEq, Int.reduceNe, Int.reduceAdd, Int.reduceSub, Int.reduceMul, Int.reduceNeg, Int.reduceToNat, Int.reduceNatCast, reduceCtorEq, eq_self]
          refine AEnd.ret ?_
          simp (implicitDefEqProofs := false) only [↓reduceIte, go_sem, oread, owrite, Nat.reduceAdd, Nat.reduceSub, Nat.reduceMul, Nat.reduceLT, Nat.reduceLeDiff, Nat.reduceEqDiff, Nat.reduceBEq, Int.reduceLE, Int.reduceLT, Int.reduceEq, Int.reduceNe, Int.reduceAdd, Int.reduceSub, Int.reduceMul, Int.reduceNeg, Int.reduceToNat, Int.reduceNatCast, reduceCtorEq, eq_self, h3, ← h]
        · refine awp_F (by simp (implicitDefEqProofs := false) only [↓reduceIte, go_sem, oread, owrite, Nat.reduceAdd, Nat.reduceSub, Nat.reduceMul, Nat.reduceLT, Nat.reduceLeDiff, Nat.reduceEqDiff, Nat.reduceBEq, Int.reduceLE, Int.reduceLT, Int.reduceEq, Int.reduceNe, Int.reduceAdd, Int.reduceSub, Int.reduceMul, Int.reduceNeg, Int.reduceToNat, Int.reduceNatCast, reduceCtorEq, eq_self, h3]) ?_
          simp (implicitDefEqProofs := false) only [↓reduceIte, go_sem, oread, owrite, Nat.reduceAdd, Nat.reduceSub, Nat.reduceMul, Nat.reduceLT, Nat.reduceLeDiff, Nat.reduceEqDiff, Nat.reduceBEq, Int.reduceLE, Int.reduceLT, Int.reduceEq, Int.reduceNe, Int.reduceAdd, Int.reduceSub, Int.reduceMul, Int.reduceNeg, Int.reduceToNat, Int.reduceNatCast, reduceCtorEq, eq_self]
          refine AEnd.ret ?_
          simp (implicitDefEqProofs := false) only [↓reduceIte, go_sem, oread, owrite, Nat.reduceAdd, Nat.reduceSub, Nat.reduceMul, Nat.reduceLT, Nat.reduceLeDiff, Nat.reduceEqDiff, Nat.reduceBEq, Int.reduceLE, Int.reduceLT, Int.reduceEq, Int.reduceNe, Int.reduceAdd, Int.reduceSub, Int.reduceMul, Int.reduceNeg, Int.reduceToNat, Int.reduceNatCast, reduceCtorEq, eq_self, h1, h2, h3, ← h]
  · refine awp_T (by simp (implicitDefEqProofs := false) only [↓reduceIte, go_sem, oread, owrite, Nat.reduceAdd, Nat.reduceSub, Nat.reduceMul, Nat.reduceLT, Nat.reduceLeDiff, Nat.reduceEqDiff, Nat.reduceBEq, Int.reduceLE, Int.reduceLT, Int.reduceEq, Int.reduceNe, Int.reduceAdd, Int.reduceSub, Int.reduceMul, Int.reduceNeg, Int.reduceToNat, Int.reduceNatCast, reduceCtorEq, eq_self, h]) ?_
    simp (implicitDefEqProofs := false) only [↓reduceIte, go_sem, oread, owrite, Nat.reduceAdd, Nat.reduceSub, Nat.reduceMul, Nat.reduceLT, Nat.reduceLeDiff, Nat.reduceEqDiff, Nat.reduceBEq, Int.reduceLE, Int.reduceLT, Int.reduceEq, Int.reduceNe, Int.reduceAdd, Int.reduceSub, Int.reduceMul, Int.reduceNeg, Int.reduceToNat, Int.reduceNatCast, reduceCtorEq, eq_self]
    refine KCall.ok (cmp_int_does _ _ _) ?_
    simp (implicitDefEqProofs := false) only [↓reduceIte, go_sem, oread, owrite, Nat.reduceAdd, Nat.reduceSub, Nat.reduceMul, Nat.reduceLT, Nat.reduceLeDiff, Nat.reduceEqDiff, Nat.reduceBEq, Int.reduceLE, Int.reduceLT, Int.reduceEq, Int.reduceNe, Int.reduceAdd, Int.reduceSub, Int.reduceMul, Int.reduceNeg, Int.reduceToNat, Int.reduceNatCast, reduceCtorEq, eq_self]
    refine AEnd.ret ?_
    simp (implicitDefEqProofs := false) only [↓reduceIte, go_sem, oread, owrite, Nat.reduceAdd, Nat.reduceSub, Nat.reduceMul, Nat.reduceLT, Nat.reduceLeDiff, Nat.reduceEqDiff, Nat.reduceBEq, Int.reduceLE, Int.reduceLT, Int.reduceEq, Int.reduceNe, Int.reduceAdd, Int.reduceSub, Int.reduceMul, Int.reduceNeg, Int.reduceToNat, Int.reduceNatCast, reduceCtorEq, eq_self, h]
end Go.Proofs.Ytkapgooedfompaa
namespace Go.Proofs.YtkapgooedfompaaAw
open Go.RowKit
set_option linter.unusedVariables false
set_option linter.unusedSimpArgs false
def resAV (P : Program) (H : AHeap) (s : Nat → AV) : ResultVar → Option AV
  | .tmp t => some (s t)
  | .cell a t => (agB P t).bind fun b => if b = true then (TI P t).bind fun z => (aread H z.2.1 (s a)).map .agg else as1 (aread H 1 (s a))
def resAll (P : Program) (H : AHeap) (s : Nat → AV) : List ResultVar → Option (List AV)
  | [] => some []
  | r :: rs => (resAV P H s r).bind fun x => (resAll P H s rs).map (x :: ·)
def AEndC (P : Program) (rs : List ResultVar) (H0 : AHeap) (res : ARes) (H' : AHeap) : Post := fun e s H =>
  match e with
  | .normal | .ret => ∃ avs s', resAll P H s rs = some avs ∧ Weak H0 (fun t => avs.getD t .top) H s' H' ∧ res = .ok (ares (List.range avs.length) s')
  | .panic v => ∃ s', Weak H0 s H s' H' ∧ res = .panic v
  | _ => False
section
variable {P : Program} {H : AHeap} {φ : Phi} {N : Addr → Prop} {w : World} {s : Nat → AV} {a : Act}
theorem loadVar_agg (hR : Rel H φ N w) {x : AV} {v : Value} (hx : RA H φ N w x v) {t : TypeId} (hg : agB P t = some true) {z : Value} {k b : Nat} (hi : TI P t = some (z, k, b)) {cs : List AV} (h : aread H k x = some cs) :
    ∃ ad u, v = .pointer (some ad) ∧ (loadVar t ad).run P w = .ok u w ∧ RA H φ N w (.agg cs) u := by
  obtain ⟨hl, ad, hv, hh⟩ := aread_ok hR hx h
  let f : Nat → Value := fun t => if ht : t < cs.length then (hh t ht).choose else undef
  have hf : ∀ t (ht : t < cs.length), w.cell? (ad.add t) = some (f t) ∧ RA H φ N w (cs[t]) (f t) := fun t ht => by
    simp only [f, ht, dif_pos]; exact (hh t ht).choose_spec
  have hrun := run_loadCells (P := P) w ad k f fun j hj => (hf j (by omega)).1
  refine ⟨ad, .agg ((List.range k).map f).toArray, hv, ?_, .agg _ _ (by simp [hl]) fun i h1 h2 => ?_⟩
  · simp only [loadVar, Sem.run_bind, agB.run hg, Result.andThen_ok, if_true, TI.sizeOf hi, hrun, Sem.run_pure]
  · simp only [List.getElem_toArray, List.getElem_map, List.getElem_range]
    exact (hf i h1).2
theorem loadVar_one (hR : Rel H φ N w) {x : AV} {v : Value} (hx : RA H φ N w x v) {t : TypeId} (hg : agB P t = some false) {c : AV} (h : aread H 1 x = some [c]) :
    ∃ ad u, v = .pointer (some ad) ∧ (loadVar t ad).run P w = .ok u w ∧ RA H φ N w c u := by
  obtain ⟨hl, ad, hv, hh⟩ := aread_ok hR hx h
  obtain ⟨u, hu, hr⟩ := hh 0 (by simp)
  have hu' : w.cell? ad = some u := by simpa [Addr.add] using hu
  exact ⟨ad, u, hv, by simp only [loadVar, Sem.run_bind, agB.run hg, Result.andThen_ok, Bool.false_eq_true, if_false, run_load, hu'], hr⟩
theorem resAV_ok (hR : Rel H φ N w) (hT : TRel H φ N w s a) {r : ResultVar} {x : AV} (h : resAV P H s r = some x) :
    ∃ u, (match r with | .tmp t => pure (a.tmps.getD t undef) | .cell b t => do loadVar t (← asAddr (a.tmps.getD b undef)) : Sem Value).run P w = .ok u w ∧ RA H φ N w x u := by
  cases r with
  | tmp t => cases h; exact ⟨_, rfl, hT t⟩
  | cell b t =>
    simp only [resAV] at h
    obtain ⟨g, hg, h⟩ := Option.bind_eq_some_iff.1 h
    cases g with
    | true =>
      rw [if_pos rfl] at h
      obtain ⟨⟨z, k, bb⟩, hz, h⟩ := Option.bind_eq_some_iff.1 h
      obtain ⟨cs, hc, rfl⟩ := Option.map_eq_some_iff.1 h
      obtain ⟨ad, u, hv, hrun, hu⟩ := loadVar_agg hR (hT b) hg hz hc
      exact ⟨u, by simp only [hv, Sem.run_bind, asAddr, Sem.run_pure, Result.andThen_ok, hrun], hu⟩
    | false =>
      rw [if_neg (by simp)] at h
      have hc : aread H 1 (s b) = some [x] := by
        revert h
        cases aread H 1 (s b) with
        | none => intro h; cases h
        | some l => rcases l with _ | ⟨c, _ | ⟨d, l⟩⟩ <;> intro h <;> cases h; rfl
      obtain ⟨ad, u, hv, hrun, hu⟩ := loadVar_one hR (hT b) hg hc
      exact ⟨u, by simp only [hv, Sem.run_bind, asAddr, Sem.run_pure, Result.andThen_ok, hrun], hu⟩
theorem resAll_ok (hR : Rel H φ N w) (hT : TRel H φ N w s a) : ∀ {rs : List ResultVar} {xs : List AV}, resAll P H s rs = some xs →
    ∃ us : List Value, (rs.mapM fun r => (match r with | .tmp t => pure (a.tmps.getD t undef) | .cell b t => do loadVar t (← asAddr (a.tmps.getD b undef)) : Sem Value)).run P w = .ok us w ∧ xs.length = us.length ∧ ∀ i (h1 : i < xs.length) (h2 : i < us.length), RA H φ N w (xs[i]) (us[i])
  | [], xs, h => by cases h; exact ⟨[], rfl, rfl, fun i h1 => by simp at h1⟩
  | r :: rs, xs, h => by
    simp only [resAll] at h
    obtain ⟨x, hx, h⟩ := Option.bind_eq_some_iff.1 h
    obtain ⟨ys, hy, rfl⟩ := Option.map_eq_some_iff.1 h
    obtain ⟨u, hu, ru⟩ := resAV_ok hR hT hx
    obtain ⟨us, hus, hl, rus⟩ := resAll_ok hR hT hy
    refine ⟨u :: us, ?_, by simp [hl], fun i h1 h2 => ?_⟩
    · rw [List.mapM_cons, Sem.run_bind, hu]
      simp only [Result.andThen_ok, Sem.run_bind, hus, Sem.run_pure]
    · cases i with
      | zero => exact ru
      | succ i => simpa using rus i (by simpa using h1) (by simpa using h2)
theorem results_run {fn : Func} {us : List Value} {tmps : Array Value} (h : (fn.results.toList.mapM fun r => (match r with | .tmp t => pure (tmps.getD t undef) | .cell b t => do loadVar t (← asAddr (tmps.getD b undef)) : Sem Value)).run P w = .ok us w) :
    (results fn tmps).run P w = .ok (match us with | [u] => u | l => .tuple l.toArray) w := by
  unfold results
  rw [Sem.run_bind, Array.mapM_eq_mapM_toList, Sem.run_map]
  refine (congrArg (fun r => (Result.andThen r fun a w' => Result.ok (List.toArray a) w').andThen fun vs w' => Sem.run P (pure (if h : vs.size = 1 then vs[0] else .tuple vs)) w') (Eq.trans ?_ h)).trans ?_
  · congr 1
  · simp only [Result.andThen_ok, Sem.run_pure]
    match us with
    | [] => rfl
    | [u] => rfl
    | u :: v :: l => simp
theorem ares_many (l : List Tmp) (h : l.length ≠ 1) (s : Nat → AV) : ares l s = .tup (l.map s) := by
  rcases l with _ | ⟨a, _ | ⟨b, l⟩⟩
  · rfl
  · exact absurd rfl h
  · rfl
/-- The contract of a function out of its body, where results may lie in memory. -/
theorem Does.of_awpC {hint : Nat → Bool} {f : FuncId} {fn : Func} {body : Code} (hf : P.funcs[f]? = some fn) (hn : (fn.name == "runtime.NumGoroutine") = false) (hb : fn.body = some body) (rs : List ResultVar) (hr : fn.results.toList = rs)
    {args : List AV} {H : AHeap} {res : ARes} {H' : AHeap} (ha : args.length ≤ fn.ntmps) (h : awp P hint fn.ntmps H body (AEndC P rs H res H') (ainit args) H) : Does P f args H res H' := by
  intro φ N w vals hR hA
  refine .inl ⟨enter_run hf hn (by rw [hb]; rfl) vals w, calls_of_wp hf hb ?_⟩
  have hI : Inv H φ N w fn.ntmps [] (ainit args) H φ N { tmps := vals ++ Array.replicate (fn.ntmps - vals.size) undef, defers := [] } w := by
    refine ⟨hR, fun t => ?_, Since.refl, by simp; have := hA.1; omega, rfl⟩
    simp only [ainit]
    by_cases ht : t < args.length
    · have ht' : t < vals.size := by rw [← hA.1]; exact ht
      have := hA.2 t ht ht'
      have e1 : args.getD t .top = args[t] := by simp [List.getD, ht]
      have e2 : (vals ++ Array.replicate (fn.ntmps - vals.size) undef).getD t undef = vals[t] := by
        rw [Array.getD_eq_getD_getElem?, Array.getElem?_append_left ht']; simp [ht']
      rw [e1, e2]
      exact this
    · have e1 : args.getD t .top = .top := by simp [List.getD, List.getElem?_eq_none (Nat.le_of_not_lt ht)]
      rw [e1]
      exact .top _
  refine wp_mono (awp_ok hR body _ hI h) ?_
  rintro e a' w' ⟨ax, s', H1, φ1, N1, rfl, hq, hI1⟩
  have fin : (∃ avs s'', resAll P H1 s' rs = some avs ∧ Weak H (fun t => avs.getD t .top) H1 s'' H' ∧ res = .ok (ares (List.range avs.length) s'')) → a'.defers = [] ∧ ∃ v, (results fn a'.tmps).run P w' = .ok v w' ∧ ∃ φ' N', Rel H' φ' N' w' ∧ Since H φ N w H' φ' N' w' ∧ REnd H' φ' N' w' res (.returned v) := by
    rintro ⟨avs, s'', hav, hW, rfl⟩
    obtain ⟨us, hus, hl, hru⟩ := resAll_ok hI1.rel hI1.tmps hav
    have hI2 : Inv H φ N w us.length [] (fun t => avs.getD t .top) H1 φ1 N1 { tmps := us.toArray, defers := [] } w' := by
      refine ⟨hI1.rel, fun t => ?_, hI1.since, by simp, rfl⟩
      by_cases ht : t < avs.length
      · have e1 : avs.getD t .top = avs[t] := by simp [List.getD, ht]
        have e2 : (us.toArray : Array Value).getD t undef = us[t]'(by omega) := by
          rw [Array.getD_eq_getD_getElem?]; simp [show t < us.length by omega]
        simp only [e1, e2]
        exact hru t ht (by omega)
      · have e1 : avs.getD t .top = .top := by simp [List.getD, List.getElem?_eq_none (Nat.le_of_not_lt ht)]
        simp only [e1]
        exact .top _
    obtain ⟨φ2, N2, hI3⟩ := hW.ok hR hI2
    refine ⟨hI1.defers, _, results_run (by rw [hr]; exact hus), φ2, N2, hI3.rel, hI3.since, ?_⟩
    have at_ : ∀ t, RA H' φ2 N2 w' (s'' t) ((us.toArray : Array Value).getD t undef) := hI3.tmps
    show RA H' φ2 N2 w' (ares (List.range avs.length) s'') _
    match us, hl with
    | [], hl =>
      have : avs = [] := List.eq_nil_of_length_eq_zero hl
      subst this
      exact .tup _ _ rfl fun i h1 => by simp at h1
    | [u], hl =>
      have : avs.length = 1 := hl
      rw [this]
      exact at_ 0
    | u :: v :: l, hl =>
      have e : ares (List.range avs.length) s'' = .tup ((List.range avs.length).map s'') := by
        exact ares_many _ (by simp [hl]) s''
      rw [e]
      refine .tup _ _ (by simp [hl]) fun i h1 h2 => ?_
      have := at_ i
      rw [Array.getD_eq_getD_getElem?] at this
      simp only [List.size_toArray] at h2
      rw [List.getElem?_toArray, List.getElem?_eq_getElem h2] at this
      simpa using this
  cases ax with
  | normal => exact fin hq
  | ret => exact fin hq
  | exit i => exact hq.elim
  | panic v =>
    obtain ⟨s'', hW, rfl⟩ := hq
    obtain ⟨φ2, N2, hI2⟩ := hW.ok hR hI1
    exact ⟨hI2.defers, φ2, N2, hI2.rel, hI2.since, rfl⟩
theorem AEndC.ret {rs : List ResultVar} {H T : AHeap} {s : Nat → AV} {r : AV} (h : ob (resAll P (H ++ T) s rs) fun avs => r = ares (List.range avs.length) fun t => frz (H ++ T) H.length (avs.getD t .top)) : AEndC P rs H (.ok r) H .ret s (H ++ T) := by
  cases e : resAll P (H ++ T) s rs with
  | none => rw [e] at h; exact h.elim
  | some avs =>
    rw [e] at h
    exact ⟨avs, _, e, Weak.drop H T _, by rw [show r = _ from h]⟩
end
end Go.Proofs.YtkapgooedfompaaAw
namespace Go.Proofs.Ytkapgooedfompaa
open Go.Proofs.YtkapgooedfompaaAw Go.RowKit
set_option linter.unusedVariables false
set_option linter.unusedSimpArgs false
def noS : ByteArray := ⟨#[]⟩
theorem sameV_noS (v : Val) : sameV v.kind v.i v.s 0 0 noS = decide (v = ⟨0, 0, noS⟩) := sameV_eq v ⟨0, 0, noS⟩
theorem noS_toList : noS.toList = [] := by rw [ByteArray.toList_eq]; rfl
theorem toList_nil_size (s : ByteArray) : s.toList = [] ↔ s = noS := ⟨fun h => toList_inj (by rw [h, noS_toList]), fun h => by rw [h]; exact noS_toList⟩
theorem zero_iff (v : Val) (h0 : v.kind = 0) : (v = ⟨0, 0, noS⟩) = (v.i = 0 ∧ v.s.toList = []) := by
  cases v with | mk k i s =>
  simp only at h0
  subst h0
  simp [toList_nil_size]
end Go.Proofs.Ytkapgooedfompaa
namespace Go.Proofs.Ytkapgooedfompaa
open Go.Proofs.YtkapgooedfompaaAw Go.RowKit
set_option linter.unusedVariables false
set_option linter.unusedSimpArgs false
def mayV (v : Val) : Bool := if v.kind = 2 then decide (toU v.i = cleanN (toU v.i)) && decide (v.s.toList = []) else if v.kind = 1 then decide (v.s.toList = []) else if v.kind = 3 then decide (v.i = 0) && decide (v.s.size ≤ 1024) else if v.kind = 0 then decide (v.i = 0) && decide (v.s.toList = []) else false
set_option maxRecDepth 10000 in
set_option maxHeartbeats 1000000 in
theorem mayV_does (v : Val) (H : AHeap) : Does Try.prog 45 [v.av] H (.ok (bA (mayV v))) H := by
  have e0 : ∀ x : ByteArray, (x.toList == (⟨#[]⟩ : ByteArray).toList) = decide (x.toList = []) := fun x => by
    rw [show (⟨#[]⟩ : ByteArray).toList = [] from noS_toList]; rw [Bool.eq_iff_iff]; simp
  refine Does.of_awp (hint := (fun _ => false)) Try.func45 (by kernel_rfl) rfl [2] (by kernel_rfl) (by decide) (by simp [Try.ntmps45]) ?_
  rw [Try.ntmps45]
  by_cases h2 : v.kind = 2
  · simp (implicitDefEqProofs := false) only [↓reduceIte, go_sem, oread, owrite, Nat.reduceAdd, Nat.reduceSub, Nat.reduceMul, Nat.reduceLT, Nat.reduceLeDiff, Nat.reduceEqDiff, Nat.reduceBEq, Int.reduceLE, Int.reduceLT, Int.reduceEq, Int.reduceNe, Int.reduceAdd, Int.reduceSub, Int.reduceMul, Int.reduceNeg, Int.reduceToNat, Int.reduceNatCast, reduceCtorEq, eq_self, h2]
    refine awp_draw K.mixed (by kernel_rfl) ?_
    simp (implicitDefEqProofs := false) only [↓reduceIte, go_sem, oread, owrite, Nat.reduceAdd, Nat.reduceSub, Nat.reduceMul, Nat.reduceLT, Nat.reduceLeDiff, Nat.reduceEqDiff, Nat.reduceBEq, Int.reduceLE, Int.reduceLT, Int.reduceEq, Int.reduceNe, Int.reduceAdd, Int.reduceSub, Int.reduceMul, Int.reduceNeg, Int.reduceToNat, Int.reduceNatCast, reduceCtorEq, eq_self, wrap_toU]
    refine KCall.ok (fclean_does _ (toU_lt _) _) ?_
    simp (implicitDefEqProofs := false) only [↓reduceIte, go_sem, oread, owrite, Nat.reduceAdd, Nat.reduceSub, Nat.reduceMul, Nat.reduceLT, Nat.reduceLeDiff, Nat.reduceEqDiff, Nat.reduceBEq, Int.reduceLE, Int.reduceLT, Int.reduceEq, Int.reduceNe, Int.reduceAdd, Int.reduceSub, Int.reduceMul, Int.reduceNeg, Int.reduceToNat, Int.reduceNatCast, reduceCtorEq, eq_self, e0, Int.natCast_inj]
    cases hc : decide (toU v.i = cleanN (toU v.i)) with
    | true =>
      simp (implicitDefEqProofs := false) only [↓reduceIte, go_sem, oread, owrite, Nat.reduceAdd, Nat.reduceSub, Nat.reduceMul, Nat.reduceLT, Nat.reduceLeDiff, Nat.reduceEqDiff, Nat.reduceBEq, Int.reduceLE, Int.reduceLT, Int.reduceEq, Int.reduceNe, Int.reduceAdd, Int.reduceSub, Int.reduceMul, Int.reduceNeg, Int.reduceToNat, Int.reduceNatCast, reduceCtorEq, eq_self, hc, e0]
      refine AEnd.ret ?_
      simp (implicitDefEqProofs := false) only [↓reduceIte, go_sem, oread, owrite, Nat.reduceAdd, Nat.reduceSub, Nat.reduceMul, Nat.reduceLT, Nat.reduceLeDiff, Nat.reduceEqDiff, Nat.reduceBEq, Int.reduceLE, Int.reduceLT, Int.reduceEq, Int.reduceNe, Int.reduceAdd, Int.reduceSub, Int.reduceMul, Int.reduceNeg, Int.reduceToNat, Int.reduceNatCast, reduceCtorEq, eq_self, mayV, h2, hc]
    | false =>
      simp (implicitDefEqProofs := false) only [↓reduceIte, go_sem, oread, owrite, Nat.reduceAdd, Nat.reduceSub, Nat.reduceMul, Nat.reduceLT, Nat.reduceLeDiff, Nat.reduceEqDiff, Nat.reduceBEq, Int.reduceLE, Int.reduceLT, Int.reduceEq, Int.reduceNe, Int.reduceAdd, Int.reduceSub, Int.reduceMul, Int.reduceNeg, Int.reduceToNat, Int.reduceNatCast, reduceCtorEq, eq_self, hc, e0]
      refine AEnd.ret ?_
      simp (implicitDefEqProofs := false) only [↓reduceIte, go_sem, oread, owrite, Nat.reduceAdd, Nat.reduceSub, Nat.reduceMul, Nat.reduceLT, Nat.reduceLeDiff, Nat.reduceEqDiff, Nat.reduceBEq, Int.reduceLE, Int.reduceLT, Int.reduceEq, Int.reduceNe, Int.reduceAdd, Int.reduceSub, Int.reduceMul, Int.reduceNeg, Int.reduceToNat, Int.reduceNatCast, reduceCtorEq, eq_self, mayV, h2, hc]
  by_cases h1 : v.kind = 1
  · simp (implicitDefEqProofs := false) only [↓reduceIte, go_sem, oread, owrite, Nat.reduceAdd, Nat.reduceSub, Nat.reduceMul, Nat.reduceLT, Nat.reduceLeDiff, Nat.reduceEqDiff, Nat.reduceBEq, Int.reduceLE, Int.reduceLT, Int.reduceEq, Int.reduceNe, Int.reduceAdd, Int.reduceSub, Int.reduceMul, Int.reduceNeg, Int.reduceToNat, Int.reduceNatCast, reduceCtorEq, eq_self, h1, e0]
    refine AEnd.ret ?_
    simp (implicitDefEqProofs := false) only [↓reduceIte, go_sem, oread, owrite, Nat.reduceAdd, Nat.reduceSub, Nat.reduceMul, Nat.reduceLT, Nat.reduceLeDiff, Nat.reduceEqDiff, Nat.reduceBEq, Int.reduceLE, Int.reduceLT, Int.reduceEq, Int.reduceNe, Int.reduceAdd, Int.reduceSub, Int.reduceMul, Int.reduceNeg, Int.reduceToNat, Int.reduceNatCast, reduceCtorEq, eq_self, mayV, h1]
  by_cases h3 : v.kind = 3
  · by_cases hi : v.i = 0
    · simp (implicitDefEqProofs := false) only [↓reduceIte, go_sem, oread, owrite, Nat.reduceAdd, Nat.reduceSub, Nat.reduceMul, Nat.reduceLT, Nat.reduceLeDiff, Nat.reduceEqDiff, Nat.reduceBEq, Int.reduceLE, Int.reduceLT, Int.reduceEq, Int.reduceNe, Int.reduceAdd, Int.reduceSub, Int.reduceMul, Int.reduceNeg, Int.reduceToNat, Int.reduceNatCast, reduceCtorEq, eq_self, h3, hi]
      refine AEnd.ret ?_
      simp (implicitDefEqProofs := false) only [↓reduceIte, go_sem, oread, owrite, Nat.reduceAdd, Nat.reduceSub, Nat.reduceMul, Nat.reduceLT, Nat.reduceLeDiff, Nat.reduceEqDiff, Nat.reduceBEq, Int.reduceLE, Int.reduceLT, Int.reduceEq, Int.reduceNe, Int.reduceAdd, Int.reduceSub, Int.reduceMul, Int.reduceNeg, Int.reduceToNat, Int.reduceNatCast, reduceCtorEq, eq_self, mayV, h3, hi, show ((v.s.size : Int) ≤ 1024) = (v.s.size ≤ 1024) from by simp; omega]
    · simp (implicitDefEqProofs := false) only [↓reduceIte, go_sem, oread, owrite, Nat.reduceAdd, Nat.reduceSub, Nat.reduceMul, Nat.reduceLT, Nat.reduceLeDiff, Nat.reduceEqDiff, Nat.reduceBEq, Int.reduceLE, Int.reduceLT, Int.reduceEq, Int.reduceNe, Int.reduceAdd, Int.reduceSub, Int.reduceMul, Int.reduceNeg, Int.reduceToNat, Int.reduceNatCast, reduceCtorEq, eq_self, h3, hi]
      refine AEnd.ret ?_
      simp (implicitDefEqProofs := false) only [↓reduceIte, go_sem, oread, owrite, Nat.reduceAdd, Nat.reduceSub, Nat.reduceMul, Nat.reduceLT, Nat.reduceLeDiff, Nat.reduceEqDiff, Nat.reduceBEq, Int.reduceLE, Int.reduceLT, Int.reduceEq, Int.reduceNe, Int.reduceAdd, Int.reduceSub, Int.reduceMul, Int.reduceNeg, Int.reduceToNat, Int.reduceNatCast, reduceCtorEq, eq_self, mayV, h3, hi]
  by_cases h0 : v.kind = 0
  · have e1 : sameV v.kind v.i v.s 0 0 ⟨#[]⟩ = (decide (v.i = 0) && decide (v.s.toList = [])) := by
      rw [show sameV v.kind v.i v.s 0 0 ⟨#[]⟩ = decide (v = ⟨0, 0, noS⟩) from sameV_noS v]
      simp only [zero_iff v h0, Bool.decide_and]
    simp (implicitDefEqProofs := false) only [↓reduceIte, go_sem, oread, owrite, Nat.reduceAdd, Nat.reduceSub, Nat.reduceMul, Nat.reduceLT, Nat.reduceLeDiff, Nat.reduceEqDiff, Nat.reduceBEq, Int.reduceLE, Int.reduceLT, Int.reduceEq, Int.reduceNe, Int.reduceAdd, Int.reduceSub, Int.reduceMul, Int.reduceNeg, Int.reduceToNat, Int.reduceNatCast, reduceCtorEq, eq_self, h1, h2, h3, eq_true h0, e1]
    refine AEnd.ret ?_
    simp (implicitDefEqProofs := false) only [↓reduceIte, go_sem, oread, owrite, Nat.reduceAdd, Nat.reduceSub, Nat.reduceMul, Nat.reduceLT, Nat.reduceLeDiff, Nat.reduceEqDiff, Nat.reduceBEq, Int.reduceLE, Int.reduceLT, Int.reduceEq, Int.reduceNe, Int.reduceAdd, Int.reduceSub, Int.reduceMul, Int.reduceNeg, Int.reduceToNat, Int.reduceNatCast, reduceCtorEq, eq_self, mayV, h1, h2, h3, eq_true h0]
  simp (implicitDefEqProofs := false) only [↓reduceIte, go_sem, oread, owrite, Nat.reduceAdd, Nat.reduceSub, Nat.reduceMul, Nat.reduceLT, Nat.reduceLeDiff, Nat.reduceEqDiff, Nat.reduceBEq, Int.reduceLE, Int.reduceLT, Int.reduceEq, Int.reduceNe, Int.reduceAdd, Int.reduceSub, Int.reduceMul, Int.reduceNeg, Int.reduceToNat, Int.reduceNatCast, reduceCtorEq, eq_self, h0, h1, h2, h3]
  refine AEnd.ret ?_
  simp (implicitDefEqProofs := false) only [↓reduceIte, go_sem, oread, owrite, Nat.reduceAdd, Nat.reduceSub, Nat.reduceMul, Nat.reduceLT, Nat.reduceLeDiff, Nat.reduceEqDiff, Nat.reduceBEq, Int.reduceLE, Int.reduceLT, Int.reduceEq, Int.reduceNe, Int.reduceAdd, Int.reduceSub, Int.reduceMul, Int.reduceNeg, Int.reduceToNat, Int.reduceNatCast, reduceCtorEq, eq_self, mayV, h0, h1, h2, h3]
end Go.Proofs.Ytkapgooedfompaa
namespace Go.Proofs.Ytkapgooedfompaa
open Go.Proofs.YtkapgooedfompaaAw Go.RowKit
set_option linter.unusedVariables false
set_option linter.unusedSimpArgs false
def idxP {α : Type} (p : α → Bool) (l : List α) : Int := if l.any p then (l.findIdx p : Nat) else -1
theorem idxP_hit {α : Type} {p : α → Bool} {l : List α} {k : Nat} (h : ∀ i (hi : i < k) (hl : i < l.length), p l[i] = false) (hk : k < l.length) (hp : p l[k] = true) : idxP p l = k := by
  unfold idxP
  rw [if_pos (List.any_eq_true.2 ⟨l[k], List.getElem_mem hk, hp⟩)]
  congr 1
  exact (List.findIdx_eq hk).2 ⟨hp, fun j hj => h j hj (by omega)⟩
theorem any_none {α : Type} {p : α → Bool} {l : List α} (h : ∀ i (hi : i < l.length), p l[i] = false) : l.any p = false := by
  rw [List.any_eq_false]
  intro x hx
  obtain ⟨i, hi, rfl⟩ := List.mem_iff_getElem.1 hx
  simp [h i hi]
theorem any_hit {α : Type} {p : α → Bool} {l : List α} {k : Nat} (hk : k < l.length) (h : p l[k] = true) : l.any p = true := List.any_eq_true.2 ⟨l[k], List.getElem_mem hk, h⟩
theorem idxP_none {α : Type} {p : α → Bool} {l : List α} (h : ∀ i (hi : i < l.length), p l[i] = false) : idxP p l = -1 := by
  unfold idxP
  rw [any_none h]
  rfl
theorem idxP_pos {α : Type} (p : α → Bool) (l : List α) : (0 ≤ idxP p l) = (l.any p = true) := by
  unfold idxP
  cases h : l.any p with
  | true => simp
  | false => simp
set_option maxRecDepth 10000 in
set_option maxHeartbeats 1000000 in
theorem indexV_does (l : List Val) (p : Val → Bool) (g : FuncId) (caps : List AV) (n1 : Bool) (H : AHeap) (hl : l.length ≤ 9223372036854775807) (hf : ∀ v ∈ l, Does Try.prog g ([v.av] ++ caps) H (.ok (bA (p v))) H) :
    Does Try.prog 20 [.d (.list n1 (l.map Val.enc)), .fn g caps] H (.ok (iA (idxP p l))) H := by
  refine Does.of_awp (hint := (fun _ => false)) Try.func20 (by kernel_rfl) rfl [4] (by kernel_rfl) (by decide) (by simp [Try.ntmps20]) ?_
  rw [Try.ntmps20]
  simp (implicitDefEqProofs := false) only [↓reduceIte, go_sem, oread, owrite, Nat.reduceAdd, Nat.reduceSub, Nat.reduceMul, Nat.reduceLT, Nat.reduceLeDiff, Nat.reduceEqDiff, Nat.reduceBEq, Int.reduceLE, Int.reduceLT, Int.reduceEq, Int.reduceNe, Int.reduceAdd, Int.reduceSub, Int.reduceMul, Int.reduceNeg, Int.reduceToNat, Int.reduceNatCast, reduceCtorEq, eq_self]
  refine awp_for (fun k s H' => H' = H ∧ (∀ i (hi : i < k) (hl : i < l.length), p l[i] = false) ∧ s 0 = .d (.list n1 (l.map Val.enc)) ∧ s 1 = .fn g caps ∧ s 7 = iA l.length ∧ s 8 = iA k) l.length hl (Weak.refl _ _) ?_ ?_ ?_
  · refine ⟨rfl, fun i hi => by omega, ?_⟩
    simp (implicitDefEqProofs := false) only [↓reduceIte, go_sem, oread, owrite, Nat.reduceAdd, Nat.reduceSub, Nat.reduceMul, Nat.reduceLT, Nat.reduceLeDiff, Nat.reduceEqDiff, Nat.reduceBEq, Int.reduceLE, Int.reduceLT, Int.reduceEq, Int.reduceNe, Int.reduceAdd, Int.reduceSub, Int.reduceMul, Int.reduceNeg, Int.reduceToNat, Int.reduceNatCast, reduceCtorEq, eq_self]
  · rintro k s H' hk hw ⟨rfl, hp, h0, h1, h7, h8⟩
    have hx := List.getElem?_eq_getElem hk
    have hit : p l[k] = true → idxP p l = k := fun h => idxP_hit hp hk h
    have hpp : p l[k] = false → ∀ i (hi : i < k + 1) (hl : i < l.length), p l[i] = false := fun h0 i hi hl' => by
      rcases Nat.lt_or_ge i k with h | h
      · exact hp i h hl'
      · obtain rfl : i = k := by omega
        exact h0
    have hfk := hf l[k] (List.getElem_mem hk)
    generalize l[k] = v at hx hit hpp hfk
    simp (implicitDefEqProofs := false) only [↓reduceIte, go_sem, oread, owrite, Nat.reduceAdd, Nat.reduceSub, Nat.reduceMul, Nat.reduceLT, Nat.reduceLeDiff, Nat.reduceEqDiff, Nat.reduceBEq, Int.reduceLE, Int.reduceLT, Int.reduceEq, Int.reduceNe, Int.reduceAdd, Int.reduceSub, Int.reduceMul, Int.reduceNeg, Int.reduceToNat, Int.reduceNatCast, reduceCtorEq, eq_self, h0, h1, h7, h8, hk, hx, Val.enc]
    refine KCall.ok hfk ?_
    cases hv : p v with
    | true =>
      simp (implicitDefEqProofs := false) only [↓reduceIte, go_sem, oread, owrite, Nat.reduceAdd, Nat.reduceSub, Nat.reduceMul, Nat.reduceLT, Nat.reduceLeDiff, Nat.reduceEqDiff, Nat.reduceBEq, Int.reduceLE, Int.reduceLT, Int.reduceEq, Int.reduceNe, Int.reduceAdd, Int.reduceSub, Int.reduceMul, Int.reduceNeg, Int.reduceToNat, Int.reduceNatCast, reduceCtorEq, eq_self]
      refine AEnd.ret0 ?_
      simp (implicitDefEqProofs := false) only [↓reduceIte, go_sem, oread, owrite, Nat.reduceAdd, Nat.reduceSub, Nat.reduceMul, Nat.reduceLT, Nat.reduceLeDiff, Nat.reduceEqDiff, Nat.reduceBEq, Int.reduceLE, Int.reduceLT, Int.reduceEq, Int.reduceNe, Int.reduceAdd, Int.reduceSub, Int.reduceMul, Int.reduceNeg, Int.reduceToNat, Int.reduceNatCast, reduceCtorEq, eq_self, hit hv]
    | false =>
      simp (implicitDefEqProofs := false) only [↓reduceIte, go_sem, oread, owrite, Nat.reduceAdd, Nat.reduceSub, Nat.reduceMul, Nat.reduceLT, Nat.reduceLeDiff, Nat.reduceEqDiff, Nat.reduceBEq, Int.reduceLE, Int.reduceLT, Int.reduceEq, Int.reduceNe, Int.reduceAdd, Int.reduceSub, Int.reduceMul, Int.reduceNeg, Int.reduceToNat, Int.reduceNatCast, reduceCtorEq, eq_self, h8]
      refine Rnd.same ⟨rfl, hpp hv, ?_⟩
      simp (implicitDefEqProofs := false) only [↓reduceIte, go_sem, oread, owrite, Nat.reduceAdd, Nat.reduceSub, Nat.reduceMul, Nat.reduceLT, Nat.reduceLeDiff, Nat.reduceEqDiff, Nat.reduceBEq, Int.reduceLE, Int.reduceLT, Int.reduceEq, Int.reduceNe, Int.reduceAdd, Int.reduceSub, Int.reduceMul, Int.reduceNeg, Int.reduceToNat, Int.reduceNatCast, reduceCtorEq, eq_self, h0, h1, h7, hw]
  · rintro s H' ⟨rfl, hp, h0, h1, h7, h8⟩
    simp (implicitDefEqProofs := false) only [↓reduceIte, go_sem, oread, owrite, Nat.reduceAdd, Nat.reduceSub, Nat.reduceMul, Nat.reduceLT, Nat.reduceLeDiff, Nat.reduceEqDiff, Nat.reduceBEq, Int.reduceLE, Int.reduceLT, Int.reduceEq, Int.reduceNe, Int.reduceAdd, Int.reduceSub, Int.reduceMul, Int.reduceNeg, Int.reduceToNat, Int.reduceNatCast, reduceCtorEq, eq_self, h7, h8]
    refine AEnd.ret0 ?_
    simp (implicitDefEqProofs := false) only [↓reduceIte, go_sem, oread, owrite, Nat.reduceAdd, Nat.reduceSub, Nat.reduceMul, Nat.reduceLT, Nat.reduceLeDiff, Nat.reduceEqDiff, Nat.reduceBEq, Int.reduceLE, Int.reduceLT, Int.reduceEq, Int.reduceNe, Int.reduceAdd, Int.reduceSub, Int.reduceMul, Int.reduceNeg, Int.reduceToNat, Int.reduceNatCast, reduceCtorEq, eq_self, idxP_none fun i hi => hp i hi hi]
set_option maxRecDepth 10000 in
theorem containsV_does (l : List Val) (p : Val → Bool) (g : FuncId) (caps : List AV) (n1 : Bool) (H : AHeap) (hl : l.length ≤ 9223372036854775807) (hf : ∀ v ∈ l, Does Try.prog g ([v.av] ++ caps) H (.ok (bA (p v))) H) :
    Does Try.prog 47 [.d (.list n1 (l.map Val.enc)), .fn g caps] H (.ok (bA (l.any p))) H := by
  refine Does.of_awp (hint := (fun _ => false)) Try.func47 (by kernel_rfl) rfl [4] (by kernel_rfl) (by decide) (by simp [Try.ntmps47]) ?_
  rw [Try.ntmps47]
  simp (implicitDefEqProofs := false) only [↓reduceIte, go_sem, oread, owrite, Nat.reduceAdd, Nat.reduceSub, Nat.reduceMul, Nat.reduceLT, Nat.reduceLeDiff, Nat.reduceEqDiff, Nat.reduceBEq, Int.reduceLE, Int.reduceLT, Int.reduceEq, Int.reduceNe, Int.reduceAdd, Int.reduceSub, Int.reduceMul, Int.reduceNeg, Int.reduceToNat, Int.reduceNatCast, reduceCtorEq, eq_self]
  refine KCall.ok (indexV_does l p g caps n1 H hl hf) ?_
  simp (implicitDefEqProofs := false) only [↓reduceIte, go_sem, oread, owrite, Nat.reduceAdd, Nat.reduceSub, Nat.reduceMul, Nat.reduceLT, Nat.reduceLeDiff, Nat.reduceEqDiff, Nat.reduceBEq, Int.reduceLE, Int.reduceLT, Int.reduceEq, Int.reduceNe, Int.reduceAdd, Int.reduceSub, Int.reduceMul, Int.reduceNeg, Int.reduceToNat, Int.reduceNatCast, reduceCtorEq, eq_self, idxP_pos]
  refine AEnd.ret0 ?_
  simp (implicitDefEqProofs := false) only [↓reduceIte, go_sem, oread, owrite, Nat.reduceAdd, Nat.reduceSub, Nat.reduceMul, Nat.reduceLT, Nat.reduceLeDiff, Nat.reduceEqDiff, Nat.reduceBEq, Int.reduceLE, Int.reduceLT, Int.reduceEq, Int.reduceNe, Int.reduceAdd, Int.reduceSub, Int.reduceMul, Int.reduceNeg, Int.reduceToNat, Int.reduceNatCast, reduceCtorEq, eq_self, Bool.decide_eq_true]
end Go.Proofs.Ytkapgooedfompaa
namespace Go.Proofs.YtkapgooedfompaaAw
open Go.RowKit
set_option linter.unusedVariables false
set_option linter.unusedSimpArgs false
theorem Rel.freeze {H : AHeap} {φ : Phi} {N : Addr → Prop} {w : World} {id k ver : Nat} {e : TypeId} {es : List (List D)} (hR : Rel H φ N w) (ho : H[id]? = some (.arr e k ver es)) :
    ∃ φ' N', Rel (H.set id (.arr e k (ver + 1) [])) φ' N' w ∧ Since H φ N w (H.set id (.arr e k (ver + 1) [])) φ' N' w ∧
      ∀ off len v, RA H φ N w (.sl id ver off len) v → RA (H.set id (.arr e k (ver + 1) [])) φ' N' w (.d (.list false ((es.drop off).take len))) v := by
  have hid : id < H.length := len_of_get ho
  have hobj := hR.obj id _ ho
  cases hobj with
  | arr _ _ _ _ hk hes hbl =>
  let φ' : Phi := fun j => if j = id then none else φ j
  let N' : Addr → Prop := fun a => N a ∨ ∃ B c, φ id = some (B, c) ∧ a.block = B ∧ a.spot = none ∧ a.off < es.length * k
  have hφ : ∀ j, j ≠ id → φ' j = φ j := fun j hj => if_neg hj
  have hφi : φ' id = none := if_pos rfl
  have hS : Since H φ N w (H.set id (.arr e k (ver + 1) [])) φ' N' w := by
    refine ⟨by simp, rfl, rfl, rfl, Nat.le_refl _, fun _ _ _ => rfl, fun j B c hj hp _ => ?_, fun _ h => .inl h, fun j o hj => ?_⟩
    · by_cases hji : j = id
      · subst hji; rw [hφi] at hp; cases hp
      · rw [hφ j hji] at hp
        exact ⟨j, c, by simpa using hj, hp⟩
    · by_cases hji : j = id
      · subst hji
        rw [ho] at hj; cases hj
        refine ⟨.arr e k (ver + 1) [], by simp [hid], rfl, Nat.le_succ _, fun h => ?_, fun kk es' h => by cases h⟩
        simp only [AObj.ver] at h
        omega
      · refine ⟨o, by rw [List.getElem?_set_ne (Ne.symm hji)]; exact hj, rfl, Nat.le_refl _, fun _ => ⟨hφ j hji, Nat.le_refl _⟩, fun kk es' h => ⟨hφ j hji, es', h⟩⟩
  refine ⟨φ', N', ⟨fun j o hj => ?_, fun i j B c c' hi hj hpi hpj => ?_, fun a ha => ?_, fun a j B c ha hj hp => ?_⟩, hS, fun off len v hv => ?_⟩
  · by_cases hji : j = id
    · subst hji
      simp [hid] at hj
      subst hj
      exact .arr e k (ver + 1) [] hk (fun c hc => by simp at hc) (.inl ⟨hφi, rfl⟩)
    · rw [List.getElem?_set_ne (Ne.symm hji)] at hj
      exact (hR.obj j o hj).keep hR hS (hφ j hji) fun _ _ _ => rfl
  · have hi' : i ≠ id := fun h => by subst h; rw [hφi] at hpi; cases hpi
    have hj' : j ≠ id := fun h => by subst h; rw [hφi] at hpj; cases hpj
    rw [hφ i hi'] at hpi
    rw [hφ j hj'] at hpj
    exact hR.inj i j B c c' (by simpa using hi) (by simpa using hj) hpi hpj
  · rcases ha with ha | ⟨B, c, hB, h1, h2, h3⟩
    · exact hR.live a ha
    · rcases hbl with ⟨g0, _⟩ | ⟨B', cap, cur, g1, g2, g3, g4, g5, g6⟩
      · rw [g0] at hB; cases hB
      · rw [g1] at hB; cases hB
        have hlt : a.off < cur.size := by have := Nat.mul_le_mul_right k g3; omega
        refine ⟨cur[a.off], ?_⟩
        simp [World.cell?, h1, g2, h2, hlt]
  · have hj' : j ≠ id := fun h => by subst h; rw [hφi] at hp; cases hp
    rw [hφ j hj'] at hp
    have hj2 : j < H.length := by simpa using hj
    rcases ha with ha | ⟨B0, c0, hB, h1, _⟩
    · exact hR.apart a j B c ha hj2 hp
    · intro hab
      have : B0 = B := h1.symm.trans hab
      subst this
      exact hj' (hR.inj j id B0 c c0 hj2 hid hp hB)
  · cases hv with
    | sl _ _ _ _ A l m' o ho' hv' hp =>
    rw [ho] at ho'; cases ho'
    obtain ⟨rfl, h1, h2⟩ := hp rfl
    simp only [AObj.len] at h1
    by_cases hl0 : l = 0
    · subst hl0
      simp only [List.take_zero]
      exact .d (.nil _ _ (by rcases h2 with ⟨_, _, _, rfl⟩ | ⟨B, c, _, _, rfl, _⟩; exact fun _ => rfl; exact fun h => by cases h))
    rcases h2 with ⟨_, h3, _⟩ | ⟨B, c, h3, h4, rfl, rfl⟩
    · omega
    rcases hbl with ⟨g0, _⟩ | ⟨B', cap, cur, g1, g2, g3, g4, g5, g6⟩
    · rw [g0] at h3; cases h3
    have hφ3 := h3
    obtain ⟨e1, e2⟩ := Prod.mk.inj (Option.some.inj (g1.symm.trans h3))
    subst e1 e2
    have hel : ((es.drop off).take l).length = l := by simp; omega
    have key := RD.list (N := N') (w := w) false ((es.drop off).take l) ⟨B', off * k, none⟩ (cap - off) k (fun i j => cur.getD ((off + i) * k + j) undef) (by rw [hel]; omega)
      (fun e he => hes e (List.mem_of_mem_drop (List.mem_of_mem_take he))) (fun i j hi hj => by
        rw [hel] at hi
        have hlt : (off + i) * k + j < es.length * k := place_lt hj (by omega)
        have hlt2 : (off + i) * k + j < cur.size := by have := Nat.mul_le_mul_right k g3; omega
        have hpos : off * k + (i * k + j) = (off + i) * k + j := by rw [Nat.add_mul]; omega
        rw [add_plain, hpos]
        refine ⟨.inr ⟨B', cap, hφ3, rfl, rfl, hlt⟩, ?_⟩
        simp [World.cell?, g2, Array.getD, hlt2]) (fun i hi j hj => by
        rw [hel] at hi
        simp only [List.getElem_take, List.getElem_drop] at hj ⊢
        obtain ⟨u, hu, hd⟩ := g6 (off + i) (by omega) j hj
        have hget : cur.getD ((off + i) * k + j) undef = u := by
          rw [Array.getD_eq_getD_getElem?, hu]; rfl
        simp only [hget]
        exact hd.since hR hS)
    rw [hel] at key
    exact .d key
/-- What is handed on never changes again: its owner has an empty array of a later version. -/
theorem Does.freeze {P : Program} {f : FuncId} (pre : List AV) {post : List AV} {id k ver off len : Nat} {e : TypeId} {es : List (List D)} {H H' : AHeap} {res : ARes} (ho : H[id]? = some (.arr e k ver es))
    (h : Does P f (pre ++ .d (.list false ((es.drop off).take len)) :: post) (H.set id (.arr e k (ver + 1) [])) res H') : Does P f (pre ++ .sl id ver off len :: post) H res H' := by
  intro φ N w vals hR hA
  obtain ⟨φ1, N1, hR1, hS1, hv⟩ := hR.freeze ho
  have hA1 : RAs (H.set id (.arr e k (ver + 1) [])) φ1 N1 w (pre ++ .d (.list false ((es.drop off).take len)) :: post) vals := by
    refine ⟨by rw [← hA.1]; simp, fun i h1 h2 => ?_⟩
    have h3 := hA.2 i (by simpa using h1) h2
    by_cases hi : i = pre.length
    · subst hi
      simp only [List.getElem_append_right (Nat.le_refl _), Nat.sub_self, List.getElem_cons_zero] at h3 ⊢
      exact hv off len _ h3
    · rcases Nat.lt_or_ge i pre.length with hlt | hge
      · rw [List.getElem_append_left hlt] at h3 ⊢
        exact h3.since hR hS1
      · rw [List.getElem_append_right hge] at h3 ⊢
        obtain ⟨j, hj⟩ : ∃ j, i - pre.length = j + 1 := ⟨i - pre.length - 1, by omega⟩
        simp only [hj, List.getElem_cons_succ] at h3 ⊢
        exact h3.since hR hS1
  have h4 := h φ1 N1 w vals hR1 hA1
  have go : ∀ e' w', (∃ φ' N', Rel H' φ' N' w' ∧ Since (H.set id (.arr e k (ver + 1) [])) φ1 N1 w H' φ' N' w' ∧ REnd H' φ' N' w' res e') → ∃ φ' N', Rel H' φ' N' w' ∧ Since H φ N w H' φ' N' w' ∧ REnd H' φ' N' w' res e' := by
    rintro e' w' ⟨φ', N', hR', hS', hE⟩
    exact ⟨φ', N', hR', hS1.trans hS', hE⟩
  rcases h4 with ⟨h5, h6⟩ | ⟨v, w', h5, h6⟩
  · exact .inl ⟨h5, h6.mono go⟩
  · exact .inr ⟨v, w', h5, go _ _ h6⟩
theorem KCall.frz {P : Program} {f : FuncId} (pre : List AV) {post : List AV} {id k ver off len : Nat} {e : TypeId} {es : List (List D)} {H H' : AHeap} {K : AV → AHeap → Prop} {KP : Value → AHeap → Prop} {r : AV} (ho : H[id]? = some (.arr e k ver es))
    (h : Does P f (pre ++ .d (.list false ((es.drop off).take len)) :: post) (H.set id (.arr e k (ver + 1) [])) (.ok r) H') (hk : K r H') : KCall P f (pre ++ .sl id ver off len :: post) H K KP := KCall.ok (Does.freeze pre ho h) hk
end Go.Proofs.YtkapgooedfompaaAw
namespace Go.Proofs.YtkapgooedfompaaAw
open Go.RowKit
set_option linter.unusedVariables false
set_option linter.unusedSimpArgs false
/-- The old objects are still there. -/
def Ext (B H : AHeap) : Prop := ∀ (id : Nat) (o : AObj), B[id]? = some o → H[id]? = some o
theorem Ext.refl (B : AHeap) : Ext B B := fun _ _ h => h
theorem Ext.app (B T : AHeap) : Ext B (B ++ T) := fun id o h => by rw [List.getElem?_append_left (len_of_get h)]; exact h
/-- What does not look at the heap at all. -/
def hfree (hint : Bool) : Op → Bool
  | .move _ | .assign _ | .pick .. | .build .. | .field .. | .index .. | .unOp .. | .convert .. | .extract .. => true
  | .makeFunc (.func _) _ _ => true
  | .buildSlice .. => !hint
  | .binOp op _ _ _ _ => (match op with | .eql | .neq => false | _ => true)
  | _ => false
theorem hfree_eq {P : Program} {s : Nat → AV} {H H2 : AHeap} {hint : Bool} {op : Op} {K : AV → AHeap → Prop} (h : hfree hint op = true) : aop P s H hint op K = aop P s H2 hint op fun r _ => K r H := by
  by_cases hb : ∃ o t x y t', op = .binOp o t x y t'
  · obtain ⟨o, t, x, y, t', rfl⟩ := hb
    cases o <;> first | (unfold aop; simp only [nilCmp, Bool.false_and, Bool.false_eq_true, false_and]; done) | (cases h; done)
  cases op <;> first | rfl | cases h | (exact absurd ⟨_, _, _, _, _, rfl⟩ hb) | skip
  · cases hint
    · unfold aop
      rfl
    · cases h
  · rename_i f _ _
    cases f <;> first | rfl | cases h
theorem oread_ext {B H : AHeap} (hE : Ext B H) {id ver i j n : Nat} {cs : List AV} (h : oread B id ver i j n = some cs) : oread H id ver i j n = some cs := by
  unfold oread at h ⊢
  cases hb : B[id]? with
  | none => rw [hb] at h; cases h
  | some o => rw [hE id o hb]; rw [hb] at h; exact h
theorem aread_ext {B H : AHeap} (hE : Ext B H) {n : Nat} {x : AV} {cs : List AV} (h : aread B n x = some cs) : aread H n x = some cs := by
  cases x with
  | ptr id ver i j => exact oread_ext hE h
  | iptr => exact h
  | _ => cases h
def isLoad : Op → Bool
  | .load .. => true
  | .slice _ _ _ _ none => true
  | _ => false
theorem aslice_ext {B H : AHeap} (hE : Ext B H) {k : Nat} {lo : Option Int} {hi : Nat → Option Int} {x : AV} {K : AV → AHeap → Prop} {r : AV} (h : aslice B k lo hi (fun r' _ => r' = r) x) (hk : K r H) : aslice H k lo hi K x := by
  cases x with
  | d u =>
    cases u with
    | v _ => exact h.elim
    | list nn es =>
      simp only [aslice] at h ⊢
      refine ⟨h.1, ?_⟩
      replace h := h.2
      cases lo with
      | none => exact h
      | some l =>
        cases hq : hi es.length with
        | none => rw [hq] at h; exact h
        | some m => rw [hq] at h; exact ⟨h.1, h.2.1, h.2.2.1, by rw [h.2.2.2]; exact hk⟩
  | sl id ver off len =>
    simp only [aslice] at h ⊢
    cases ho : B[id]? with
    | none => rw [ho] at h; exact h.elim
    | some o =>
      rw [ho] at h
      rw [hE id o ho]
      cases lo with
      | none => exact h.elim
      | some l =>
        cases hq : hi len with
        | none => rw [hq] at h; exact h.elim
        | some m => rw [hq] at h; exact ⟨h.1, h.2.1, h.2.2.1, h.2.2.2.1, h.2.2.2.2.1, by rw [h.2.2.2.2.2]; exact hk⟩
  | _ => exact h.elim
theorem load_ext {P : Program} {s : Nat → AV} {B H : AHeap} {hint : Bool} {op : Op} (hl : isLoad op = true) (hE : Ext B H) {K : AV → AHeap → Prop} {r : AV}
    (h : aop P s B hint op fun r' _ => r' = r) (hk : K r H) : aop P s H hint op K := by
  cases op <;> first | cases hl | skip
  rotate_left
  · rename_i t x lo hi mx
    cases mx with
    | some _ => cases hl
    | none =>
    unfold aop at h ⊢
    simp only at h ⊢
    cases he : SE P t with
    | none =>
      rw [he] at h
      obtain ⟨hu, h⟩ := h
      refine ⟨hu, ?_⟩
      split at h
      · rename_i c hc
        split at h
        · rename_i l m hl hm
          first
            | exact ⟨h.1, h.2.1, h.2.2.1, by rw [h.2.2.2]; exact hk⟩
            | (rw [hl, hm]; exact ⟨h.1, h.2.1, h.2.2.1, by rw [h.2.2.2]; exact hk⟩)
        · exact h.elim
      · exact h.elim
    | some e =>
      rw [he] at h
      simp only at h ⊢
      cases hi2 : TI P e with
      | none => rw [hi2] at h; exact h
      | some z =>
        rw [hi2] at h
        obtain ⟨z, k, b⟩ := z
        exact aslice_ext hE h hk
  rename_i t x
  unfold aop at h ⊢
  simp only at h ⊢
  cases hg : agB P t with
  | none => rw [hg] at h; exact h
  | some b =>
    rw [hg] at h
    cases b with
    | true =>
      simp only at h ⊢
      split at h
      · split at h
        · rename_i cs hr
          rw [aread_ext hE hr]
          subst h
          exact hk
        · exact h.elim
      · exact h.elim
    | false =>
      simp only at h ⊢
      split at h
      · rename_i c hr
        rw [aread_ext hE hr]
        subst h
        exact hk
      · exact h.elim
/-- May float: the heap's changes do not concern it. -/
def floats (hint : Nat → Bool) (first : Bool) (o : Oper) : Bool := hfree (match o.dst with | some d => hint d | none => false) o.op || (first && isLoad o.op)
section
variable (P : Program) (hint : Nat → Bool) (n : Nat) (ops : Array Oper)
def StepT (H : AHeap) (s : Nat → AV) (o : Oper) (r : AV) (H' : AHeap) : Prop := match o.guard with
  | none => ∀ K KP, K r H' → astep P hint s H o K KP
  | some (j, want) => ∃ b, ayield ops s n j want = some b ∧ if b = true then ∀ K KP, K r H' → astep P hint s H o K KP else r = .tup [] ∧ H' = H
end
section
variable {P : Program} {hint : Nat → Bool} {n : Nat} {ops : Array Oper} {Q : Post}
theorem StepT.op {H H' : AHeap} {s : Nat → AV} {o : Oper} {r : AV} (h : StepT P hint n ops H s o r H') {K : (Nat → AV) → AHeap → Prop} (hk : K (aput n s o.dst r) H') : awpOp P hint n ops Q o K s H := by
  unfold StepT at h
  unfold awpOp
  split at h
  · rename_i hg
    simp only [hg]
    exact h (fun r H' => K (aput n s o.dst r) H') _ hk
  · rename_i j want hg
    obtain ⟨b, hb, h⟩ := h
    simp only [hg, hb]
    split at h
    · rw [if_pos (by assumption)]; exact h (fun r H' => K (aput n s o.dst r) H') _ hk
    · rw [if_neg (by assumption)]; rw [h.1, h.2] at hk; exact hk
theorem StepT.congr {H H' : AHeap} {s s' : Nat → AV} {o : Oper} {r : AV} (h : StepT P hint n ops H s o r H') (h1 : ∀ t ∈ opTmps o, s t = s' t) (h2 : ∀ j w, o.guard = some (j, w) → ∀ d, dstAt ops j = some d → s d = s' d) : StepT P hint n ops H s' o r H' := by
  unfold StepT at h ⊢
  split at h
  · rename_i hg
    try simp only [hg]
    intro K KP hk
    rw [← astep_congr h1]
    exact h K KP hk
  · rename_i j want hg
    try simp only [hg]
    obtain ⟨b, hb, h⟩ := h
    refine ⟨b, ?_, ?_⟩
    · rw [← hb]
      unfold ayield
      have := h2 j want hg
      unfold dstAt at this
      cases hd : (ops[j]?).bind (·.dst) with
      | none => rfl
      | some d => simp only [this d hd]
    · split at h
      · rw [if_pos (by assumption)]
        intro K KP hk
        rw [← astep_congr h1]
        exact h K KP hk
      · rw [if_neg (by assumption)]; exact h
theorem awpAny_mix (hc : PureOk ops) (m : Nat) (hm : m ≤ ops.size) (htl : ∀ i o, ops[i]? = some o → (i = m → ∀ j, j < m → reachB ops 12 i j = true) ∧ (m < i → bindsOn o (i - 1) = true)) (s : Nat → AV) (rs : Nat → AV) (hp : Nat → AHeap) (ch : Nat → Bool)
    (hch : ∀ c c', c < c' → c' < m → ch c = true → ch c' = true → reachB ops 12 c' c = true) (hfr : ∀ i, i < m → ch i = false → hp (i + 1) = hp i)
    (hst : ∀ i o, i < m → ops[i]? = some o → ch i = true → StepT P hint n ops (hp i) (stAt n ops s rs i) o (rs i) (hp (i + 1)))
    (hsf : ∀ i o, i < m → ops[i]? = some o → ch i = false → ∀ j, j ≤ m → (∀ c, c < j → ch c = true → reachB ops 12 c i = false) → StepT P hint n ops (hp j) (stAt n ops s rs i) o (rs i) (hp j))
    (hQ : awpList P hint n ops Q (ops.toList.drop m) (stAt n ops s rs m) (hp m)) :
    ∀ (fuel : Nat) (listed : Array Bool) (s' : Nat → AV) (H : AHeap), listed.size = ops.size → (List.range ops.size).countP (fun j => !listed.getD j true) ≤ fuel →
      (∀ t j, dstAt ops j = some t → s' t = if listed.getD j false = true then (if t < n then rs j else .top) else s t) → (∀ t, (∀ j, dstAt ops j ≠ some t) → s' t = s t) →
      (∀ j oj i, ops[j]? = some oj → listed.getD j false = true → bindsOn oj i = true → listed.getD i false = true) → (∀ i, m ≤ i → i < ops.size → listed.getD i false = false) →
      (∃ q, q ≤ m ∧ H = hp q ∧ ∀ c, c < m → ch c = true → (listed.getD c false = true ↔ c < q)) → awpAny P hint n ops Q fuel listed s' H := by
  have hsame : ∀ d q, q + d ≤ m → (∀ c, c < m → ch c = true → (c < q ↔ c < q + d)) → hp (q + d) = hp q := by
    intro d
    induction d with
    | zero => intros; rfl
    | succ d ihd =>
      intro q hq hcc
      have h1 : ch (q + d) = false := by
        cases h : ch (q + d) with
        | false => rfl
        | true => have := (hcc (q + d) (by omega) h).2 (by omega); omega
      rw [← Nat.add_assoc, hfr (q + d) (by omega) h1]
      refine ihd q (by omega) fun c hcm hct => ⟨fun h => by omega, fun h => (hcc c hcm hct).2 (by omega)⟩
  have hsame2 : ∀ q i, q ≤ m → i ≤ m → (∀ c, c < m → ch c = true → (c < q ↔ c < i)) → hp q = hp i := by
    intro q i hq hi hcc
    rcases Nat.le_total q i with h | h
    · obtain ⟨d, rfl⟩ := Nat.exists_eq_add_of_le h
      exact (hsame d q hi hcc).symm
    · obtain ⟨d, rfl⟩ := Nat.exists_eq_add_of_le h
      exact hsame d i hq fun c hcm hct => (hcc c hcm hct).symm
  have st_no : ∀ k t, (∀ j, j < k → dstAt ops j ≠ some t) → stAt n ops s rs k t = s t := by
    intro k t
    induction k with
    | zero => intro _; rfl
    | succ k ih =>
      intro h
      simp only [stAt]
      cases hd : dstAt ops k with
      | none => exact ih fun j hj => h j (by omega)
      | some d =>
        simp only [aput]
        have : t ≠ d := fun e => h k (by omega) (by rw [hd, e])
        rw [if_neg this]
        exact ih fun j hj => h j (by omega)
  have st_dst : ∀ k t j, dstAt ops j = some t → j < k → stAt n ops s rs k t = if t < n then rs j else .top := by
    intro k t j hj
    induction k with
    | zero => intro h; omega
    | succ k ih =>
      intro h
      simp only [stAt]
      by_cases e : j = k
      · subst e
        rw [hj]
        simp only [aput, if_pos]
      · have := ih (by omega)
        cases hd : dstAt ops k with
        | none => exact this
        | some d =>
          simp only [aput]
          have hne : t ≠ d := fun e' => e (hc.once j k t hj (by rw [hd, e']))
          rw [if_neg hne]
          exact this
  have bind_of : ∀ (listed : Array Bool) (o : Oper) (j : Nat), (o.after.all fun e => !Region.binds .any e || listed.getD e.on false) = true → bindsOn o j = true → listed.getD j false = true := by
    intro listed o j h1 h2
    unfold bindsOn at h2
    rw [List.any_eq_true] at h2
    obtain ⟨e, he, h2⟩ := h2
    rw [Array.all_eq_true_iff_forall_mem] at h1
    have := h1 e (Array.mem_toList_iff.1 he)
    simp only [Bool.and_eq_true, beq_iff_eq] at h2
    simpa [h2.1, h2.2] using this
  have fin : ∀ (listed : Array Bool) (s' : Nat → AV), (∀ i, i < m → listed.getD i true = true) → (∀ i, m ≤ i → i < ops.size → listed.getD i false = false) → listed.size = ops.size →
      (∀ t j, dstAt ops j = some t → s' t = if listed.getD j false = true then (if t < n then rs j else .top) else s t) → (∀ t, (∀ j, dstAt ops j ≠ some t) → s' t = s t) → s' = stAt n ops s rs m := by
    intro listed s' hall hno hsz h1 h2
    funext t
    by_cases hd : ∃ j, dstAt ops j = some t
    · obtain ⟨j, hj⟩ := hd
      have hjl := dstAt_lt hj
      rcases Nat.lt_or_ge j m with hjm | hjm
      · have : listed.getD j false = true := by
          have := hall j hjm
          simpa [Array.getD, show j < listed.size by omega] using this
        rw [h1 t j hj, if_pos this, st_dst _ t j hj hjm]
      · rw [h1 t j hj, if_neg (by simp [hno j hjm hjl]), st_no m t fun j' hj' hd' => by
          have := hc.once j' j t hd' hj
          omega]
    · have hd' : ∀ j, dstAt ops j ≠ some t := fun j hj => hd ⟨j, hj⟩
      rw [h2 t hd', st_no _ t fun j _ => hd' j]
  intro fuel
  induction fuel with
  | zero =>
    intro listed s' H hsz hcnt h1 h2 hcl hno hq
    have hall : ∀ i, i < ops.size → listed.getD i true = true := by
      intro i hi
      have h0 : (List.range ops.size).countP (fun j => !listed.getD j true) = 0 := by omega
      rw [List.countP_eq_zero] at h0
      simpa using h0 i (List.mem_range.2 hi)
    have hs' := fin listed s' (fun i hi => hall i (by omega)) hno hsz h1 h2
    have hH : H = hp m := by
      obtain ⟨q, hqm, rfl, hql⟩ := hq
      refine hsame2 q m hqm (Nat.le_refl _) fun c hcm hct => ⟨fun _ => hcm, fun _ => (hql c hcm hct).1 ?_⟩
      have := hall c (by omega)
      simpa [Array.getD, show c < listed.size by omega] using this
    subst hs'
    subst hH
    exact awpAny_chain hc (fun i o ho hi => (htl i o ho).2 hi) hsz m (Nat.le_refl _) hm (fun i hi => hall i (by omega)) (fun i hi hi2 => hno i hi hi2) hQ (by
      rcases Nat.lt_or_ge m ops.size with h | h
      · have e1 := hall m h
        have e2 := hno m (Nat.le_refl _) h
        simp [Array.getD, show m < listed.size by omega] at e1 e2
        rw [e1] at e2
        cases e2
      · omega)
  | succ fuel ih =>
    intro listed s' H hsz hcnt h1 h2 hcl hno hq
    by_cases hpre : ∀ i, i < m → listed.getD i true = true
    · have hs' := fin listed s' hpre hno hsz h1 h2
      have hH : H = hp m := by
        obtain ⟨q, hqm, rfl, hql⟩ := hq
        refine hsame2 q m hqm (Nat.le_refl _) fun c hcm hct => ⟨fun _ => hcm, fun _ => (hql c hcm hct).1 ?_⟩
        have := hpre c hcm
        simpa [Array.getD, show c < listed.size by omega] using this
      subst hs'
      subst hH
      refine awpAny_chain hc (fun i o ho hi => (htl i o ho).2 hi) hsz m (Nat.le_refl _) hm hpre hno hQ ?_
      have hsub : (List.range ops.size).countP (fun j => decide (m ≤ j)) ≤ (List.range ops.size).countP (fun j => !listed.getD j true) := by
        refine List.countP_mono_left fun j hj hmj => ?_
        have hj := List.mem_range.1 hj
        have := hno j (by simpa using hmj) hj
        simp [Array.getD, show j < listed.size by omega] at this ⊢
        exact this
      have hcm : ∀ N, m ≤ N → (List.range N).countP (fun j => decide (m ≤ j)) = N - m := by
        intro N hN
        induction N with
        | zero => simp
        | succ N ihN =>
          rw [List.range_succ, List.countP_append, List.countP_singleton]
          by_cases e : m ≤ N
          · rw [ihN e]; simp [e]; omega
          · have e' : m = N + 1 := by omega
            have : (List.range N).countP (fun j => decide (m ≤ j)) = 0 := by
              rw [List.countP_eq_zero]
              intro j hj
              have := List.mem_range.1 hj
              simp; omega
            rw [this]; simp [e]; omega
      rw [hcm _ hm] at hsub
      omega
    have hex : ∃ i, i < m ∧ listed.getD i true = false ∧ ∀ j, j < i → listed.getD j true = true := by
      have : ∃ i, i < m ∧ listed.getD i true = false := by
        rcases Classical.not_forall.1 hpre with ⟨i, hi⟩
        rcases Classical.not_imp.1 hi with ⟨h1, h2⟩
        exact ⟨i, h1, by simpa using h2⟩
      obtain ⟨i, hi⟩ := this
      induction i using Nat.strongRecOn with
      | _ i ihi =>
        by_cases hj : ∃ j, j < i ∧ listed.getD j true = false
        · obtain ⟨j, hj1, hj2⟩ := hj
          exact ihi j hj1 ⟨by omega, hj2⟩
        · refine ⟨i, hi.1, hi.2, fun j hji => ?_⟩
          cases hq : listed.getD j true with
          | true => rfl
          | false => exact absurd ⟨j, hji, hq⟩ hj
    obtain ⟨i0, hi0, hu0, hb0⟩ := hex
    refine ⟨fun hr => ?_, fun i hi => ?_⟩
    · exfalso
      have hlt0 : i0 < ops.size := by omega
      have hget : ops[i0]? = some ops[i0] := by simp [hlt0]
      have : i0 ∈ Region.ready .any ops listed := by
        unfold Region.ready
        rw [List.mem_filter]
        refine ⟨List.mem_range.2 hlt0, ?_⟩
        simp only [hu0, hget, Bool.not_false, Bool.true_and, Option.map_some, Option.getD_some]
        rw [Array.all_eq_true_iff_forall_mem]
        intro e he
        cases hbe : Region.binds .any e
        · simp
        have hlt := hc.down i0 _ hget e he hbe
        have := hb0 e.on hlt
        have : listed.getD e.on false = true := by simpa [Array.getD, show e.on < listed.size by omega] using this
        simp [this]
      rw [hr] at this
      simp at this
    · unfold Region.ready at hi
      rw [List.mem_filter] at hi
      obtain ⟨hi, hrd⟩ := hi
      have hi := List.mem_range.1 hi
      have hget : ops[i]? = some ops[i] := by simp [hi]
      simp only [hget, Option.map_some, Option.getD_some, Bool.and_eq_true, Bool.not_eq_true'] at hrd
      obtain ⟨hun, haft⟩ := hrd
      simp only [hget]
      have hdst : dstAt ops i = (ops[i]).dst := by simp [dstAt, hget]
      have hun' : listed.getD i false = false := by simpa [Array.getD, show i < listed.size by omega] using hun
      have him : i < m := by
        rcases Nat.lt_or_ge i m with h | h
        · exact h
        · exfalso
          have hu0' : listed.getD i0 false = false := by simpa [Array.getD, show i0 < listed.size by omega] using hu0
          rcases Nat.lt_or_ge m i with h2 | h2
          · have := bind_of listed ops[i] (i - 1) haft ((htl i _ hget).2 h2)
            rw [hno (i - 1) (by omega) (by omega)] at this
            cases this
          · have him : i = m := by omega
            have := reachB_listed hcl 12 i _ hget (fun j hj => bind_of listed ops[i] j haft hj) i0 ((htl i _ hget).1 him i0 hi0)
            rw [this] at hu0'
            cases hu0'
      have agree : ∀ t j, dstAt ops j = some t → bindsOn ops[i] j = true → stAt n ops s rs i t = s' t := by
        intro t j hj hb
        have hl := bind_of listed ops[i] j haft hb
        have hlt : j < i := by
          unfold bindsOn at hb
          rw [List.any_eq_true] at hb
          obtain ⟨e, he, hb⟩ := hb
          simp only [Bool.and_eq_true, beq_iff_eq] at hb
          have := hc.down i _ hget e (Array.mem_toList_iff.1 he) hb.1
          omega
        rw [st_dst i t j hj hlt, h1 t j hj, if_pos hl]
      have hrd : ∀ t ∈ opTmps ops[i], stAt n ops s rs i t = s' t := by
        intro t ht
        by_cases hd : ∃ j, dstAt ops j = some t
        · obtain ⟨j, hj⟩ := hd
          rcases hc.reads i _ hget t ht j hj with hb | ⟨oj, hoj, hb⟩
          · exact agree t j hj hb
          · have hnl : listed.getD j false = false := by
              cases hq : listed.getD j false with
              | false => rfl
              | true => rw [hcl j oj i hoj hq hb] at hun'; cases hun'
            have hlt : i < j := by
              unfold bindsOn at hb
              rw [List.any_eq_true] at hb
              obtain ⟨e, he, hb⟩ := hb
              simp only [Bool.and_eq_true, beq_iff_eq] at hb
              have := hc.down j _ hoj e (Array.mem_toList_iff.1 he) hb.1
              omega
            rw [h1 t j hj, if_neg (by simp [hnl]), st_no i t fun j' hj' hd' => by
              have := hc.once j' j t hd' hj
              omega]
        · have hd' : ∀ j, dstAt ops j ≠ some t := fun j hj => hd ⟨j, hj⟩
          rw [st_no i t fun j _ => hd' j, h2 t hd']
      have hgd : ∀ j w, (ops[i]).guard = some (j, w) → ∀ d, dstAt ops j = some d → stAt n ops s rs i d = s' d := fun j w hg d hd => agree d j hd (hc.guard i _ hget j w hg)
      have hset : ∀ j b, (listed.setIfInBounds i true).getD j b = if j = i then true else listed.getD j b := by
        intro j b
        simp only [Array.getD_eq_getD_getElem?, Array.getElem?_setIfInBounds]
        by_cases e : i = j
        · subst e; simp [hsz, hi]
        · rw [if_neg e, if_neg (Ne.symm e)]
      obtain ⟨q, hqm, rfl, hql⟩ := hq
      have go : ∀ H2, (∃ q, q ≤ m ∧ H2 = hp q ∧ ∀ c, c < m → ch c = true → ((listed.setIfInBounds i true).getD c false = true ↔ c < q)) → awpAny P hint n ops Q fuel (listed.setIfInBounds i true) (aput n s' (ops[i]).dst (rs i)) H2 := by
        intro H2 hq2
        refine ih _ _ _ (by simpa using hsz) ?_ ?_ ?_ ?_ ?_ hq2
        · have := countP_lt (p := fun j => !(listed.setIfInBounds i true).getD j true) (q := fun j => !listed.getD j true) (i := i) (fun j hj => by
            simp only [hset] at hj ⊢
            by_cases e : j = i
            · simp [e] at hj
            · simpa [e] using hj) (by simp [hset]) (by simp [hun]) (List.range ops.size) (List.mem_range.2 hi)
          omega
        · intro t j hj
          rw [hset]
          by_cases e : j = i
          · subst e
            rw [hdst] at hj
            rw [if_pos rfl, if_pos rfl, hj]
            simp only [aput, if_pos]
          · rw [if_neg e]
            cases hd : (ops[i]).dst with
            | none => exact h1 t j hj
            | some d =>
              simp only [aput]
              have : t ≠ d := fun e' => e (hc.once j i t hj (by rw [hdst, hd, e']))
              rw [if_neg this]
              exact h1 t j hj
        · intro t ht
          cases hd : (ops[i]).dst with
          | none => exact h2 t ht
          | some d =>
            simp only [aput]
            have : t ≠ d := fun e' => ht i (by rw [hdst, hd, e'])
            rw [if_neg this]
            exact h2 t ht
        · intro j oj i' hoj hlj hb
          rw [hset] at hlj ⊢
          by_cases e' : i' = i
          · rw [if_pos e']
          · rw [if_neg e']
            by_cases e : j = i
            · subst e
              rw [hget] at hoj
              cases hoj
              exact bind_of listed _ i' haft hb
            · rw [if_neg e] at hlj
              exact hcl j oj i' hoj hlj hb
        · intro j hj hj2
          rw [hset, if_neg (by omega)]
          exact hno j hj hj2
      cases hci : ch i with
      | false =>
        have hnr : ∀ c, c < q → ch c = true → reachB ops 12 c i = false := fun c hcq hct => by
          cases hr : reachB ops 12 c i with
          | false => rfl
          | true =>
            exfalso
            have hgc : ops[c]? = some ops[c] := by simp [show c < ops.size by omega]
            have hl := (hql c (by omega) hct).2 hcq
            have := reachB_listed hcl 12 c _ hgc (fun j hj => hcl c _ j hgc hl hj) i hr
            rw [hun'] at this
            cases this
        refine StepT.op ((hsf i _ him hget hci q hqm hnr).congr hrd hgd) (go _ ⟨q, hqm, rfl, fun c hcm hct => ?_⟩)
        rw [hset, if_neg (by intro e; rw [e, hci] at hct; cases hct)]
        exact hql c hcm hct
      | true =>
        have hbef : ∀ c, c < m → ch c = true → (listed.getD c false = true ↔ c < i) := by
          intro c hcm hct
          refine ⟨fun hl => ?_, fun hlt => ?_⟩
          · rcases Nat.lt_trichotomy c i with h | h | h
            · exact h
            · subst h; rw [hun'] at hl; cases hl
            · exfalso
              have hcs : c < ops.size := by omega
              have hgc : ops[c]? = some ops[c] := by simp [hcs]
              have := reachB_listed hcl 12 c _ hgc (fun j hj => hcl c _ j hgc hl hj) i (hch i c h hcm hci hct)
              rw [hun'] at this
              cases this
          · exact reachB_listed hcl 12 i _ hget (fun j hj => bind_of listed ops[i] j haft hj) c (hch c i hlt him hct hci)
        have hqi : hp q = hp i := hsame2 q i hqm (by omega) fun c hcm hct => (hql c hcm hct).symm.trans (hbef c hcm hct)
        rw [hqi]
        refine StepT.op ((hst i _ him hget hci).congr hrd hgd) (go _ ⟨i + 1, by omega, rfl, fun c hcm hct => ?_⟩)
        rw [hset]
        by_cases e : c = i
        · subst e; simp
        · rw [if_neg e]
          refine (hbef c hcm hct).trans ⟨fun h => by omega, fun h => by omega⟩
end
section
variable (P : Program) (hint : Nat → Bool) (n : Nat) (ops : Array Oper)
/-- The region in the order of its text; where a mark says so, an operation may change the heap, but for the old objects. -/
def awpMix (B : AHeap) (Q : Post) : List Bool → List Oper → (Nat → AV) → AHeap → Prop
  | [], l, s, H => awpList P hint n ops Q l s H
  | _ :: _, [], s, H => awpList P hint n ops Q [] s H
  | true :: bs, o :: rest, s, H => awpOp P hint n ops (fun _ _ _ => False) o (fun s' H' => Ext B H' ∧ awpMix B Q bs rest s' H') s H
  | false :: bs, o :: rest, s, H => awpOp P hint n ops (fun _ _ _ => False) o (fun s' H' => H' = H ∧ awpMix B Q bs rest s' H') s H
end
section
variable {P : Program} {hint : Nat → Bool} {n : Nat} {ops : Array Oper} {Q : Post}
theorem step_of {o : Oper} (hdt : detOp o.op = true) {s : Nat → AV} {H : AHeap} {K : (Nat → AV) → AHeap → Prop} (h : awpOp P hint n ops (fun _ _ _ => False) o K s H) : ∃ r H', StepT P hint n ops H s o r H' ∧ K (aput n s o.dst r) H' := by
  unfold awpOp at h
  split at h
  · rename_i hg
    obtain ⟨r, H', hr, hdet⟩ := astep_det hdt h
    exact ⟨r, H', by unfold StepT; simp only [hg]; exact fun K KP hk => hdet K KP hk, hr⟩
  · rename_i j want hg
    split at h
    · rename_i b hb
      split at h
      · rename_i hbw
        obtain ⟨r, H', hr, hdet⟩ := astep_det hdt h
        exact ⟨r, H', by unfold StepT; simp only [hg]; exact ⟨b, hb, by rw [if_pos hbw]; exact fun K KP hk => hdet K KP hk⟩, hr⟩
      · rename_i hbw
        exact ⟨.tup [], H, by unfold StepT; simp only [hg]; exact ⟨b, hb, by simp [hbw]⟩, h⟩
    · exact h.elim
theorem awpMix_steps {B : AHeap} (hdt : ∀ (i : Nat) (o : Oper), ops[i]? = some o → detOp o.op = true) (s0 : Nat → AV) : ∀ (bs : List Bool) (k : Nat) (rs0 : Nat → AV) (hp0 : Nat → AHeap), k + bs.length ≤ ops.size → awpMix P hint n ops B Q bs (ops.toList.drop k) (stAt n ops s0 rs0 k) (hp0 k) →
    ∃ (rs : Nat → AV) (hp : Nat → AHeap), (∀ i, i < k → rs i = rs0 i) ∧ (∀ i, i ≤ k → hp i = hp0 i) ∧
      (∀ i o, k ≤ i → i < k + bs.length → ops[i]? = some o → (bs[i - k]? = some true → StepT P hint n ops (hp i) (stAt n ops s0 rs i) o (rs i) (hp (i + 1)) ∧ Ext B (hp (i + 1))) ∧
        (bs[i - k]? = some false → StepT P hint n ops (hp i) (stAt n ops s0 rs i) o (rs i) (hp i) ∧ hp (i + 1) = hp i)) ∧
      awpList P hint n ops Q (ops.toList.drop (k + bs.length)) (stAt n ops s0 rs (k + bs.length)) (hp (k + bs.length))
  | [], k, rs0, hp0, hk, h => ⟨rs0, hp0, fun _ _ => rfl, fun _ _ => rfl, fun i o h1 h2 => by simp at h2; omega, by
      have h : awpList P hint n ops Q (ops.toList.drop k) (stAt n ops s0 rs0 k) (hp0 k) := by
        cases hd : ops.toList.drop k <;> (rw [hd] at h; exact h)
      exact h⟩
  | b :: bs, k, rs0, hp0, hk, h => by
    simp only [List.length_cons] at hk
    have hlt : k < ops.size := by omega
    have hget : ops[k]? = some ops[k] := by simp [hlt]
    have hd : ops.toList.drop k = ops[k] :: ops.toList.drop (k + 1) := by
      rw [List.drop_eq_getElem_cons (by simpa using hlt)]; simp
    rw [hd] at h
    have hdst : dstAt ops k = (ops[k]).dst := by simp [dstAt, hget]
    have step : ∃ r H', StepT P hint n ops (hp0 k) (stAt n ops s0 rs0 k) ops[k] r H' ∧ (b = true → Ext B H') ∧ (b = false → H' = hp0 k) ∧ awpMix P hint n ops B Q bs (ops.toList.drop (k + 1)) (aput n (stAt n ops s0 rs0 k) (ops[k]).dst r) H' := by
      cases b with
      | true =>
        obtain ⟨r, H', h1, h2, h3⟩ := step_of (hdt k _ hget) h
        exact ⟨r, H', h1, fun _ => h2, fun e => (by cases e), h3⟩
      | false =>
        obtain ⟨r, H', h1, rfl, h3⟩ := step_of (hdt k _ hget) h
        exact ⟨r, _, h1, fun e => (by cases e), fun _ => rfl, h3⟩
    obtain ⟨r, H', h1, h2, h3, h4⟩ := step
    let rs1 : Nat → AV := fun i => if i = k then r else rs0 i
    let hp1 : Nat → AHeap := fun i => if i = k + 1 then H' else hp0 i
    have e1 : rs1 k = r := if_pos rfl
    have e2 : hp1 (k + 1) = H' := if_pos rfl
    have hst : ∀ (rs : Nat → AV) i, i ≤ k → (∀ j, j < i → rs j = rs0 j) → stAt n ops s0 rs i = stAt n ops s0 rs0 i := by
      intro rs i
      induction i with
      | zero => intros; rfl
      | succ i ih =>
        intro hi hr
        simp only [stAt, ih (by omega) fun j hj => hr j (by omega), hr i (by omega)]
    have h5 : awpMix P hint n ops B Q bs (ops.toList.drop (k + 1)) (stAt n ops s0 rs1 (k + 1)) (hp1 (k + 1)) := by
      rw [e2]
      simp only [stAt, e1, hdst]
      rw [hst rs1 k (Nat.le_refl _) fun j hj => if_neg (by omega)]
      exact h4
    obtain ⟨rs, hp, g1, g2, g3, g4⟩ := awpMix_steps hdt s0 bs (k + 1) rs1 hp1 (by omega) h5
    have f1 : ∀ i, i < k → rs i = rs0 i := fun i hi => by rw [g1 i (by omega)]; exact if_neg (by omega)
    have f2 : ∀ i, i ≤ k → hp i = hp0 i := fun i hi => by rw [g2 i (by omega)]; exact if_neg (by omega)
    have f3 : rs k = r := by rw [g1 k (by omega)]; exact e1
    have f4 : hp (k + 1) = H' := by rw [g2 (k + 1) (by omega)]; exact e2
    refine ⟨rs, hp, f1, f2, fun i o hi hi2 ho => ?_, by rw [List.length_cons, show k + (bs.length + 1) = k + 1 + bs.length from by omega]; exact g4⟩
    rcases Nat.lt_or_ge k i with hki | hki
    · have := g3 i o hki (by simp only [List.length_cons] at hi2; omega) ho
      rw [show i - k = (i - (k + 1)) + 1 from by omega, List.getElem?_cons_succ]
      exact this
    · obtain rfl : i = k := by omega
      rw [hget] at ho
      cases ho
      rw [Nat.sub_self, List.getElem?_cons_zero, f2 i (Nat.le_refl _), f3, f4, hst rs i (Nat.le_refl _) fun j hj => f1 j hj]
      refine ⟨fun e => ?_, fun e => ?_⟩
      · exact ⟨h1, h2 (Option.some.inj e)⟩
      · have := h3 (Option.some.inj e)
        subst this
        exact ⟨h1, rfl⟩
theorem astep_aop {o : Oper} {s : Nat → AV} {H : AHeap} {K : AV → AHeap → Prop} {KP : Value → AHeap → Prop} (h1 : ∀ x, o.op ≠ .panic x) (h2 : ∀ c, o.op ≠ .call c) : astep P hint s H o K KP = aop P s H (match o.dst with | some d => hint d | none => false) o.op K := by
  unfold astep
  split
  · rename_i x hx; exact absurd hx (h1 x)
  · rename_i c hx; exact absurd hx (h2 c)
  · rfl
theorem floats_step {o : Oper} {s : Nat → AV} {B H H2 : AHeap} {r : AV} {first : Bool} (hf : floats hint first o = true) (hE : first = true → Ext H H2) (h : ∀ K KP, K r H → astep P hint s H o K KP) : ∀ K KP, K r H2 → astep P hint s H2 o K KP := by
  intro K KP hk
  have h0 := h (fun r' _ => r' = r) (fun _ _ => False) rfl
  unfold floats at hf
  rw [Bool.or_eq_true] at hf
  rcases hf with hf | hf
  · have n1 : ∀ x, o.op ≠ .panic x := fun x e => by rw [e] at hf; cases hf
    have n2 : ∀ c, o.op ≠ .call c := fun x e => by rw [e] at hf; cases hf
    rw [astep_aop n1 n2] at h0 ⊢
    rw [hfree_eq (H := H2) (H2 := H) hf]
    exact aop_mono (fun r' _ e => by rw [e]; exact hk) h0
  · rw [Bool.and_eq_true] at hf
    have n1 : ∀ x, o.op ≠ .panic x := fun x e => by rw [e] at hf; cases hf.2
    have n2 : ∀ c, o.op ≠ .call c := fun x e => by rw [e] at hf; cases hf.2
    rw [astep_aop n1 n2] at h0 ⊢
    exact load_ext hf.2 (hE hf.1) h0 hk
theorem floats_stepT {o : Oper} {s : Nat → AV} {H H2 : AHeap} {r : AV} {first : Bool} (hf : floats hint first o = true) (hE : first = true → Ext H H2) (h : StepT P hint n ops H s o r H) : StepT P hint n ops H2 s o r H2 := by
  unfold StepT at h ⊢
  split at h
  · rename_i hg
    try simp only [hg]
    exact floats_step (B := H) hf hE h
  · rename_i j want hg
    try simp only [hg]
    obtain ⟨b, hb, h⟩ := h
    refine ⟨b, hb, ?_⟩
    split at h
    · rw [if_pos (by assumption)]; exact floats_step (B := H) hf hE h
    · rw [if_neg (by assumption)]; simp [h.1]
end
def mixCheck (hint : Nat → Bool) (ops : Array Oper) (bs : List Bool) : Bool := (List.range bs.length).all fun i => match bs[i]?, ops[i]? with
  | some false, some o => floats hint ((bs.take i).all (!·)) o
  | some true, some _ => (List.range i).all fun c => bs[c]? == some false || reachB ops 12 i c
  | _, _ => false
section
variable {P : Program} {hint : Nat → Bool} {n : Nat} {ops : Array Oper} {Q : Post}
/-- A drawn region some of whose marked operations, all bound one behind the other, change the heap. -/
theorem awp_drawM (bs : List Bool) {H0 H : AHeap} {id : Nat} {s : Nat → AV} (hm : P.follows .mixedOrders = true) (hc : pureCheck ops = true) (ht : tailCheck ops bs.length = true) (hx : mixCheck hint ops bs = true)
    (h : awpMix P hint n ops H Q bs ops.toList s H) : awp P hint n H0 (.region id ops true) Q s H := by
  obtain ⟨hms, htl⟩ := tailCheck_ok ht
  refine ⟨hm, ?_⟩
  obtain ⟨rs, hp, _, g2, g3, g4⟩ := awpMix_steps (pureCheck_ok hc).det s bs 0 (fun _ => .top) (fun _ => H) (by omega) h
  have g20 : hp 0 = H := g2 0 (Nat.le_refl _)
  simp only [Nat.zero_add, Nat.sub_zero, Nat.zero_le, true_implies] at g3 g4
  unfold mixCheck at hx
  rw [List.all_eq_true] at hx
  have hget : ∀ i, i < bs.length → ∃ o, ops[i]? = some o := fun i hi => ⟨ops[i]'(by omega), by simp [show i < ops.size by omega]⟩
  have hbs : ∀ i (hi : i < bs.length), bs[i]? = some bs[i] := fun i hi => List.getElem?_eq_getElem hi
  have hext : ∀ j, j ≤ bs.length → Ext H (hp j) := by
    intro j
    induction j with
    | zero => intro _; rw [g20]; exact Ext.refl H
    | succ j ihj =>
      intro hj
      obtain ⟨o, ho⟩ := hget j (by omega)
      have g := g3 j o (by omega) ho
      have hb := hbs j (by omega)
      cases hbj : bs[j]'(by omega) with
      | true => rw [hbj] at hb; exact (g.1 hb).2
      | false => rw [hbj] at hb; rw [(g.2 hb).2]; exact ihj (by omega)
  let ch : Nat → Bool := fun i => bs[i]?.getD false
  have chT : ∀ i, i < bs.length → ch i = true → bs[i]? = some true := fun i hi h => by
    have h : bs[i]?.getD false = true := h
    rw [hbs i hi] at h ⊢
    simpa using h
  have chF : ∀ i, i < bs.length → ch i = false → bs[i]? = some false := fun i hi h => by
    have h : bs[i]?.getD false = false := h
    rw [hbs i hi] at h ⊢
    simpa using h
  have hbase : ∀ i, i ≤ bs.length → (∀ c, c < i → ch c = false) → hp i = H := by
    intro i
    induction i with
    | zero => intros; exact g20
    | succ i ihi =>
      intro hi hcf
      obtain ⟨o, ho⟩ := hget i (by omega)
      rw [((g3 i o (by omega) ho).2 (chF i (by omega) (hcf i (by omega)))).2]
      exact ihi (by omega) fun c hc => hcf c (by omega)
  refine awpAny_mix (pureCheck_ok hc) bs.length hms htl s rs hp ch ?_ ?_ ?_ ?_ g4 ops.size (Array.replicate ops.size false) s H (by simp) ?_ ?_ ?_ ?_ ?_ ⟨0, Nat.zero_le _, g20.symm, fun c hcm hct => ?_⟩
  · intro c c' h1 h2 h3 h4
    have := hx c' (List.mem_range.2 h2)
    obtain ⟨o, ho⟩ := hget c' h2
    rw [chT c' h2 h4, ho] at this
    simp only [List.all_eq_true] at this
    have := this c (List.mem_range.2 h1)
    rw [chT c (by omega) h3] at this
    simpa using this
  · intro i hi hci
    obtain ⟨o, ho⟩ := hget i hi
    exact ((g3 i o hi ho).2 (chF i hi hci)).2
  · intro i o hi ho hci
    exact ((g3 i o hi ho).1 (chT i hi hci)).1
  · intro i o hi ho hci j hj _
    have hfl := hx i (List.mem_range.2 hi)
    rw [chF i hi hci, ho] at hfl
    refine floats_stepT hfl (fun hfirst => ?_) ((g3 i o hi ho).2 (chF i hi hci)).1
    rw [hbase i (by omega) fun c hc => ?_]
    · exact hext j hj
    · rw [List.all_eq_true] at hfirst
      have := hfirst (bs[c]'(by omega)) (by
        rw [List.mem_iff_getElem]
        exact ⟨c, by simp; omega, by simp⟩)
      show bs[c]?.getD false = false
      rw [hbs c (by omega)]
      simpa using this
  · exact Nat.le_trans List.countP_le_length (by simp)
  · intro t j hj
    have hjl := dstAt_lt hj
    rw [if_neg (by simp [Array.getD, hjl])]
  · intro t _; rfl
  · intro j oj i hoj hl
    have hjl := (Array.getElem?_eq_some_iff.1 hoj).1
    simp [Array.getD, hjl] at hl
  · intro i hi hi2
    simp [Array.getD, hi2]
  · have : c < ops.size := by omega
    simp [Array.getD, this]
end
def mixCheckN (hint : Nat → Bool) (ops : Array Oper) (bs : List Bool) (c0 : Nat) : Bool := bs[c0]? == some true && (List.range bs.length).all fun i => match bs[i]?, ops[i]? with
  | some false, some o => floats hint false o || (decide (i < c0) && reachB ops 12 c0 i)
  | some true, some _ => decide (c0 ≤ i) && (List.range i).all fun c => bs[c]? == some false || reachB ops 12 i c
  | _, _ => false
theorem Ext.nil (H : AHeap) : Ext [] H = True := eq_true fun id o h => by simp at h
section
variable {P : Program} {hint : Nat → Bool} {n : Nat} {ops : Array Oper} {Q : Post}
/-- A drawn region whose marked operations, all bound one behind the other, change the heap in any way: what reads it is bound ahead of the first of them. -/
theorem awp_drawN (bs : List Bool) (c0 : Nat) {H0 H : AHeap} {id : Nat} {s : Nat → AV} (hm : P.follows .mixedOrders = true) (hc : pureCheck ops = true) (ht : tailCheck ops bs.length = true) (hx : mixCheckN hint ops bs c0 = true)
    (h : awpMix P hint n ops [] Q bs ops.toList s H) : awp P hint n H0 (.region id ops true) Q s H := by
  obtain ⟨hms, htl⟩ := tailCheck_ok ht
  refine ⟨hm, ?_⟩
  obtain ⟨rs, hp, _, g2, g3, g4⟩ := awpMix_steps (pureCheck_ok hc).det s bs 0 (fun _ => .top) (fun _ => H) (by omega) h
  have g20 : hp 0 = H := g2 0 (Nat.le_refl _)
  simp only [Nat.zero_add, Nat.sub_zero, Nat.zero_le, true_implies] at g3 g4
  unfold mixCheckN at hx
  rw [Bool.and_eq_true, List.all_eq_true] at hx
  obtain ⟨hx0, hx⟩ := hx
  have hx0 : bs[c0]? = some true := by simpa using hx0
  have hget : ∀ i, i < bs.length → ∃ o, ops[i]? = some o := fun i hi => ⟨ops[i]'(by omega), by simp [show i < ops.size by omega]⟩
  have hbs : ∀ i (hi : i < bs.length), bs[i]? = some bs[i] := fun i hi => List.getElem?_eq_getElem hi
  let ch : Nat → Bool := fun i => bs[i]?.getD false
  have chT : ∀ i, i < bs.length → ch i = true → bs[i]? = some true := fun i hi h => by
    have h : bs[i]?.getD false = true := h
    rw [hbs i hi] at h ⊢
    simpa using h
  have chF : ∀ i, i < bs.length → ch i = false → bs[i]? = some false := fun i hi h => by
    have h : bs[i]?.getD false = false := h
    rw [hbs i hi] at h ⊢
    simpa using h
  have hc0 : ch c0 = true := by show bs[c0]?.getD false = true; rw [hx0]; rfl
  have hfirst : ∀ i, i < bs.length → i < c0 → ch i = false := by
    intro i hi hlt
    cases hci : ch i with
    | false => rfl
    | true =>
      exfalso
      obtain ⟨o, ho⟩ := hget i hi
      have := hx i (List.mem_range.2 hi)
      rw [chT i hi hci, ho] at this
      simp only [Bool.and_eq_true, decide_eq_true_eq] at this
      omega
  have hbase : ∀ i, i ≤ bs.length → i ≤ c0 → hp i = H := by
    intro i
    induction i with
    | zero => intros; exact g20
    | succ i ihi =>
      intro hi hcf
      obtain ⟨o, ho⟩ := hget i (by omega)
      rw [((g3 i o (by omega) ho).2 (chF i (by omega) (hfirst i (by omega) (by omega)))).2]
      exact ihi (by omega) (by omega)
  refine awpAny_mix (pureCheck_ok hc) bs.length hms htl s rs hp ch ?_ ?_ ?_ ?_ g4 ops.size (Array.replicate ops.size false) s H (by simp) ?_ ?_ ?_ ?_ ?_ ⟨0, Nat.zero_le _, g20.symm, fun c hcm hct => ?_⟩
  · intro c c' h1 h2 h3 h4
    have := hx c' (List.mem_range.2 h2)
    obtain ⟨o, ho⟩ := hget c' h2
    rw [chT c' h2 h4, ho] at this
    simp only [Bool.and_eq_true, List.all_eq_true] at this
    have := this.2 c (List.mem_range.2 h1)
    rw [chT c (by omega) h3] at this
    simpa using this
  · intro i hi hci
    obtain ⟨o, ho⟩ := hget i hi
    exact ((g3 i o hi ho).2 (chF i hi hci)).2
  · intro i o hi ho hci
    exact ((g3 i o hi ho).1 (chT i hi hci)).1
  · intro i o hi ho hci j hj hnr
    have hfl := hx i (List.mem_range.2 hi)
    rw [chF i hi hci, ho] at hfl
    simp only [Bool.or_eq_true, Bool.and_eq_true, decide_eq_true_eq] at hfl
    have hs := ((g3 i o hi ho).2 (chF i hi hci)).1
    rcases hfl with hfl | ⟨hlt, hre⟩
    · exact floats_stepT hfl (fun hf => by cases hf) hs
    · have hjc : j ≤ c0 := by
        rcases Nat.lt_or_ge c0 j with h1 | h1
        · have := hnr c0 h1 hc0
          rw [hre] at this; cases this
        · exact h1
      rw [hbase j hj hjc]
      rw [hbase i (by omega) (by omega)] at hs
      exact hs
  · exact Nat.le_trans List.countP_le_length (by simp)
  · intro t j hj
    have hjl := dstAt_lt hj
    rw [if_neg (by simp [Array.getD, hjl])]
  · intro t _; rfl
  · intro j oj i hoj hl
    have hjl := (Array.getElem?_eq_some_iff.1 hoj).1
    simp [Array.getD, hjl] at hl
  · intro i hi hi2
    simp [Array.getD, hi2]
  · have : c < ops.size := by omega
    simp [Array.getD, this]
end
section
variable (P : Program) (hint : Nat → Bool) (n : Nat) (ops : Array Oper) (Q : Post) (rest : List Oper) (s : Nat → AV) (H B : AHeap) (bs : List Bool)
def KMix (b : Bool) (d : Option Tmp) (H0 : AHeap) : AV → AHeap → Prop := fun r H' => (match b with | true => Ext B H' | false => H' = H0) ∧ awpMix P hint n ops B Q bs rest (aput n s d r) H'
theorem KMix_true (d : Option Tmp) (H0 : AHeap) (r : AV) : KMix P hint n ops Q rest s B bs true d H0 r H = (Ext B H ∧ awpMix P hint n ops B Q bs rest (aput n s d r) H) := rfl
theorem KMix_false (d : Option Tmp) (H0 : AHeap) (r : AV) : KMix P hint n ops Q rest s B bs false d H0 r H = (H = H0 ∧ awpMix P hint n ops B Q bs rest (aput n s d r) H) := rfl
theorem awpMix_end (l : List Oper) : awpMix P hint n ops B Q [] l s H = awpList P hint n ops Q l s H := by cases l <;> rfl
theorem awpMix_none (b : Bool) (d : Option Tmp) (op : Op) (ty : TypeId) (p : String) (af : Array Edge) : awpMix P hint n ops B Q (b :: bs) (⟨d, op, ty, p, af, none⟩ :: rest) s H = astep P hint s H ⟨d, op, ty, p, af, none⟩ (KMix P hint n ops Q rest s B bs b d H) KNo := by
  cases b <;> simp only [awpMix, awpOp] <;> rfl
theorem awpMix_mk (l : List Oper) : awpMix P hint n ops B Q bs l.toArray.toList s H = awpMix P hint n ops B Q bs l s H := rfl
end
@[congr] theorem cg_mix {P : Program} {hint : Nat → Bool} {n : Nat} {ops : Array Oper} {Q : Post} {bs : List Bool} {l : List Oper} {s : Nat → AV} {B H H' : AHeap} (h : nf H = H') : awpMix P hint n ops B Q bs l s H = awpMix P hint n ops B Q bs l s H' := by rw [← h]; rfl
@[congr] theorem cg_KMix {P : Program} {hint : Nat → Bool} {n : Nat} {ops : Array Oper} {Q : Post} {rest : List Oper} {s : Nat → AV} {bs : List Bool} {b : Bool} {d : Option Tmp} {B H0 H H' : AHeap} {r r' : AV} (g : nf r = r') (h : nf H = H') : KMix P hint n ops Q rest s B bs b d H0 r H = KMix P hint n ops Q rest s B bs b d H0 r' H' := by rw [← g, ← h]; rfl
attribute [go_sem] Ext.nil KMix_true KMix_false awpMix_end awpMix_none awpMix_mk
end Go.Proofs.YtkapgooedfompaaAw
namespace Go.Proofs.Ytkapgooedfompaa
open Go.Proofs.YtkapgooedfompaaAw Go.RowKit
set_option linter.unusedVariables false
set_option linter.unusedSimpArgs false
def kindsP (k : Int) : Bool := decide (1 ≤ k) && decide (k ≤ 3)
set_option maxRecDepth 10000 in
theorem kinds_does (k : Int) (H : AHeap) : Does Try.prog 46 [iA k] H (.ok (bA (kindsP k))) H := by
  refine Does.of_awp (hint := (fun _ => false)) Try.func46 (by kernel_rfl) rfl [2] (by kernel_rfl) (by decide) (by simp [Try.ntmps46]) ?_
  rw [Try.ntmps46]
  by_cases h : 1 ≤ k
  · simp (implicitDefEqProofs := false) only [↓reduceIte, go_sem, oread, owrite, Nat.reduceAdd, Nat.reduceSub, Nat.reduceMul, Nat.reduceLT, Nat.reduceLeDiff, Nat.reduceEqDiff, Nat.reduceBEq, Int.reduceLE, Int.reduceLT, Int.reduceEq, Int.reduceNe, Int.reduceAdd, Int.reduceSub, Int.reduceMul, Int.reduceNeg, Int.reduceToNat, Int.reduceNatCast, reduceCtorEq, eq_self, h]
    refine AEnd.ret0 ?_
    simp (implicitDefEqProofs := false) only [↓reduceIte, go_sem, oread, owrite, Nat.reduceAdd, Nat.reduceSub, Nat.reduceMul, Nat.reduceLT, Nat.reduceLeDiff, Nat.reduceEqDiff, Nat.reduceBEq, Int.reduceLE, Int.reduceLT, Int.reduceEq, Int.reduceNe, Int.reduceAdd, Int.reduceSub, Int.reduceMul, Int.reduceNeg, Int.reduceToNat, Int.reduceNatCast, reduceCtorEq, eq_self, kindsP, h]
  · simp (implicitDefEqProofs := false) only [↓reduceIte, go_sem, oread, owrite, Nat.reduceAdd, Nat.reduceSub, Nat.reduceMul, Nat.reduceLT, Nat.reduceLeDiff, Nat.reduceEqDiff, Nat.reduceBEq, Int.reduceLE, Int.reduceLT, Int.reduceEq, Int.reduceNe, Int.reduceAdd, Int.reduceSub, Int.reduceMul, Int.reduceNeg, Int.reduceToNat, Int.reduceNatCast, reduceCtorEq, eq_self, h]
    refine AEnd.ret0 ?_
    simp (implicitDefEqProofs := false) only [↓reduceIte, go_sem, oread, owrite, Nat.reduceAdd, Nat.reduceSub, Nat.reduceMul, Nat.reduceLT, Nat.reduceLeDiff, Nat.reduceEqDiff, Nat.reduceBEq, Int.reduceLE, Int.reduceLT, Int.reduceEq, Int.reduceNe, Int.reduceAdd, Int.reduceSub, Int.reduceMul, Int.reduceNeg, Int.reduceToNat, Int.reduceNatCast, reduceCtorEq, eq_self, kindsP, h]
def plainP (l : List Val) (k : Int) : Int := if !kindsP k then 1 else if 4096 < l.length then 2 else if l.any (fun v => !decide (v.kind = k)) then 7 else if l.any (fun v => !mayV v) then 1 else 0
set_option maxRecDepth 10000 in
theorem plain1_does (v : Val) (k : Int) (id : Nat) (H : AHeap) (hb : H[id]? = some (.box 3 1 0 1 [iA k])) : Does Try.prog 43 [v.av, .ptr id 0 0 0] H (.ok (bA (!decide (v.kind = k)))) H := by
  have hlt : id < H.length := (List.getElem?_eq_some_iff.1 hb).1
  refine Does.of_awp (hint := (fun _ => false)) Try.func43 (by kernel_rfl) rfl [3] (by kernel_rfl) (by decide) (by simp [Try.ntmps43]) ?_
  rw [Try.ntmps43]
  simp (implicitDefEqProofs := false) only [↓reduceIte, go_sem, oread, owrite, Nat.reduceAdd, Nat.reduceSub, Nat.reduceMul, Nat.reduceLT, Nat.reduceLeDiff, Nat.reduceEqDiff, Nat.reduceBEq, Int.reduceLE, Int.reduceLT, Int.reduceEq, Int.reduceNe, Int.reduceAdd, Int.reduceSub, Int.reduceMul, Int.reduceNeg, Int.reduceToNat, Int.reduceNatCast, reduceCtorEq, eq_self, hb, List.getElem?_append_left hlt]
  refine AEnd.ret ?_
  simp (implicitDefEqProofs := false) only [↓reduceIte, go_sem, oread, owrite, Nat.reduceAdd, Nat.reduceSub, Nat.reduceMul, Nat.reduceLT, Nat.reduceLeDiff, Nat.reduceEqDiff, Nat.reduceBEq, Int.reduceLE, Int.reduceLT, Int.reduceEq, Int.reduceNe, Int.reduceAdd, Int.reduceSub, Int.reduceMul, Int.reduceNeg, Int.reduceToNat, Int.reduceNatCast, reduceCtorEq, eq_self]
set_option maxRecDepth 10000 in
theorem plain2_does (v : Val) (H : AHeap) : Does Try.prog 44 [v.av] H (.ok (bA (!mayV v))) H := by
  refine Does.of_awp (hint := (fun _ => false)) Try.func44 (by kernel_rfl) rfl [2] (by kernel_rfl) (by decide) (by simp [Try.ntmps44]) ?_
  rw [Try.ntmps44]
  simp (implicitDefEqProofs := false) only [↓reduceIte, go_sem, oread, owrite, Nat.reduceAdd, Nat.reduceSub, Nat.reduceMul, Nat.reduceLT, Nat.reduceLeDiff, Nat.reduceEqDiff, Nat.reduceBEq, Int.reduceLE, Int.reduceLT, Int.reduceEq, Int.reduceNe, Int.reduceAdd, Int.reduceSub, Int.reduceMul, Int.reduceNeg, Int.reduceToNat, Int.reduceNatCast, reduceCtorEq, eq_self]
  refine KCall.ok (mayV_does v _) ?_
  simp (implicitDefEqProofs := false) only [↓reduceIte, go_sem, oread, owrite, Nat.reduceAdd, Nat.reduceSub, Nat.reduceMul, Nat.reduceLT, Nat.reduceLeDiff, Nat.reduceEqDiff, Nat.reduceBEq, Int.reduceLE, Int.reduceLT, Int.reduceEq, Int.reduceNe, Int.reduceAdd, Int.reduceSub, Int.reduceMul, Int.reduceNeg, Int.reduceToNat, Int.reduceNatCast, reduceCtorEq, eq_self]
  refine AEnd.ret ?_
  simp (implicitDefEqProofs := false) only [↓reduceIte, go_sem, oread, owrite, Nat.reduceAdd, Nat.reduceSub, Nat.reduceMul, Nat.reduceLT, Nat.reduceLeDiff, Nat.reduceEqDiff, Nat.reduceBEq, Int.reduceLE, Int.reduceLT, Int.reduceEq, Int.reduceNe, Int.reduceAdd, Int.reduceSub, Int.reduceMul, Int.reduceNeg, Int.reduceToNat, Int.reduceNatCast, reduceCtorEq, eq_self]
set_option maxRecDepth 10000 in
set_option maxHeartbeats 1000000 in
theorem plain_does (l : List Val) (k : Int) (nn : Bool) (H : AHeap) (hl : l.length ≤ 9223372036854775807) : Does Try.prog 31 [.d (.list nn (l.map Val.enc)), iA k] H (.ok (iA (plainP l k))) H := by
  refine Does.of_awp (hint := (fun _ => false)) Try.func31 (by kernel_rfl) rfl [4] (by kernel_rfl) (by decide) (by simp [Try.ntmps31]) ?_
  rw [Try.ntmps31]
  simp (implicitDefEqProofs := false) only [↓reduceIte, go_sem, oread, owrite, Nat.reduceAdd, Nat.reduceSub, Nat.reduceMul, Nat.reduceLT, Nat.reduceLeDiff, Nat.reduceEqDiff, Nat.reduceBEq, Int.reduceLE, Int.reduceLT, Int.reduceEq, Int.reduceNe, Int.reduceAdd, Int.reduceSub, Int.reduceMul, Int.reduceNeg, Int.reduceToNat, Int.reduceNatCast, reduceCtorEq, eq_self]
  refine KCall.ok (kinds_does k _) ?_
  cases h1 : kindsP k with
  | false =>
    simp (implicitDefEqProofs := false) only [↓reduceIte, go_sem, oread, owrite, Nat.reduceAdd, Nat.reduceSub, Nat.reduceMul, Nat.reduceLT, Nat.reduceLeDiff, Nat.reduceEqDiff, Nat.reduceBEq, Int.reduceLE, Int.reduceLT, Int.reduceEq, Int.reduceNe, Int.reduceAdd, Int.reduceSub, Int.reduceMul, Int.reduceNeg, Int.reduceToNat, Int.reduceNatCast, reduceCtorEq, eq_self]
    refine AEnd.ret ?_
    simp (implicitDefEqProofs := false) only [↓reduceIte, go_sem, oread, owrite, Nat.reduceAdd, Nat.reduceSub, Nat.reduceMul, Nat.reduceLT, Nat.reduceLeDiff, Nat.reduceEqDiff, Nat.reduceBEq, Int.reduceLE, Int.reduceLT, Int.reduceEq, Int.reduceNe, Int.reduceAdd, Int.reduceSub, Int.reduceMul, Int.reduceNeg, Int.reduceToNat, Int.reduceNatCast, reduceCtorEq, eq_self, plainP, h1]
  | true =>
    by_cases h2 : 4096 < l.length
    · simp (implicitDefEqProofs := false) only [↓reduceIte, go_sem, oread, owrite, Nat.reduceAdd, Nat.reduceSub, Nat.reduceMul, Nat.reduceLT, Nat.reduceLeDiff, Nat.reduceEqDiff, Nat.reduceBEq, Int.reduceLE, Int.reduceLT, Int.reduceEq, Int.reduceNe, Int.reduceAdd, Int.reduceSub, Int.reduceMul, Int.reduceNeg, Int.reduceToNat, Int.reduceNatCast, reduceCtorEq, eq_self, h2, show ((4096 : Int) < (l.length : Int)) = True from eq_true (by omega)]
      refine AEnd.ret ?_
      simp (implicitDefEqProofs := false) only [↓reduceIte, go_sem, oread, owrite, Nat.reduceAdd, Nat.reduceSub, Nat.reduceMul, Nat.reduceLT, Nat.reduceLeDiff, Nat.reduceEqDiff, Nat.reduceBEq, Int.reduceLE, Int.reduceLT, Int.reduceEq, Int.reduceNe, Int.reduceAdd, Int.reduceSub, Int.reduceMul, Int.reduceNeg, Int.reduceToNat, Int.reduceNatCast, reduceCtorEq, eq_self, plainP, h1, h2, Bool.false_eq_true]
    · simp (implicitDefEqProofs := false) only [↓reduceIte, go_sem, oread, owrite, Nat.reduceAdd, Nat.reduceSub, Nat.reduceMul, Nat.reduceLT, Nat.reduceLeDiff, Nat.reduceEqDiff, Nat.reduceBEq, Int.reduceLE, Int.reduceLT, Int.reduceEq, Int.reduceNe, Int.reduceAdd, Int.reduceSub, Int.reduceMul, Int.reduceNeg, Int.reduceToNat, Int.reduceNatCast, reduceCtorEq, eq_self, h2, show ((4096 : Int) < (l.length : Int)) = False from eq_false (by omega)]
      refine KCall.ok (containsV_does l (fun v => !decide (v.kind = k)) _ _ nn _ hl fun v _ => plain1_does v k _ _ (by simp)) ?_
      cases h3 : l.any (fun v => !decide (v.kind = k)) with
      | true =>
        simp (implicitDefEqProofs := false) only [↓reduceIte, go_sem, oread, owrite, Nat.reduceAdd, Nat.reduceSub, Nat.reduceMul, Nat.reduceLT, Nat.reduceLeDiff, Nat.reduceEqDiff, Nat.reduceBEq, Int.reduceLE, Int.reduceLT, Int.reduceEq, Int.reduceNe, Int.reduceAdd, Int.reduceSub, Int.reduceMul, Int.reduceNeg, Int.reduceToNat, Int.reduceNatCast, reduceCtorEq, eq_self]
        refine AEnd.ret ?_
        simp (implicitDefEqProofs := false) only [↓reduceIte, go_sem, oread, owrite, Nat.reduceAdd, Nat.reduceSub, Nat.reduceMul, Nat.reduceLT, Nat.reduceLeDiff, Nat.reduceEqDiff, Nat.reduceBEq, Int.reduceLE, Int.reduceLT, Int.reduceEq, Int.reduceNe, Int.reduceAdd, Int.reduceSub, Int.reduceMul, Int.reduceNeg, Int.reduceToNat, Int.reduceNatCast, reduceCtorEq, eq_self, plainP, h1, h2, h3, Bool.false_eq_true]
      | false =>
        simp (implicitDefEqProofs := false) only [↓reduceIte, go_sem, oread, owrite, Nat.reduceAdd, Nat.reduceSub, Nat.reduceMul, Nat.reduceLT, Nat.reduceLeDiff, Nat.reduceEqDiff, Nat.reduceBEq, Int.reduceLE, Int.reduceLT, Int.reduceEq, Int.reduceNe, Int.reduceAdd, Int.reduceSub, Int.reduceMul, Int.reduceNeg, Int.reduceToNat, Int.reduceNatCast, reduceCtorEq, eq_self]
        refine KCall.ok (containsV_does l (fun v => !mayV v) _ _ nn _ hl fun v _ => plain2_does v _) ?_
        cases h4 : l.any (fun v => !mayV v) with
        | true =>
          simp (implicitDefEqProofs := false) only [↓reduceIte, go_sem, oread, owrite, Nat.reduceAdd, Nat.reduceSub, Nat.reduceMul, Nat.reduceLT, Nat.reduceLeDiff, Nat.reduceEqDiff, Nat.reduceBEq, Int.reduceLE, Int.reduceLT, Int.reduceEq, Int.reduceNe, Int.reduceAdd, Int.reduceSub, Int.reduceMul, Int.reduceNeg, Int.reduceToNat, Int.reduceNatCast, reduceCtorEq, eq_self]
          refine AEnd.ret ?_
          simp (implicitDefEqProofs := false) only [↓reduceIte, go_sem, oread, owrite, Nat.reduceAdd, Nat.reduceSub, Nat.reduceMul, Nat.reduceLT, Nat.reduceLeDiff, Nat.reduceEqDiff, Nat.reduceBEq, Int.reduceLE, Int.reduceLT, Int.reduceEq, Int.reduceNe, Int.reduceAdd, Int.reduceSub, Int.reduceMul, Int.reduceNeg, Int.reduceToNat, Int.reduceNatCast, reduceCtorEq, eq_self, plainP, h1, h2, h3, h4, Bool.false_eq_true]
        | false =>
          simp (implicitDefEqProofs := false) only [↓reduceIte, go_sem, oread, owrite, Nat.reduceAdd, Nat.reduceSub, Nat.reduceMul, Nat.reduceLT, Nat.reduceLeDiff, Nat.reduceEqDiff, Nat.reduceBEq, Int.reduceLE, Int.reduceLT, Int.reduceEq, Int.reduceNe, Int.reduceAdd, Int.reduceSub, Int.reduceMul, Int.reduceNeg, Int.reduceToNat, Int.reduceNatCast, reduceCtorEq, eq_self]
          refine AEnd.ret ?_
          simp (implicitDefEqProofs := false) only [↓reduceIte, go_sem, oread, owrite, Nat.reduceAdd, Nat.reduceSub, Nat.reduceMul, Nat.reduceLT, Nat.reduceLeDiff, Nat.reduceEqDiff, Nat.reduceBEq, Int.reduceLE, Int.reduceLT, Int.reduceEq, Int.reduceNe, Int.reduceAdd, Int.reduceSub, Int.reduceMul, Int.reduceNeg, Int.reduceToNat, Int.reduceNatCast, reduceCtorEq, eq_self, plainP, h1, h2, h3, h4, Bool.false_eq_true]
end Go.Proofs.Ytkapgooedfompaa
namespace Go.Proofs.Ytkapgooedfompaa
open Go.Proofs.YtkapgooedfompaaAw Go.RowKit
set_option linter.unusedVariables false
set_option linter.unusedSimpArgs false
def zigP (n : Int) : Nat := if 0 ≤ n then (2 * n).toNat else (-2 * n - 1).toNat
theorem wrapU (n : Int) : IntKind.u64.wrap n = n % 18446744073709551616 := by simp [IntKind.wrap, IntKind.signed, IntKind.bits]
theorem xorAll (c : Nat) (h : c < 18446744073709551616) : c ^^^ 18446744073709551615 = 18446744073709551615 - c := by
  have := Nat.testBit_two_pow_sub_succ (x := c) (n := 64) h
  apply Nat.eq_of_testBit_eq
  intro i
  rw [Nat.testBit_xor]
  have h2 := this i
  rw [show 2 ^ 64 - (c + 1) = 18446744073709551615 - c from by omega] at h2
  rw [h2]
  have h3 : (18446744073709551615 : Nat).testBit i = decide (i < 64) := by
    have := Nat.testBit_two_pow_sub_one 64 i
    simpa using this
  rw [h3]
  by_cases hi : i < 64
  · simp [hi]
  · have h5 : 2 ^ 64 ≤ 2 ^ i := Nat.pow_le_pow_right (by omega) (by omega)
    have : c.testBit i = false := Nat.testBit_lt_two_pow (by omega)
    simp [hi, this]
theorem zig_eq (n : Int) (h1 : -9223372036854775808 ≤ n) (h2 : n ≤ 9223372036854775807) :
    IntKind.u64.wrap (xorI .u64 (IntKind.u64.wrap (shlI .u64 (IntKind.u64.wrap n) 1)) (IntKind.u64.wrap (shrI .i64 n 63))) = ((zigP n : Nat) : Int) := by
  have s1 : shlI .u64 (IntKind.u64.wrap n) 1 = IntKind.u64.wrap n * 2 := by simp [shlI, IntKind.bits]
  have s2 : shrI .i64 n 63 = n.fdiv 9223372036854775808 := by simp [shrI, IntKind.bits]
  rw [s1, s2]
  by_cases h : 0 ≤ n
  · have e1 : IntKind.u64.wrap (IntKind.u64.wrap n * 2) = (((2 * n).toNat : Nat) : Int) := by rw [wrapU, wrapU]; omega
    have e2 : IntKind.u64.wrap (n.fdiv 9223372036854775808) = ((0 : Nat) : Int) := by
      rw [show n.fdiv 9223372036854775808 = 0 from by rw [Int.fdiv_eq_ediv_of_nonneg _ (by decide)]; omega]; rfl
    rw [e1, e2]
    have e := bits_xor_u64_nat (2 * n).toNat 0 (by omega) (by omega)
    rw [Nat.xor_zero] at e
    unfold zigP
    rw [if_pos h]
    exact e
  · have e1 : IntKind.u64.wrap (IntKind.u64.wrap n * 2) = (((2 * n + 18446744073709551616).toNat : Nat) : Int) := by rw [wrapU, wrapU]; omega
    have e2 : IntKind.u64.wrap (n.fdiv 9223372036854775808) = ((18446744073709551615 : Nat) : Int) := by
      rw [show n.fdiv 9223372036854775808 = -1 from by rw [Int.fdiv_eq_ediv_of_nonneg _ (by decide)]; omega]; rfl
    rw [e1, e2]
    have e := bits_xor_u64_nat (2 * n + 18446744073709551616).toNat 18446744073709551615 (by omega) (by omega)
    rw [xorAll _ (by omega)] at e
    unfold zigP
    rw [if_neg h, show (-2 * n - 1).toNat = 18446744073709551615 - (2 * n + 18446744073709551616).toNat from by omega]
    exact e
set_option maxRecDepth 10000 in
theorem zig_does (n : Int) (h1 : -9223372036854775808 ≤ n) (h2 : n ≤ 9223372036854775807) (H : AHeap) : Does Try.prog 48 [iA n] H (.ok (du (zigP n))) H := by
  refine Does.of_awp (hint := (fun _ => false)) Try.func48 (by kernel_rfl) rfl [2] (by kernel_rfl) (by decide) (by simp [Try.ntmps48]) ?_
  rw [Try.ntmps48]
  simp (implicitDefEqProofs := false) only [↓reduceIte, go_sem, oread, owrite, Nat.reduceAdd, Nat.reduceSub, Nat.reduceMul, Nat.reduceLT, Nat.reduceLeDiff, Nat.reduceEqDiff, Nat.reduceBEq, Int.reduceLE, Int.reduceLT, Int.reduceEq, Int.reduceNe, Int.reduceAdd, Int.reduceSub, Int.reduceMul, Int.reduceNeg, Int.reduceToNat, Int.reduceNatCast, reduceCtorEq, eq_self, zig_eq n h1 h2]
  refine AEnd.ret0 ?_
  simp (implicitDefEqProofs := false) only [↓reduceIte, go_sem, oread, owrite, Nat.reduceAdd, Nat.reduceSub, Nat.reduceMul, Nat.reduceLT, Nat.reduceLeDiff, Nat.reduceEqDiff, Nat.reduceBEq, Int.reduceLE, Int.reduceLT, Int.reduceEq, Int.reduceNe, Int.reduceAdd, Int.reduceSub, Int.reduceMul, Int.reduceNeg, Int.reduceToNat, Int.reduceNatCast, reduceCtorEq, eq_self]
end Go.Proofs.Ytkapgooedfompaa
namespace Go.Proofs.Ytkapgooedfompaa
open Go.Proofs.YtkapgooedfompaaAw Go.RowKit
set_option linter.unusedVariables false
theorem shrU (n k : Nat) (h : k ≤ 64) : shrI .u64 (n : Int) (k : Int) = ((n / 2 ^ k : Nat) : Int) := by
  have : min k 64 = k := by omega
  simp only [shrI, IntKind.bits, Int.toNat_natCast, this]
  rw [Int.fdiv_eq_ediv_of_nonneg _ (by exact_mod_cast Nat.zero_le _)]
  norm_cast
theorem wrap8N (n : Nat) (h : n < 256) : IntKind.u8.wrap (n : Int) = n := wrapu8_in _ (by omega) (by omega)
theorem orI_nat (k : IntKind) (a b : Nat) (ha : a < 2 ^ k.bits) (hb : b < 2 ^ k.bits) : orI k (a : Int) (b : Int) = ((a ||| b : Nat) : Int) := by
  simp [orI, BitVec.toNat_or, BitVec.ofInt_natCast, Nat.mod_eq_of_lt ha, Nat.mod_eq_of_lt hb]
theorem andI_nat (k : IntKind) (a b : Nat) (ha : a < 2 ^ k.bits) (hb : b < 2 ^ k.bits) : andI k (a : Int) (b : Int) = ((a &&& b : Nat) : Int) := by
  simp [andI, BitVec.toNat_and, BitVec.ofInt_natCast, Nat.mod_eq_of_lt ha, Nat.mod_eq_of_lt hb]
theorem wrapU64N (n : Nat) (h : n < 18446744073709551616) : IntKind.u64.wrap (n : Int) = n := wrapu64_in _ (by omega) (by omega)
theorem wrapU8mod (n : Nat) : IntKind.u8.wrap (n : Int) = ((n % 256 : Nat) : Int) := by simp [IntKind.wrap, IntKind.signed, IntKind.bits]
theorem wrapI (n : Nat) (h : n ≤ 1000000000000) : IntKind.i64.wrap (n : Int) = (n : Int) := wrap64_in _ (by omega) (by omega)
end Go.Proofs.Ytkapgooedfompaa
namespace Go.Proofs.Ytkapgooedfompaa
open Go.Proofs.YtkapgooedfompaaAw Go.RowKit
set_option linter.unusedVariables false
set_option linter.unusedSimpArgs false
def lenN (n : Nat) : Nat := if n = 0 then 0 else n.log2 + 1
theorem lenN_le (n w : Nat) : lenN n ≤ w ↔ n < 2 ^ w := by
  unfold lenN
  split
  · subst_vars; simp [Nat.two_pow_pos]
  · rename_i h
    rw [← Nat.log2_lt h]; omega
theorem lenN_div (n k : Nat) (h : 2 ^ k ≤ n) : lenN n = k + lenN (n / 2 ^ k) := by
  have key : ∀ w, lenN n ≤ w ↔ k + lenN (n / 2 ^ k) ≤ w := by
    intro w
    rcases Nat.lt_or_ge w k with hw | hw
    · rw [lenN_le]
      have : 2 ^ w ≤ 2 ^ k := Nat.pow_le_pow_right (by omega) (by omega)
      omega
    · rw [show (k + lenN (n / 2 ^ k) ≤ w) = (lenN (n / 2 ^ k) ≤ w - k) from propext ⟨fun h => by omega, fun h => by omega⟩, lenN_le, lenN_le, Nat.div_lt_iff_lt_mul (Nat.two_pow_pos k), ← Nat.pow_add, Nat.sub_add_cancel hw]
  exact Nat.le_antisymm ((key _).2 (Nat.le_refl _)) ((key _).1 (Nat.le_refl _))
theorem lenN_le64 {n : Nat} (h : n < 18446744073709551616) : lenN n ≤ 64 := (lenN_le n 64).2 h
theorem lenTab : ∀ n, n < 256 → ∀ b : ByteArray, b.data.toList = (List.range 256).map (fun n => UInt8.ofNat (lenN n)) → b[n]? = some (UInt8.ofNat (lenN n)) := by
  intro n hn b hb
  have : b.data[n]? = some (UInt8.ofNat (lenN n)) := by
    rw [← Array.getElem?_toList, hb]; simp [hn]
  obtain ⟨h1, h2⟩ := Array.getElem?_eq_some_iff.1 this
  rw [getElem?_pos b n h1]
  exact congrArg some h2
theorem ofNat_len {n : Nat} (h : n < 256) : (UInt8.ofNat (lenN n)).toNat = lenN n := by
  have : lenN n ≤ 8 := (lenN_le n 8).2 h
  simp; omega
theorem len_small (n : Nat) : (4294967296 ≤ n → lenN n = 32 + lenN (n / 4294967296)) ∧ (65536 ≤ n → lenN n = 16 + lenN (n / 65536)) ∧ (256 ≤ n → lenN n = 8 + lenN (n / 256)) :=
  ⟨lenN_div n 32, lenN_div n 16, lenN_div n 8⟩
set_option maxRecDepth 10000 in
set_option maxHeartbeats 1000000 in
theorem len64_does (n : Nat) (hn : n < 18446744073709551616) (H : AHeap) : Does Try.prog 67 [du n] H (.ok (iA (lenN n))) H := by
  have s32 : ∀ n : Nat, shrI .u64 (n : Int) 32 = ((n / 4294967296 : Nat) : Int) := fun n => shrU n 32 (by decide)
  have s16 : ∀ n : Nat, shrI .u64 (n : Int) 16 = ((n / 65536 : Nat) : Int) := fun n => shrU n 16 (by decide)
  have s8 : ∀ n : Nat, shrI .u64 (n : Int) 8 = ((n / 256 : Nat) : Int) := fun n => shrU n 8 (by decide)
  have w48 : IntKind.i64.wrap 48 = 48 := rfl
  have w56 : IntKind.i64.wrap 56 = 56 := rfl
  have w40 : IntKind.i64.wrap 40 = 40 := rfl
  have w24 : IntKind.i64.wrap 24 = 24 := rfl
  have w16 : IntKind.i64.wrap 16 = 16 := rfl
  have w8 : IntKind.i64.wrap 8 = 8 := rfl
  have fin : ∀ (r : Int) (q m : Nat), r = (q : Int) → q ≤ 56 → m < 256 → IntKind.i64.wrap (r + IntKind.i64.wrap ((lenN m : Nat) : Int)) = ((q + lenN m : Nat) : Int) := fun r q m h0 hr hm => by
    have := (lenN_le m 8).2 hm
    rw [wrap64_in (lenN m : Int) (by omega) (by omega), wrap64_in _ (by omega) (by omega)]
    omega
  refine Does.of_awp (hint := (fun _ => false)) Try.func67 (by kernel_rfl) rfl [2] (by kernel_rfl) (by decide) (by simp [Try.ntmps67]) ?_
  rw [Try.ntmps67]
  simp (implicitDefEqProofs := false) only [↓reduceIte, go_sem, oread, owrite, Nat.reduceAdd, Nat.reduceSub, Nat.reduceMul, Nat.reduceLT, Nat.reduceLeDiff, Nat.reduceEqDiff, Nat.reduceBEq, Int.reduceLE, Int.reduceLT, Int.reduceEq, Int.reduceNe, Int.reduceAdd, Int.reduceSub, Int.reduceMul, Int.reduceNeg, Int.reduceToNat, Int.reduceNatCast, reduceCtorEq, eq_self]
  by_cases h : (4294967296 : Int) ≤ (n : Int)
  all_goals first
    | (have e1 := (len_small n).1 (by omega)
       simp (implicitDefEqProofs := false) only [↓reduceIte, go_sem, oread, owrite, Nat.reduceAdd, Nat.reduceSub, Nat.reduceMul, Nat.reduceLT, Nat.reduceLeDiff, Nat.reduceEqDiff, Nat.reduceBEq, Int.reduceLE, Int.reduceLT, Int.reduceEq, Int.reduceNe, Int.reduceAdd, Int.reduceSub, Int.reduceMul, Int.reduceNeg, Int.reduceToNat, Int.reduceNatCast, reduceCtorEq, eq_self, h, s32]
       have hn1 : n / 4294967296 < 4294967296 := by omega
       generalize n / 4294967296 = n1 at e1 hn1 ⊢)
    | (simp (implicitDefEqProofs := false) only [↓reduceIte, go_sem, oread, owrite, Nat.reduceAdd, Nat.reduceSub, Nat.reduceMul, Nat.reduceLT, Nat.reduceLeDiff, Nat.reduceEqDiff, Nat.reduceBEq, Int.reduceLE, Int.reduceLT, Int.reduceEq, Int.reduceNe, Int.reduceAdd, Int.reduceSub, Int.reduceMul, Int.reduceNeg, Int.reduceToNat, Int.reduceNatCast, reduceCtorEq, eq_self, h]
       obtain ⟨n1, g1⟩ : ∃ n1, n1 = n := ⟨_, rfl⟩
       have hn1 : n1 < 4294967296 := by omega
       have e1 : lenN n = 0 + lenN n1 := by rw [g1]; omega
       rw [← g1])
  all_goals
    by_cases h2 : (65536 : Int) ≤ (n1 : Int)
    all_goals first
      | (have e2 := (len_small n1).2.1 (by omega)
         simp (implicitDefEqProofs := false) only [↓reduceIte, go_sem, oread, owrite, Nat.reduceAdd, Nat.reduceSub, Nat.reduceMul, Nat.reduceLT, Nat.reduceLeDiff, Nat.reduceEqDiff, Nat.reduceBEq, Int.reduceLE, Int.reduceLT, Int.reduceEq, Int.reduceNe, Int.reduceAdd, Int.reduceSub, Int.reduceMul, Int.reduceNeg, Int.reduceToNat, Int.reduceNatCast, reduceCtorEq, eq_self, h2, s16, w48]
         have hn2 : n1 / 65536 < 65536 := by omega
         generalize n1 / 65536 = n2 at e2 hn2 ⊢)
      | (simp (implicitDefEqProofs := false) only [↓reduceIte, go_sem, oread, owrite, Nat.reduceAdd, Nat.reduceSub, Nat.reduceMul, Nat.reduceLT, Nat.reduceLeDiff, Nat.reduceEqDiff, Nat.reduceBEq, Int.reduceLE, Int.reduceLT, Int.reduceEq, Int.reduceNe, Int.reduceAdd, Int.reduceSub, Int.reduceMul, Int.reduceNeg, Int.reduceToNat, Int.reduceNatCast, reduceCtorEq, eq_self, h2]
         obtain ⟨n2, g2⟩ : ∃ n2, n2 = n1 := ⟨_, rfl⟩
         have hn2 : n2 < 65536 := by omega
         have e2 : lenN n1 = 0 + lenN n2 := by rw [g2]; omega
         rw [← g2])
    all_goals
      by_cases h3 : (256 : Int) ≤ (n2 : Int)
      all_goals first
        | (have e3 := (len_small n2).2.2 (by omega)
           simp (implicitDefEqProofs := false) only [↓reduceIte, go_sem, oread, owrite, Nat.reduceAdd, Nat.reduceSub, Nat.reduceMul, Nat.reduceLT, Nat.reduceLeDiff, Nat.reduceEqDiff, Nat.reduceBEq, Int.reduceLE, Int.reduceLT, Int.reduceEq, Int.reduceNe, Int.reduceAdd, Int.reduceSub, Int.reduceMul, Int.reduceNeg, Int.reduceToNat, Int.reduceNatCast, reduceCtorEq, eq_self, h3, s8, w48, w56, w40, w24, w16, w8]
           have hn3 : n2 / 256 < 256 := by omega
           generalize n2 / 256 = n3 at e3 hn3 ⊢)
        | (simp (implicitDefEqProofs := false) only [↓reduceIte, go_sem, oread, owrite, Nat.reduceAdd, Nat.reduceSub, Nat.reduceMul, Nat.reduceLT, Nat.reduceLeDiff, Nat.reduceEqDiff, Nat.reduceBEq, Int.reduceLE, Int.reduceLT, Int.reduceEq, Int.reduceNe, Int.reduceAdd, Int.reduceSub, Int.reduceMul, Int.reduceNeg, Int.reduceToNat, Int.reduceNatCast, reduceCtorEq, eq_self, h3]
           obtain ⟨n3, g3⟩ : ∃ n3, n3 = n2 := ⟨_, rfl⟩
           have hn3 : n3 < 256 := by omega
           have e3 : lenN n2 = 0 + lenN n3 := by rw [g3]; omega
           rw [← g3])
      all_goals
        simp (implicitDefEqProofs := false) only [↓reduceIte, go_sem, oread, owrite, Nat.reduceAdd, Nat.reduceSub, Nat.reduceMul, Nat.reduceLT, Nat.reduceLeDiff, Nat.reduceEqDiff, Nat.reduceBEq, Int.reduceLE, Int.reduceLT, Int.reduceEq, Int.reduceNe, Int.reduceAdd, Int.reduceSub, Int.reduceMul, Int.reduceNeg, Int.reduceToNat, Int.reduceNatCast, reduceCtorEq, eq_self, wrap8N n3 hn3]
        rw [lenTab n3 hn3 _ (by kernel_rfl)]
        simp (implicitDefEqProofs := false) only [↓reduceIte, go_sem, oread, owrite, Nat.reduceAdd, Nat.reduceSub, Nat.reduceMul, Nat.reduceLT, Nat.reduceLeDiff, Nat.reduceEqDiff, Nat.reduceBEq, Int.reduceLE, Int.reduceLT, Int.reduceEq, Int.reduceNe, Int.reduceAdd, Int.reduceSub, Int.reduceMul, Int.reduceNeg, Int.reduceToNat, Int.reduceNatCast, reduceCtorEq, eq_self, ofNat_len hn3]
        refine AEnd.ret0 ?_
        have f0 := fin 0 0 n3 rfl (by decide) hn3
        have f8 := fin 8 8 n3 rfl (by decide) hn3
        have f16 := fin 16 16 n3 rfl (by decide) hn3
        have f24 := fin 24 24 n3 rfl (by decide) hn3
        have f32 := fin 32 32 n3 rfl (by decide) hn3
        have f40 := fin 40 40 n3 rfl (by decide) hn3
        have f48 := fin 48 48 n3 rfl (by decide) hn3
        have f56 := fin 56 56 n3 rfl (by decide) hn3
        simp (implicitDefEqProofs := false) only [↓reduceIte, go_sem, oread, owrite, Nat.reduceAdd, Nat.reduceSub, Nat.reduceMul, Nat.reduceLT, Nat.reduceLeDiff, Nat.reduceEqDiff, Nat.reduceBEq, Int.reduceLE, Int.reduceLT, Int.reduceEq, Int.reduceNe, Int.reduceAdd, Int.reduceSub, Int.reduceMul, Int.reduceNeg, Int.reduceToNat, Int.reduceNatCast, reduceCtorEq, eq_self, w16, w8, w24, w40, w48, w56, f0, f8, f16, f24, f32, f40, f48, f56]
        all_goals
          refine congrArg (fun m : Nat => iA m) ?_
          first | omega | (simp only [e1, e2, e3]; omega)
end Go.Proofs.Ytkapgooedfompaa
namespace Go.Proofs.YtkapgooedfompaaAw
open Go.RowKit
set_option linter.unusedVariables false
theorem CallsV.mono {P : Program} {f : FuncId} {vals : Array Value} {w : World} {R R' : Ending → World → Prop} (h : CallsV P f vals w R) (hR : ∀ e w', R e w' → R' e w') : CallsV P f vals w R' := by
  rcases h with ⟨h1, h2⟩ | ⟨v, w', h1, h2⟩
  · exact .inl ⟨h1, h2.mono hR⟩
  · exact .inr ⟨v, w', h1, hR _ _ h2⟩
def sOne (r : AV) : Nat → AV := fun t => if t = 0 then r else .top
/-- A result may be weakened: forgotten, frozen. -/
theorem Does.weak {P : Program} {f : FuncId} {args : List AV} {H H1 H2 : AHeap} {r : AV} {s' : Nat → AV} (h : Does P f args H (.ok r) H1) (hW : Weak H (sOne r) H1 s' H2) : Does P f args H (.ok (s' 0)) H2 := by
  intro φ N w vals hR hA
  refine (h φ N w vals hR hA).mono ?_
  rintro e w' ⟨φ1, N1, hR1, hS1, hE⟩
  cases e with
  | returned v =>
    have hI : Inv H φ N w 1 [] (sOne r) H1 φ1 N1 { tmps := #[v], defers := [] } w' := by
      refine ⟨hR1, fun t => ?_, hS1, rfl, rfl⟩
      unfold sOne
      by_cases ht : t = 0
      · subst ht; exact hE
      · rw [if_neg ht]; exact .top _
    obtain ⟨φ2, N2, hI2⟩ := hW.ok hR hI
    exact ⟨φ2, N2, hI2.rel, hI2.since, hI2.tmps 0⟩
  | panicked _ => exact hE.elim
  | outgrown => exact hE.elim
theorem Does.drop {P : Program} {f : FuncId} {args : List AV} {H T : AHeap} {r : AV} (h : Does P f args H (.ok r) (H ++ T)) : Does P f args H (.ok (frz (H ++ T) H.length r)) H := h.weak (Weak.drop H T _)
theorem frz_new (H : AHeap) (e : TypeId) (k v n : Nat) (es : List (List D)) (h : es.length = n) : frz (H ++ [.arr e k v es]) H.length (.sl H.length v 0 n) = .d (.list false es) := by
  rw [frz_sl, frz0_sl, if_neg (Nat.lt_irrefl _), get_snoc_self]
  simp only [if_true, List.drop_zero]
  rw [take_len _ _ h]
/-- A new array that is left may be taken for a list that never changes. -/
theorem Does.list {P : Program} {f : FuncId} {args : List AV} {H : AHeap} {e : TypeId} {k v n : Nat} {es : List (List D)} (h : Does P f args H (.ok (.sl H.length v 0 n)) (H ++ [.arr e k v es])) (hn : es.length = n) : Does P f args H (.ok (.d (.list false es))) H := by
  have := h.drop
  rwa [frz_new _ _ _ _ _ _ hn] at this
theorem AEnd.ret' {rs : List Tmp} {H H' T : AHeap} {s : Nat → AV} {r : AV} (e : H' = H ++ T) (h : r = ares rs fun t => frz H' H.length (s t)) : AEnd rs H (.ok r) H .ret s H' := by subst e; exact AEnd.ret h
theorem Does.imp {P : Program} {f : FuncId} {args : List AV} {H H' : AHeap} {r r' : AV} (h : Does P f args H (.ok r) H') (hr : ∀ φ N w v, RA H' φ N w r v → RA H' φ N w r' v) : Does P f args H (.ok r') H' := by
  have := h.weak (s' := sOne r') (.imp _ _ _ fun φ N w u v hv => ?_)
  · exact this
  · unfold sOne at hv ⊢
    by_cases hu : u = 0
    · rw [if_pos hu] at hv ⊢; exact hr _ _ _ _ hv
    · rw [if_neg hu] at hv ⊢; exact hv
theorem RA.tupSub {H : AHeap} {φ : Phi} {N : Addr → Prop} {w : World} {cs cs' : List AV} {v : Value} (hs : SubL cs cs') (h : RA H φ N w (.tup cs) v) : RA H φ N w (.tup cs') v := by
  cases h with
  | tup cs vs hl hh => exact .tup _ vs (hs.len.symm.trans hl) fun i h1 h2 => hs.ra i (by rw [hs.len]; exact h1) h1 (hh i (by rw [hs.len]; exact h1) h2)
theorem Does.sub1 {P : Program} {f : FuncId} {args : List AV} {H H' : AHeap} {r r' : AV} (h : Does P f args H (.ok r) H') (hs : Sub r r') : Does P f args H (.ok r') H' := h.imp fun _ _ _ _ hv => hs.ra hv
theorem Does.subT {P : Program} {f : FuncId} {args : List AV} {H H' : AHeap} {cs cs' : List AV} (h : Does P f args H (.ok (.tup cs)) H') (hs : SubL cs cs') : Does P f args H (.ok (.tup cs')) H' := h.imp fun _ _ _ _ hv => hv.tupSub hs
/-- An empty list is nil, or it is not. -/
theorem RA.empty {H : AHeap} {φ : Phi} {N : Addr → Prop} {w : World} {v : Value} (h : RA H φ N w (.d (.list false [])) v) : RA H φ N w (.d (.v (.slice none 0 0))) v ∨ RA H φ N w (.d (.list true [])) v := by
  cases h with
  | d h =>
    cases h with
    | nil A c hA =>
      cases A with
      | none => rw [hA rfl]; exact .inl (.d (.v _ rfl))
      | some ad => exact .inr (.d (RD.list true [] ad c 0 (fun _ _ => undef) (Nat.zero_le _) (fun e he => by simp at he) (fun i j hi => by simp at hi) (fun i hi => by simp at hi)))
    | list _ _ ad cap k c hc hk hh hd => exact .inr (.d (RD.list true [] ad cap k c hc hk hh hd))
theorem Does.splitNil {P : Program} {f : FuncId} {H H' : AHeap} {res : ARes} (pre post : List AV) (h1 : Does P f (pre ++ .d (.v (.slice none 0 0)) :: post) H res H') (h2 : Does P f (pre ++ .d (.list true []) :: post) H res H') : Does P f (pre ++ .d (.list false []) :: post) H res H' := by
  intro φ N w vals hR hA
  have hlt : pre.length < vals.size := by rw [← hA.1]; simp
  have h0 := hA.2 pre.length (by simp) hlt
  simp only [List.getElem_append_right (Nat.le_refl _), Nat.sub_self, List.getElem_cons_zero] at h0
  have go : ∀ x, RA H φ N w x (vals[pre.length]) → RAs H φ N w (pre ++ x :: post) vals := fun x hx => by
    refine ⟨by rw [← hA.1]; simp, fun i g1 g2 => ?_⟩
    have h3 := hA.2 i (by simpa using g1) g2
    by_cases hi : i = pre.length
    · subst hi
      simp only [List.getElem_append_right (Nat.le_refl _), Nat.sub_self, List.getElem_cons_zero]
      exact hx
    · rcases Nat.lt_or_ge i pre.length with hlt2 | hge
      · rw [List.getElem_append_left hlt2] at h3 ⊢; exact h3
      · rw [List.getElem_append_right hge] at h3 ⊢
        obtain ⟨j, hj⟩ : ∃ j, i - pre.length = j + 1 := ⟨i - pre.length - 1, by omega⟩
        simp only [hj, List.getElem_cons_succ] at h3 ⊢
        exact h3
  rcases RA.empty h0 with h | h
  · exact h1 φ N w vals hR (go _ h)
  · exact h2 φ N w vals hR (go _ h)
theorem nilEq_run {P : Program} (d : Nat) (t e : TypeId) (h : P.underlying t = some (.slice e)) (w : World) : (Op.equalIn (d + 1) t (.slice none 0 0) (.slice none 0 0)).run P w = .ok true w := by simp [Op.equalIn, run_underlying h]
theorem nilEq_pure {P : Program} {t e : TypeId} (hu : P.underlying t = some (.slice e)) : PureBin P .eql t (.slice none 0 0) (.slice none 0 0) (.bool true) := fun x y w => by
  have hg : (eqGuard .eql t x y (.slice none 0 0) (.slice none 0 0)).run P w = .ok () w := by simp [eqGuard]
  have he : (Op.equal t (.slice none 0 0) (.slice none 0 0)).run P w = .ok true w := nilEq_run 9999 t e hu w
  rw [Sem.run_bind, hg]
  simp only [Result.andThen_ok, Go.binOp]
  simp [he]
/-- Nil held against nil. -/
theorem nilEq_bin {P : Program} {t e : TypeId} (hu : P.underlying t = some (.slice e)) (K : Value → Prop) : binK P .eql t (.slice none 0 0) (.slice none 0 0) K = K (.bool true) := by
  have h := nilEq_pure hu
  have : binK P .eql t (.slice none 0 0) (.slice none 0 0) K = ∃ r, PureBin P .eql t (.slice none 0 0) (.slice none 0 0) r ∧ K r := by unfold binK; rfl
  rw [this]
  exact propext ⟨fun ⟨r', h', k⟩ => by rw [h.inj h']; exact k, fun k => ⟨_, h, k⟩⟩
/-! ### A cut between two parts -/
def KMid (I : (Nat → AV) → AHeap → Prop) : Post := fun e s H => match e with | .normal => I s H | _ => False
theorem KMid_normal (I : (Nat → AV) → AHeap → Prop) (s : Nat → AV) (H : AHeap) : KMid I .normal s H = I s H := rfl
attribute [go_sem] KMid_normal
section
variable {P : Program} {hint : Nat → Bool} {n : Nat} {H0 : AHeap} {Q : Post} {s : Nat → AV} {H : AHeap}
theorem awp_cut {x y : Code} (I : (Nat → AV) → AHeap → Prop) (hh : hintAt hint y = false) (h1 : awp P hint n H0 x (KMid I) s H) (h2 : ∀ s H, I s H → awp P hint n H0 y Q s H) : awp P hint n H0 x (KSeq P hint n H0 y Q) s H := by
  refine awp_mono x (fun e s H h => ?_) s H h1
  cases e with
  | normal => rw [KSeq_normal, hh, aite_false]; exact h2 s H h
  | _ => exact h.elim
theorem acond_cut {x x' y : Code} {b : Bool} (I : (Nat → AV) → AHeap → Prop) (hh : hintAt hint y = false) (h1 : acond (some b) (awp P hint n H0 x (KMid I) s H) (awp P hint n H0 x' (KMid I) s H)) (h2 : ∀ s H, I s H → awp P hint n H0 y Q s H) :
    acond (some b) (awp P hint n H0 x (KSeq P hint n H0 y Q) s H) (awp P hint n H0 x' (KSeq P hint n H0 y Q) s H) := by
  cases b
  · exact awp_cut I hh h1 h2
  · exact awp_cut I hh h1 h2
theorem awp_cutB {x y : Code} {b : Nat} (I : (Nat → AV) → AHeap → Prop) (hh : hintAt hint y = false) (h1 : awp P hint n H0 x (KBlock b (KMid I)) s H) (h2 : ∀ s H, I s H → awp P hint n H0 y Q s H) : awp P hint n H0 x (KBlock b (KSeq P hint n H0 y Q)) s H := by
  refine awp_mono x (fun e s H h => ?_) s H h1
  cases e with
  | normal => show KSeq P hint n H0 y Q .normal s H; rw [KSeq_normal, hh, aite_false]; exact h2 s H h
  | exit i =>
    rw [KBlock_exit] at h ⊢
    by_cases hi : i = b
    · rw [if_pos hi] at h ⊢; rw [KSeq_normal, hh, aite_false]; exact h2 s H h
    · rw [if_neg hi] at h; exact h.elim
  | _ => exact h.elim
end
end Go.Proofs.YtkapgooedfompaaAw
namespace Go.Proofs.Ytkapgooedfompaa
open Go.Proofs.YtkapgooedfompaaAw Go.RowKit
set_option linter.unusedVariables false
def us (l : List Nat) : List (List D) := l.map fun (n : Nat) => [.v (.int .u64 (n : Int))]
def bys (l : List Nat) : List (List D) := l.map fun (n : Nat) => [.v (.int .u8 (n : Int))]
theorem us_len (l : List Nat) : (us l).length = l.length := by simp [us]
theorem bys_len (l : List Nat) : (bys l).length = l.length := by simp [bys]
theorem us_nil : us [] = [] := rfl
theorem bys_nil : bys [] = [] := rfl
theorem us_get (l : List Nat) (k : Nat) (h : k < l.length) : (us l)[k]? = some [.v (.int .u64 (l[k] : Int))] := by simp [us, h]
theorem bys_get (l : List Nat) (k : Nat) (h : k < l.length) : (bys l)[k]? = some [.v (.int .u8 (l[k] : Int))] := by simp [bys, h]
theorem us_snoc (l : List Nat) (n : Nat) : us l ++ [[.v (.int .u64 (n : Int))]] = us (l ++ [n]) := by simp [us]
theorem bys_snoc (l : List Nat) (n : Nat) : bys l ++ [[.v (.int .u8 (n : Int))]] = bys (l ++ [n]) := by simp [bys]
theorem bys_app (l m : List Nat) : bys l ++ bys m = bys (l ++ m) := by simp [bys]
theorem bys_set (l : List Nat) (k n : Nat) : (bys l).set k [.v (.int .u8 (n : Int))] = bys (l.set k n) := by simp [bys, List.map_set]
theorem bys_one (l : List Nat) : (∀ c ∈ bys l, c.length = 1) = True := eq_true fun c hc => by obtain ⟨x, _, rfl⟩ := List.mem_map.1 hc; rfl
theorem us_one (l : List Nat) : (∀ c ∈ us l, c.length = 1) = True := eq_true fun c hc => by obtain ⟨x, _, rfl⟩ := List.mem_map.1 hc; rfl
end Go.Proofs.Ytkapgooedfompaa

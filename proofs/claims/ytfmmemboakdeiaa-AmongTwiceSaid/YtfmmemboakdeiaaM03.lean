/- Regions that draw their order: in the order of their text is enough, where operations leave the heap alone. Words for the program's data. Structs held against structs. The program's structs held against each other. Values, atoms: the program's data as Lean's. cmp.Compare, flt.Compare, val.Compare: what they do. Functions of which a result lies in memory. The empty text. pred.Holds, pred.All: what they do. The document's Compare (layers 4 and 5): what it does: the same as val.Compare. An owned array that is handed on: from then on it never changes. -/
import Derived.Laws.StructEq
import Derived.Laws.Externs
import Derived.Laws.Bits64b
import Derived.Laws.Bits64
import Derived.Test.YtfmmemboakdeiaaM02
namespace Go.Proofs.YtfmmemboakdeiaaAw
open Go.RowKit
set_option linter.unusedVariables false
set_option linter.unusedSimpArgs false
/-! ### What an operation comes to is one thing; and it reads its operands alone -/
section
variable {P : Program} {hint : Nat → Bool} {s s' : Nat → AV} {H : AHeap}
theorem binK_det {op : BinOp} {t : TypeId} {u v : Value} {K : Value → Prop} (h : binK P op t u v K) : ∃ r, K r ∧ ∀ K', K' r → binK P op t u v K' := by
  unfold binK at h ⊢
  repeat' (split at h)
  all_goals first | exact h.elim | exact ⟨_, h, fun K' g => g⟩ | exact ⟨_, h.2, fun K' g => ⟨h.1, g⟩⟩ | exact ⟨_, h.2.2, fun K' g => ⟨h.1, h.2.1, g⟩⟩ | (obtain ⟨r, h1, h2⟩ := h; first | exact ⟨r, h2, fun K' g => ⟨r, h1, g⟩⟩ | exact ⟨r, h2, fun K' g => by simp_all; exact ⟨r, h1, g⟩⟩)
theorem unK_det {op : UnOp} {u : Value} {K : Value → Prop} (h : unK op u K) : ∃ r, K r ∧ ∀ K', K' r → unK op u K' := by
  cases op <;> cases u <;> first | exact h.elim | exact ⟨_, h, fun K' g => g⟩ | exact ⟨_, h.2, fun K' g => ⟨h.1, g⟩⟩
theorem abuiltin_det {b : Builtin} {args : List Operand} {tys : List TypeId} {K : AV → AHeap → Prop} (h : abuiltin P s H b args tys K) : ∃ r H', K r H' ∧ ∀ K', K' r H' → abuiltin P s H b args tys K' := by
  unfold abuiltin at h ⊢
  repeat' (split at h)
  all_goals first | exact h.elim | (exact (show False from by first | exact h.2 | exact h.2.2 | exact h.2.2.2 | exact h.2.2.2.2).elim) | exact ⟨_, _, h, fun K' g => g⟩ | exact ⟨_, _, h.2, fun K' g => ⟨h.1, g⟩⟩ | exact ⟨_, _, h.2.2, fun K' g => ⟨h.1, h.2.1, g⟩⟩ | exact ⟨_, _, h.2.2.2, fun K' g => ⟨h.1, h.2.1, h.2.2.1, g⟩⟩ | exact ⟨_, _, h.2.2.2.2.2, fun K' g => ⟨h.1, h.2.1, h.2.2.1, h.2.2.2.1, h.2.2.2.2.1, g⟩⟩ | exact ⟨_, _, h.2.2.2.2.2.2, fun K' g => ⟨h.1, h.2.1, h.2.2.1, h.2.2.2.1, h.2.2.2.2.1, h.2.2.2.2.2.1, g⟩⟩
theorem aslice_det {k : Nat} {lo : Option Int} {hi : Nat → Option Int} {x : AV} {K : AV → AHeap → Prop} (h : aslice H k lo hi K x) : ∃ r H', K r H' ∧ ∀ K', K' r H' → aslice H k lo hi K' x := by
  cases x with
  | d u =>
    cases u with
    | v _ => exact h.elim
    | list nn es =>
      simp only [aslice] at h ⊢
      obtain ⟨h0, h⟩ := h
      cases lo with
      | none => exact h.elim
      | some l =>
        cases hq : hi es.length with
        | none => rw [hq] at h; exact h.elim
        | some m => rw [hq] at h; exact ⟨_, _, h.2.2.2, fun K' g => ⟨h0, h.1, h.2.1, h.2.2.1, g⟩⟩
  | sl id ver off len =>
    simp only [aslice] at h ⊢
    cases ho : H[id]? with
    | none => rw [ho] at h; exact h.elim
    | some o =>
      rw [ho] at h
      cases lo with
      | none => exact h.elim
      | some l =>
        cases hq : hi len with
        | none => rw [hq] at h; exact h.elim
        | some m => rw [hq] at h; exact ⟨_, _, h.2.2.2.2.2, fun K' g => ⟨h.1, h.2.1, h.2.2.1, h.2.2.2.1, h.2.2.2.2.1, g⟩⟩
  | _ => exact h.elim
theorem aslice3_det {k : Nat} {lo hi mx : Option Int} {x : AV} {K : AV → AHeap → Prop} (h : aslice3 H k lo hi mx K x) : ∃ r H', K r H' ∧ ∀ K', K' r H' → aslice3 H k lo hi mx K' x := by
  cases x with
  | d u =>
    cases u with
    | v _ => exact h.elim
    | list nn es => cases lo <;> cases hi <;> cases mx <;> first | exact h.2.elim | exact ⟨_, _, h.2.2.2.2.2, fun K' g => ⟨h.1, h.2.1, h.2.2.1, h.2.2.2.1, h.2.2.2.2.1, g⟩⟩
  | _ => exact h.elim
theorem aassert_det {t : TypeId} {ok : Bool} {v : Option Value} {K : AV → AHeap → Prop} (h : aassert P t ok H K v) : ∃ r H', K r H' ∧ ∀ K', K' r H' → aassert P t ok H K' v := by
  unfold aassert at h ⊢
  cases e : assertR P t ok v with
  | none => rw [e] at h; exact h.2.elim
  | some r => rw [e] at h; exact ⟨_, _, h.2, fun K' g => ⟨h.1, g⟩⟩
theorem aop_det {hi : Bool} {op : Op} {K : AV → AHeap → Prop} (h : aop P s H hi op K) : ∃ r H', K r H' ∧ ∀ K', K' r H' → aop P s H hi op K' := by
  unfold aop at h ⊢
  repeat' (split at h)
  all_goals first | exact h.elim | (exact (show False from by first | exact h.2 | exact h.2.2 | exact h.2.2.2 | exact h.2.2.2.2).elim) | exact ⟨_, _, h, fun K' g => g⟩ | exact ⟨_, _, h.2, fun K' g => ⟨h.1, g⟩⟩ | exact ⟨_, _, h.2.2, fun K' g => ⟨h.1, h.2.1, g⟩⟩ | exact ⟨_, _, h.2.2.2, fun K' g => ⟨h.1, h.2.1, h.2.2.1, g⟩⟩ | exact ⟨_, _, h.2.2.2.2.2.2, fun K' g => ⟨h.1, h.2.1, h.2.2.1, h.2.2.2.1, h.2.2.2.2.1, h.2.2.2.2.2.1, g⟩⟩ | exact ⟨_, _, h.2.2.2.2, fun K' g => ⟨h.1, h.2.1, h.2.2.1, h.2.2.2.1, g⟩⟩ | exact abuiltin_det h |
    (obtain ⟨r, h1, h2⟩ := binK_det h; exact ⟨_, _, h1, fun K' g => h2 _ g⟩) | (obtain ⟨r, h1, h2⟩ := unK_det h; exact ⟨_, _, h1, fun K' g => h2 _ g⟩) | exact aslice_det h | exact aslice3_det h | exact aassert_det h | skip
  all_goals first | (exfalso; simp_all; done) | exact ⟨_, _, h, fun K' g => by rw [if_pos (by assumption)]; exact g⟩ | exact ⟨_, _, h, fun K' g => by rw [if_neg (by assumption)]; exact g⟩ | exact ⟨_, _, h.2, fun K' g => by rw [if_pos (by assumption)]; exact ⟨h.1, g⟩⟩ | exact ⟨_, _, h.2, fun K' g => ⟨h.1, by first | (rw [if_pos (by assumption)]; exact g) | (rw [if_neg (by assumption)]; exact g)⟩⟩ |
    exact ⟨_, _, h.2, fun K' g => by rw [if_neg (by assumption)]; exact ⟨h.1, by first | (rw [if_pos (by assumption)]; exact g) | (rw [if_neg (by assumption)]; exact g)⟩⟩ | trace_state
theorem astep_det {o : Oper} {K : AV → AHeap → Prop} (h : astep P hint s H o K (fun _ _ => False)) : ∃ r H', K r H' ∧ ∀ K' KP', K' r H' → astep P hint s H o K' KP' := by
  unfold astep at h ⊢
  split at h
  · split at h <;> exact h.elim
  · split at h
    · split at h
      · obtain ⟨res, H', hd, h⟩ := h
        cases res with
        | ok r => exact ⟨r, H', h, fun K' KP' g => ⟨.ok r, H', hd, g⟩⟩
        | panic v => exact h.elim
      · exact h.elim
    · obtain ⟨r, H', h1, h2⟩ := abuiltin_det h
      exact ⟨r, H', h1, fun K' KP' g => h2 _ g⟩
    · exact h.elim
  · obtain ⟨r, H', h1, h2⟩ := aop_det h
    exact ⟨r, H', h1, fun K' KP' g => h2 _ g⟩
theorem aeval_congr {x : Operand} (h : ∀ t, x = .tmp t → s t = s' t) : aeval s x = aeval s' x := by
  cases x with
  | tmp t => exact h t rfl
  | _ => rfl
def opTmps (o : Oper) : List Tmp := o.op.operands.toList.filterMap fun | .tmp t => some t | _ => none
theorem opTmps_mem {o : Oper} (h : ∀ t ∈ opTmps o, s t = s' t) (x : Operand) (hx : x ∈ o.op.operands) : aeval s x = aeval s' x :=
  aeval_congr fun t ht => h t (by subst ht; exact List.mem_filterMap.2 ⟨_, Array.mem_toList_iff.2 hx, rfl⟩)
theorem aparts_congr {parts : Array (Nat × Operand)} (h : ∀ p ∈ parts.toList, aeval s p.2 = aeval s' p.2) : aparts s parts = aparts s' parts := by
  unfold aparts
  exact List.map_congr_left fun p hp => by rw [h p hp]
theorem intArgs_congr {k : IntKind} : ∀ {xs : List Operand}, (∀ x ∈ xs, aeval s x = aeval s' x) → intArgs s k xs = intArgs s' k xs
  | [], _ => rfl
  | x :: xs, h => by
    unfold intArgs
    rw [h x (by simp), intArgs_congr fun y hy => h y (by simp [hy])]
theorem abuiltin_congr {b : Builtin} {args : List Operand} {tys : List TypeId} {K : AV → AHeap → Prop} (h : ∀ x ∈ args, aeval s x = aeval s' x) : abuiltin P s H b args tys K = abuiltin P s' H b args tys K := by
  unfold abuiltin
  split
  · rw [h _ (by simp)]
  · rw [h _ (by simp), h _ (by simp)]
  · rw [h _ (by simp)]
  · rename_i x xs
    rw [h x (by simp)]
    have e : ∀ k, intArgs s k xs = intArgs s' k xs := fun k => intArgs_congr fun y hy => h y (by simp [hy])
    simp only [e]
  · rename_i x xs
    rw [h x (by simp)]
    have e : ∀ k, intArgs s k xs = intArgs s' k xs := fun k => intArgs_congr fun y hy => h y (by simp [hy])
    simp only [e]
  · rfl
theorem aop_congr {hi : Bool} {op : Op} {K : AV → AHeap → Prop} (h : ∀ x ∈ op.operands, aeval s x = aeval s' x) : aop P s H hi op K = aop P s' H hi op K := by
  unfold aop
  split
  all_goals first
    | rfl
    | (have e := aparts_congr (s := s) (s' := s') fun p hp => h p.2 (by simp only [Op.operands, List.mem_toArray, List.mem_map]; exact ⟨p, hp, rfl⟩); simp only [e]; done)
    | exact abuiltin_congr fun x hx => h x (by simp only [Op.operands, Call.operands]; exact Array.mem_append.2 (.inr (Array.mem_toList_iff.1 hx)))
    | (split
       · exact abuiltin_congr fun x hx => h x (by simp only [Op.operands, Call.operands]; exact Array.mem_append.2 (.inr (Array.mem_toList_iff.1 hx)))
       · rfl)
    | (rename_i x lo hi' mx
       have e0 : aeval s x = aeval s' x := h _ (by simp [Op.operands])
       have e2 : sliceLo s (some hi') = sliceLo s' (some hi') := by simp only [sliceLo]; rw [h hi' (by simp [Op.operands])]
       have e3 : sliceLo s (some mx) = sliceLo s' (some mx) := by simp only [sliceLo]; rw [h mx (by simp [Op.operands])]
       have e1 : sliceLo s lo = sliceLo s' lo := by
         cases lo with
         | none => rfl
         | some y => simp only [sliceLo]; rw [h y (by simp [Op.operands])]
       rw [e0, e1, e2, e3]; done)
    | (rename_i x xT t ok; rw [h x (by simp [Op.operands])]; done)
    | (rename_i x lo hi'
       have e0 : aeval s x = aeval s' x := h _ (by simp [Op.operands])
       have e1 : sliceLo s lo = sliceLo s' lo := by
         cases lo with
         | none => rfl
         | some y => simp only [sliceLo]; rw [h y (by simp [Op.operands])]
       have e2 : ∀ n, sliceHi s n hi' = sliceHi s' n hi' := by
         intro n
         cases hi' with
         | none => rfl
         | some y => simp only [sliceHi]; rw [h y (by simp [Op.operands])]
       first | (simp only [e0, e1, e2]; done) | (simp only [e0, e1, funext e2]; done))
    | (simp [Op.operands] at h; simp only [h]; done)
    | (rename_i caps; rw [List.map_congr_left fun x hx => h x (by simp only [Op.operands]; exact Array.mem_append.2 (.inr (Array.mem_toList_iff.1 hx)))]; done)
    | skip
  all_goals
    rename_i x lo hi'
    have e0 : aeval s x = aeval s' x := h _ (by simp [Op.operands])
    have e1 : sliceLo s lo = sliceLo s' lo := by
      cases lo with
      | none => rfl
      | some y => simp only [sliceLo]; rw [h y (by simp [Op.operands])]
    have e2 : ∀ n, sliceHi s n hi' = sliceHi s' n hi' := by
      intro n
      cases hi' with
      | none => rfl
      | some y => simp only [sliceHi]; rw [h y (by simp [Op.operands])]
    simp only [e0, e1, e2, nf_id]
theorem astep_congr {o : Oper} {K : AV → AHeap → Prop} {KP : Value → AHeap → Prop} (h : ∀ t ∈ opTmps o, s t = s' t) : astep P hint s H o K KP = astep P hint s' H o K KP := by
  have h' := opTmps_mem h
  unfold astep
  split
  · rename_i x hx
    rw [h' x (by rw [hx]; simp [Op.operands])]
  · rename_i c hc
    have hm : ∀ x ∈ c.operands, aeval s x = aeval s' x := fun x hx => h' x (by rw [hc]; exact hx)
    split
    · rename_i f hf
      have e1 : aeval s f = aeval s' f := hm f (by simp [Call.operands, hf])
      have e2 : c.args.toList.map (aeval s) = c.args.toList.map (aeval s') := List.map_congr_left fun x hx => hm x (by simp only [Call.operands]; exact Array.mem_append.2 (.inr (Array.mem_toList_iff.1 hx)))
      rw [e1, e2]
    · exact abuiltin_congr fun x hx => hm x (by simp only [Call.operands]; exact Array.mem_append.2 (.inr (Array.mem_toList_iff.1 hx)))
    · rfl
  · exact aop_congr h'
end

/-! ### A region that draws its order, of operations that leave the heap alone -/
def dstAt (ops : Array Oper) (j : Nat) : Option Tmp := (ops[j]?).bind (·.dst)
def bindsOn (o : Oper) (j : Nat) : Bool := o.after.toList.any fun e => Region.binds .any e && e.on == j
/-- Whether i is bound behind j, by way of others too. -/
def reachB (ops : Array Oper) : Nat → Nat → Nat → Bool
  | 0, _, _ => false
  | fuel + 1, i, j => match ops[i]? with
    | none => false
    | some o => bindsOn o j || (List.range i).any fun k => bindsOn o k && reachB ops fuel k j
def pureCheck (ops : Array Oper) : Bool := (List.range ops.size).all fun i => match ops[i]? with
  | none => true
  | some o => (o.after.toList.all fun e => !Region.binds .any e || decide (e.on < i)) && ((opTmps o).all fun t => (List.range ops.size).all fun j => !(dstAt ops j == some t) || (bindsOn o j || (match ops[j]? with | some oj => bindsOn oj i | none => false))) &&
    (match o.guard with | some (j, _) => bindsOn o j | none => true) && ((List.range ops.size).all fun j => j == i || (dstAt ops i).isNone || !(dstAt ops j == dstAt ops i))
structure PureOk (ops : Array Oper) : Prop where
  down : ∀ (i : Nat) (o : Oper), ops[i]? = some o → ∀ e ∈ o.after, Region.binds .any e = true → e.on < i
  reads : ∀ (i : Nat) (o : Oper), ops[i]? = some o → ∀ t ∈ opTmps o, ∀ j, dstAt ops j = some t → bindsOn o j = true ∨ ∃ oj, ops[j]? = some oj ∧ bindsOn oj i = true
  guard : ∀ (i : Nat) (o : Oper), ops[i]? = some o → ∀ j w, o.guard = some (j, w) → bindsOn o j = true
  once : ∀ (i j : Nat) (t : Tmp), dstAt ops i = some t → dstAt ops j = some t → i = j
theorem dstAt_lt {ops : Array Oper} {j : Nat} {t : Tmp} (h : dstAt ops j = some t) : j < ops.size := by
  unfold dstAt at h
  obtain ⟨o, ho, _⟩ := Option.bind_eq_some_iff.1 h
  exact (Array.getElem?_eq_some_iff.1 ho).1
theorem pureCheck_ok {ops : Array Oper} (h : pureCheck ops = true) : PureOk ops := by
  unfold pureCheck at h
  rw [List.all_eq_true] at h
  have key : ∀ i o, ops[i]? = some o → ((o.after.toList.all fun e => !Region.binds .any e || decide (e.on < i)) = true ∧ ((opTmps o).all fun t => (List.range ops.size).all fun j => !(dstAt ops j == some t) || (bindsOn o j || (match ops[j]? with | some oj => bindsOn oj i | none => false))) = true ∧
      (match o.guard with | some (j, _) => bindsOn o j | none => true) = true) ∧ ((List.range ops.size).all fun j => j == i || (dstAt ops i).isNone || !(dstAt ops j == dstAt ops i)) = true := by
    intro i o ho
    have := h i (List.mem_range.2 (Array.getElem?_eq_some_iff.1 ho).1)
    simp only [ho, Bool.and_eq_true] at this
    exact ⟨⟨this.1.1.1, this.1.1.2, this.1.2⟩, this.2⟩
  refine ⟨fun i o ho e he hbe => ?_, fun i o ho t ht j hj => ?_, fun i o ho j w hg => ?_, fun i j t hi hj => ?_⟩
  · have := (key i o ho).1.1
    rw [List.all_eq_true] at this
    simpa [hbe] using this e (Array.mem_toList_iff.2 he)
  · have := (key i o ho).1.2.1
    rw [List.all_eq_true] at this
    have := this t ht
    rw [List.all_eq_true] at this
    have := this j (List.mem_range.2 (dstAt_lt hj))
    have hjl := dstAt_lt hj
    have hoj : ops[j]? = some ops[j] := by simp [hjl]
    rw [hj, hoj] at this
    simp only [beq_self_eq_true, Bool.not_true, Bool.false_or, Bool.or_eq_true] at this
    rcases this with h | h
    · exact .inl h
    · exact .inr ⟨_, hoj, h⟩
  · have := (key i o ho).1.2.2
    simpa [hg] using this
  · obtain ⟨o, ho, _⟩ := Option.bind_eq_some_iff.1 (show (ops[i]?).bind (·.dst) = some t from hi)
    have := (key i o ho).2
    rw [List.all_eq_true] at this
    have := this j (List.mem_range.2 (dstAt_lt hj))
    simp [hi, hj] at this
    exact this.symm
section
variable (P : Program) (hint : Nat → Bool) (n : Nat) (ops : Array Oper)
def StepR (H : AHeap) (s : Nat → AV) (o : Oper) (r : AV) : Prop := match o.guard with
  | none => ∀ K KP, K r H → astep P hint s H o K KP
  | some (j, want) => ∃ b, ayield ops s n j want = some b ∧ if b = true then ∀ K KP, K r H → astep P hint s H o K KP else r = .tup []
/-- The region in the order of its text, where each operation leaves the heap alone. -/
def awpPure (Q : Post) : List Oper → (Nat → AV) → AHeap → Prop
  | [], s, H => Q .normal s H
  | o :: rest, s, H => awpOp P hint n ops (fun _ _ _ => False) o (fun s' H' => H' = H ∧ awpPure Q rest s' H) s H
def stAt (s : Nat → AV) (rs : Nat → AV) : Nat → (Nat → AV)
  | 0 => s
  | k + 1 => aput n (stAt s rs k) (dstAt ops k) (rs k)
end
section
variable (P : Program) (hint : Nat → Bool) (n : Nat) (ops : Array Oper)
def KTail (Q : Post) (l : List Oper) : Post := fun e s H => match e with | .normal => awpList P hint n ops Q l s H | _ => False
def awpPureK (Q : Post) : Nat → List Oper → (Nat → AV) → AHeap → Prop
  | 0, l, s, H => awpList P hint n ops Q l s H
  | _ + 1, [], s, H => awpList P hint n ops Q [] s H
  | m + 1, o :: rest, s, H => awpOp P hint n ops (fun _ _ _ => False) o (fun s' H' => H' = H ∧ awpPureK Q m rest s' H) s H
end
theorem awpPureK_eq {P : Program} {hint : Nat → Bool} {n : Nat} {ops : Array Oper} {Q : Post} : ∀ (m : Nat) (l : List Oper) (s : Nat → AV) (H : AHeap), awpPureK P hint n ops Q m l s H = awpPure P hint n ops (KTail P hint n ops Q (l.drop m)) (l.take m) s H
  | 0, l, s, H => by simp [awpPureK, awpPure, KTail]
  | m + 1, [], s, H => by simp [awpPureK, awpPure, KTail]
  | m + 1, o :: rest, s, H => by
    have e : ∀ s' H, awpPureK P hint n ops Q m rest s' H = _ := fun s' H => awpPureK_eq m rest s' H
    simp only [awpPureK, List.drop_succ_cons, List.take_succ_cons, awpPure, e]
theorem awpPure_mono {P : Program} {hint : Nat → Bool} {n : Nat} {ops : Array Oper} {Q Q' : Post} (hq : ∀ s H, Q .normal s H → Q' .normal s H) : ∀ (l : List Oper) (s : Nat → AV) {H : AHeap}, awpPure P hint n ops Q l s H → awpPure P hint n ops Q' l s H
  | [], s, H, h => hq _ _ h
  | o :: rest, s, H, h => by
    unfold awpPure at h ⊢
    exact awpOp_mono (fun _ _ _ h => h) (fun s' H' h' => ⟨h'.1, awpPure_mono hq rest s' h'.2⟩) h
section
variable {P : Program} {hint : Nat → Bool} {n : Nat} {ops : Array Oper} {H : AHeap} {Q : Post}
theorem StepR.op {s : Nat → AV} {o : Oper} {r : AV} (h : StepR P hint n ops H s o r) {K : (Nat → AV) → AHeap → Prop} (hk : K (aput n s o.dst r) H) : awpOp P hint n ops Q o K s H := by
  unfold StepR at h
  unfold awpOp
  split at h
  · rename_i hg
    simp only [hg]
    exact h (fun r H' => K (aput n s o.dst r) H') _ hk
  · rename_i j want hg
    obtain ⟨b, hb, h⟩ := h
    simp only [hg, hb]
    split at h
    · rw [if_pos (by assumption)]; exact h (fun r H' => K (aput n s o.dst r) H') _ hk
    · rw [if_neg (by assumption)]; rw [h] at hk; exact hk
theorem StepR.congr {s s' : Nat → AV} {o : Oper} {r : AV} (h : StepR P hint n ops H s o r) (h1 : ∀ t ∈ opTmps o, s t = s' t) (h2 : ∀ j w, o.guard = some (j, w) → ∀ d, dstAt ops j = some d → s d = s' d) : StepR P hint n ops H s' o r := by
  unfold StepR at h ⊢
  split at h
  · rename_i hg
    try simp only [hg]
    intro K KP hk
    rw [← astep_congr h1]
    exact h K KP hk
  · rename_i j want hg
    try simp only [hg]
    obtain ⟨b, hb, h⟩ := h
    refine ⟨b, ?_, ?_⟩
    · rw [← hb]
      unfold ayield
      have := h2 j want hg
      unfold dstAt at this
      cases hd : (ops[j]?).bind (·.dst) with
      | none => rfl
      | some d => simp only [this d hd]
    · split at h
      · rw [if_pos (by assumption)]
        intro K KP hk
        rw [← astep_congr h1]
        exact h K KP hk
      · rw [if_neg (by assumption)]; exact h
theorem awpPure_steps (m : Nat) (hm : m ≤ ops.size) (s0 : Nat → AV) (rs0 : Nat → AV) : ∀ (l : List Oper) (k : Nat), l = (ops.toList.take m).drop k → k ≤ m → awpPure P hint n ops Q l (stAt n ops s0 rs0 k) H →
    ∃ rs, (∀ i, i < k → rs i = rs0 i) ∧ (∀ i o, k ≤ i → i < m → ops[i]? = some o → StepR P hint n ops H (stAt n ops s0 rs i) o (rs i)) ∧ Q .normal (stAt n ops s0 rs m) H
  | [], k, hl, hk, h => by
    have : m ≤ k := by have := congrArg List.length hl; simp at this; omega
    have hk' : k = m := by omega
    subst hk'
    exact ⟨rs0, fun _ _ => rfl, fun i o hi hi2 ho => absurd hi2 (by omega), h⟩
  | o :: rest, k, hl, hk, h => by
    have hlt : k < m := by have := congrArg List.length hl; simp at this; omega
    have ho : ops[k]? = some o := by
      have : ((ops.toList.take m).drop k)[0]? = some o := by rw [← hl]; rfl
      simpa [List.getElem?_take, hlt] using this
    have hrest : rest = (ops.toList.take m).drop (k + 1) := by rw [← List.drop_drop]; rw [← hl]; rfl
    have hdst : dstAt ops k = o.dst := by simp [dstAt, ho]
    have step : ∃ r, StepR P hint n ops H (stAt n ops s0 rs0 k) o r ∧ awpPure P hint n ops Q rest (aput n (stAt n ops s0 rs0 k) o.dst r) H := by
      unfold awpPure awpOp at h
      split at h
      · rename_i hg
        obtain ⟨r, H', ⟨rfl, hr⟩, hdet⟩ := astep_det h
        exact ⟨r, by unfold StepR; simp only [hg]; exact fun K KP hk => hdet K KP hk, hr⟩
      · rename_i j want hg
        split at h
        · rename_i b hb
          split at h
          · rename_i hbw
            obtain ⟨r, H', ⟨rfl, hr⟩, hdet⟩ := astep_det h
            exact ⟨r, by unfold StepR; simp only [hg]; exact ⟨b, hb, by rw [if_pos hbw]; exact fun K KP hk => hdet K KP hk⟩, hr⟩
          · rename_i hbw
            exact ⟨.tup [], by unfold StepR; simp only [hg]; exact ⟨b, hb, by simp [hbw]⟩, h.2⟩
        · exact h.elim
    obtain ⟨r, hr, hnext⟩ := step
    let rs1 : Nat → AV := fun i => if i = k then r else rs0 i
    have hst : ∀ i, i ≤ k → stAt n ops s0 rs1 i = stAt n ops s0 rs0 i := by
      intro i
      induction i with
      | zero => intro _; rfl
      | succ i ih =>
        intro hi
        simp only [stAt, ih (by omega)]
        have : rs1 i = rs0 i := by show (if i = k then r else rs0 i) = _; rw [if_neg (by omega)]
        rw [this]
    have hk1 : rs1 k = r := by show (if k = k then r else _) = r; rw [if_pos rfl]
    have h' : awpPure P hint n ops Q rest (stAt n ops s0 rs1 (k + 1)) H := by
      simp only [stAt, hst k (Nat.le_refl _), hk1, hdst]
      exact hnext
    obtain ⟨rs, h1, h2, h3⟩ := awpPure_steps m hm s0 rs1 rest (k + 1) hrest hlt h'
    have hst2 : ∀ i, i ≤ k → stAt n ops s0 rs i = stAt n ops s0 rs0 i := by
      intro i
      induction i with
      | zero => intro _; rfl
      | succ i ih =>
        intro hi
        simp only [stAt, ih (by omega)]
        have e1 : rs i = rs1 i := h1 i (by omega)
        have e2 : rs1 i = rs0 i := by show (if i = k then r else rs0 i) = _; rw [if_neg (by omega)]
        rw [e1, e2]
    refine ⟨rs, fun i hi => ?_, fun i o' hi hi2 ho' => ?_, h3⟩
    · rw [h1 i (by omega)]; show (if i = k then r else rs0 i) = _; rw [if_neg (by omega)]
    · rcases Nat.lt_or_ge k i with hki | hki
      · exact h2 i o' hki hi2 ho'
      · obtain rfl : i = k := by omega
        rw [ho] at ho'
        cases ho'
        rw [hst2 i (Nat.le_refl _), h1 i (by omega), hk1]
        exact hr
theorem countP_lt {p q : Nat → Bool} {i : Nat} (hpq : ∀ j, p j = true → q j = true) (hp : p i = false) (hq : q i = true) : ∀ l : List Nat, i ∈ l → l.countP p < l.countP q
  | [], h => by simp at h
  | x :: l, h => by
    have hle : l.countP p ≤ l.countP q := List.countP_mono_left fun j _ => hpq j
    rw [List.countP_cons, List.countP_cons]
    by_cases hx : i = x
    · subst hx
      simp [hp, hq]; omega
    · have := countP_lt hpq hp hq l (by simpa [hx] using h)
      by_cases hpx : p x = true
      · simp [hpx, hpq x hpx]; omega
      · simp [hpx]; omega
theorem bound_listed {listed : Array Bool} {o : Oper} {j : Nat} (h1 : (o.after.all fun e => !Region.binds .any e || listed.getD e.on false) = true) (h2 : bindsOn o j = true) : listed.getD j false = true := by
  unfold bindsOn at h2
  rw [List.any_eq_true] at h2
  obtain ⟨e, he, h2⟩ := h2
  rw [Array.all_eq_true_iff_forall_mem] at h1
  have := h1 e (Array.mem_toList_iff.1 he)
  simp only [Bool.and_eq_true, beq_iff_eq] at h2
  simpa [h2.1, h2.2] using this
/-- A chain at a region's end: each operation bound behind all before it. -/
theorem awpAny_chain {m0 : Nat} (hc : PureOk ops) (htl : ∀ i o, ops[i]? = some o → m0 < i → bindsOn o (i - 1) = true) : ∀ {fuel : Nat} {listed : Array Bool} {s : Nat → AV} {H : AHeap}, listed.size = ops.size → ∀ m, m0 ≤ m → m ≤ ops.size →
    (∀ i, i < m → listed.getD i true = true) → (∀ i, m ≤ i → i < ops.size → listed.getD i false = false) → awpList P hint n ops Q (ops.toList.drop m) s H → ops.size - m ≤ fuel → awpAny P hint n ops Q fuel listed s H := by
  intro fuel
  induction fuel with
  | zero =>
    intro listed s H hsz m hm0 hm hall hno h hf
    have : m = ops.size := by omega
    subst this
    rw [List.drop_of_length_le (by simp)] at h
    refine ⟨?_, h⟩
    unfold Region.ready
    rw [List.filter_eq_nil_iff]
    intro i hi
    simp only [hall i (List.mem_range.1 hi), Bool.not_true, Bool.false_and, Bool.false_eq_true, not_false_eq_true]
  | succ fuel ih =>
    intro listed s H hsz m hm0 hm hall hno h hf
    rcases Nat.lt_or_ge m ops.size with hlt | hge
    · have hget : ops[m]? = some ops[m] := by simp [hlt]
      have hun : listed.getD m true = false := by
        have := hno m (Nat.le_refl _) hlt
        simpa [Array.getD, show m < listed.size by omega] using this
      have hd : ops.toList.drop m = ops[m] :: ops.toList.drop (m + 1) := by
        rw [List.drop_eq_getElem_cons (by simpa using hlt)]; simp
      rw [hd] at h
      refine ⟨fun hr => ?_, fun i hi => ?_⟩
      · exfalso
        have : m ∈ Region.ready .any ops listed := by
          unfold Region.ready
          rw [List.mem_filter]
          refine ⟨List.mem_range.2 hlt, ?_⟩
          simp only [hun, hget, Bool.not_false, Bool.true_and, Option.map_some, Option.getD_some]
          rw [Array.all_eq_true_iff_forall_mem]
          intro e he
          cases hbe : Region.binds .any e
          · simp
          have hl := hc.down m _ hget e he hbe
          have := hall e.on hl
          have : listed.getD e.on false = true := by simpa [Array.getD, show e.on < listed.size by omega] using this
          simp [this]
        rw [hr] at this
        simp at this
      · unfold Region.ready at hi
        rw [List.mem_filter] at hi
        obtain ⟨hi, hrd⟩ := hi
        have hi := List.mem_range.1 hi
        have hgeti : ops[i]? = some ops[i] := by simp [hi]
        simp only [hgeti, Option.map_some, Option.getD_some, Bool.and_eq_true, Bool.not_eq_true'] at hrd
        obtain ⟨hu, haft⟩ := hrd
        have him : i = m := by
          rcases Nat.lt_trichotomy i m with h1 | h1 | h1
          · rw [hall i h1] at hu; cases hu
          · exact h1
          · have := bound_listed haft (htl i _ hgeti (by omega))
            rw [hno (i - 1) (by omega) (by omega)] at this
            cases this
        subst him
        simp only [hget]
        have hset : ∀ j b, (listed.setIfInBounds i true).getD j b = if j = i then true else listed.getD j b := by
          intro j b
          simp only [Array.getD_eq_getD_getElem?, Array.getElem?_setIfInBounds]
          by_cases e : i = j
          · subst e; simp [hsz, hi]
          · rw [if_neg e, if_neg (Ne.symm e)]
        refine awpOp_mono (fun _ _ _ h => h) (fun s' H' h' => ?_) h
        refine ih (by simpa using hsz) (i + 1) (by omega) hi (fun j hj => ?_) (fun j hj hj2 => ?_) h' (by omega)
        · rw [hset]
          by_cases e : j = i
          · rw [if_pos e]
          · rw [if_neg e]; exact hall j (by omega)
        · rw [hset, if_neg (by omega)]
          exact hno j (by omega) hj2
    · have : m = ops.size := by omega
      subst this
      rw [List.drop_of_length_le (by simp)] at h
      refine ⟨fun _ => h, fun i hi => ?_⟩
      unfold Region.ready at hi
      rw [List.mem_filter] at hi
      obtain ⟨hi, hrd⟩ := hi
      rw [hall i (List.mem_range.1 hi)] at hrd
      simp at hrd
theorem reachB_listed {listed : Array Bool} (hcl : ∀ j oj i, ops[j]? = some oj → listed.getD j false = true → bindsOn oj i = true → listed.getD i false = true) : ∀ (fuel : Nat) (i : Nat) (o : Oper), ops[i]? = some o →
    (∀ j, bindsOn o j = true → listed.getD j false = true) → ∀ j, reachB ops fuel i j = true → listed.getD j false = true
  | 0, i, o, ho, hb, j, h => by simp [reachB] at h
  | fuel + 1, i, o, ho, hb, j, h => by
    simp only [reachB, ho, Bool.or_eq_true, List.any_eq_true, Bool.and_eq_true] at h
    rcases h with h | ⟨k, _, h1, h2⟩
    · exact hb j h
    · have hk := hb k h1
      cases hok : ops[k]? with
      | none => cases fuel <;> simp [reachB, hok] at h2
      | some ok => exact reachB_listed hcl fuel k ok hok (fun j' hj' => hcl k ok j' hok hk hj') j h2
theorem awpAny_steps (hc : PureOk ops) (m : Nat) (hm : m ≤ ops.size) (htl : ∀ i o, ops[i]? = some o → (i = m → ∀ j, j < m → reachB ops 12 i j = true) ∧ (m < i → bindsOn o (i - 1) = true)) (s : Nat → AV) (rs : Nat → AV) (hs : ∀ i o, i < m → ops[i]? = some o → StepR P hint n ops H (stAt n ops s rs i) o (rs i)) (hQ : awpList P hint n ops Q (ops.toList.drop m) (stAt n ops s rs m) H) :
    ∀ (fuel : Nat) (listed : Array Bool) (s' : Nat → AV), listed.size = ops.size → (List.range ops.size).countP (fun j => !listed.getD j true) ≤ fuel →
      (∀ t j, dstAt ops j = some t → s' t = if listed.getD j false = true then (if t < n then rs j else .top) else s t) → (∀ t, (∀ j, dstAt ops j ≠ some t) → s' t = s t) →
      (∀ j oj i, ops[j]? = some oj → listed.getD j false = true → bindsOn oj i = true → listed.getD i false = true) → (∀ i, m ≤ i → i < ops.size → listed.getD i false = false) → awpAny P hint n ops Q fuel listed s' H := by
  have st_no : ∀ k t, (∀ j, j < k → dstAt ops j ≠ some t) → stAt n ops s rs k t = s t := by
    intro k t
    induction k with
    | zero => intro _; rfl
    | succ k ih =>
      intro h
      simp only [stAt]
      cases hd : dstAt ops k with
      | none => exact ih fun j hj => h j (by omega)
      | some d =>
        simp only [aput]
        have : t ≠ d := fun e => h k (by omega) (by rw [hd, e])
        rw [if_neg this]
        exact ih fun j hj => h j (by omega)
  have st_dst : ∀ k t j, dstAt ops j = some t → j < k → stAt n ops s rs k t = if t < n then rs j else .top := by
    intro k t j hj
    induction k with
    | zero => intro h; omega
    | succ k ih =>
      intro h
      simp only [stAt]
      by_cases e : j = k
      · subst e
        rw [hj]
        simp only [aput, if_pos]
      · have := ih (by omega)
        cases hd : dstAt ops k with
        | none => exact this
        | some d =>
          simp only [aput]
          have hne : t ≠ d := fun e' => e (hc.once j k t hj (by rw [hd, e']))
          rw [if_neg hne]
          exact this
  have bind_of : ∀ (listed : Array Bool) (o : Oper) (j : Nat), (o.after.all fun e => !Region.binds .any e || listed.getD e.on false) = true → bindsOn o j = true → listed.getD j false = true := by
    intro listed o j h1 h2
    unfold bindsOn at h2
    rw [List.any_eq_true] at h2
    obtain ⟨e, he, h2⟩ := h2
    rw [Array.all_eq_true_iff_forall_mem] at h1
    have := h1 e (Array.mem_toList_iff.1 he)
    simp only [Bool.and_eq_true, beq_iff_eq] at h2
    simpa [h2.1, h2.2] using this
  have fin : ∀ (listed : Array Bool) (s' : Nat → AV), (∀ i, i < m → listed.getD i true = true) → (∀ i, m ≤ i → i < ops.size → listed.getD i false = false) → listed.size = ops.size →
      (∀ t j, dstAt ops j = some t → s' t = if listed.getD j false = true then (if t < n then rs j else .top) else s t) → (∀ t, (∀ j, dstAt ops j ≠ some t) → s' t = s t) → s' = stAt n ops s rs m := by
    intro listed s' hall hno hsz h1 h2
    funext t
    by_cases hd : ∃ j, dstAt ops j = some t
    · obtain ⟨j, hj⟩ := hd
      have hjl := dstAt_lt hj
      rcases Nat.lt_or_ge j m with hjm | hjm
      · have : listed.getD j false = true := by
          have := hall j hjm
          simpa [Array.getD, show j < listed.size by omega] using this
        rw [h1 t j hj, if_pos this, st_dst _ t j hj hjm]
      · rw [h1 t j hj, if_neg (by simp [hno j hjm hjl]), st_no m t fun j' hj' hd' => by
          have := hc.once j' j t hd' hj
          omega]
    · have hd' : ∀ j, dstAt ops j ≠ some t := fun j hj => hd ⟨j, hj⟩
      rw [h2 t hd', st_no _ t fun j _ => hd' j]
  intro fuel
  induction fuel with
  | zero =>
    intro listed s' hsz hcnt h1 h2 hcl hno
    have hall : ∀ i, i < ops.size → listed.getD i true = true := by
      intro i hi
      have h0 : (List.range ops.size).countP (fun j => !listed.getD j true) = 0 := by omega
      rw [List.countP_eq_zero] at h0
      simpa using h0 i (List.mem_range.2 hi)
    have hs' := fin listed s' (fun i hi => hall i (by omega)) hno hsz h1 h2
    subst hs'
    exact awpAny_chain hc (fun i o ho hi => (htl i o ho).2 hi) hsz m (Nat.le_refl _) hm (fun i hi => hall i (by omega)) (fun i hi hi2 => hno i hi hi2) hQ (by
      rcases Nat.lt_or_ge m ops.size with h | h
      · have e1 := hall m h
        have e2 := hno m (Nat.le_refl _) h
        simp [Array.getD, show m < listed.size by omega] at e1 e2
        rw [e1] at e2
        cases e2
      · omega)
  | succ fuel ih =>
    intro listed s' hsz hcnt h1 h2 hcl hno
    by_cases hpre : ∀ i, i < m → listed.getD i true = true
    · have hs' := fin listed s' hpre hno hsz h1 h2
      subst hs'
      refine awpAny_chain hc (fun i o ho hi => (htl i o ho).2 hi) hsz m (Nat.le_refl _) hm hpre hno hQ ?_
      have hsub : (List.range ops.size).countP (fun j => decide (m ≤ j)) ≤ (List.range ops.size).countP (fun j => !listed.getD j true) := by
        refine List.countP_mono_left fun j hj hmj => ?_
        have hj := List.mem_range.1 hj
        have := hno j (by simpa using hmj) hj
        simp [Array.getD, show j < listed.size by omega] at this ⊢
        exact this
      have hcm : ∀ N, m ≤ N → (List.range N).countP (fun j => decide (m ≤ j)) = N - m := by
        intro N hN
        induction N with
        | zero => simp
        | succ N ihN =>
          rw [List.range_succ, List.countP_append, List.countP_singleton]
          by_cases e : m ≤ N
          · rw [ihN e]; simp [e]; omega
          · have e' : m = N + 1 := by omega
            have : (List.range N).countP (fun j => decide (m ≤ j)) = 0 := by
              rw [List.countP_eq_zero]
              intro j hj
              have := List.mem_range.1 hj
              simp; omega
            rw [this]; simp [e]; omega
      rw [hcm _ hm] at hsub
      omega
    have hex : ∃ i, i < m ∧ listed.getD i true = false ∧ ∀ j, j < i → listed.getD j true = true := by
      have : ∃ i, i < m ∧ listed.getD i true = false := by
        rcases Classical.not_forall.1 hpre with ⟨i, hi⟩
        rcases Classical.not_imp.1 hi with ⟨h1, h2⟩
        exact ⟨i, h1, by simpa using h2⟩
      obtain ⟨i, hi⟩ := this
      induction i using Nat.strongRecOn with
      | _ i ihi =>
        by_cases hj : ∃ j, j < i ∧ listed.getD j true = false
        · obtain ⟨j, hj1, hj2⟩ := hj
          exact ihi j hj1 ⟨by omega, hj2⟩
        · refine ⟨i, hi.1, hi.2, fun j hji => ?_⟩
          cases hq : listed.getD j true with
          | true => rfl
          | false => exact absurd ⟨j, hji, hq⟩ hj
    obtain ⟨i0, hi0, hu0, hb0⟩ := hex
    refine ⟨fun hr => ?_, fun i hi => ?_⟩
    · exfalso
      have hlt0 : i0 < ops.size := by omega
      have hget : ops[i0]? = some ops[i0] := by simp [hlt0]
      have : i0 ∈ Region.ready .any ops listed := by
        unfold Region.ready
        rw [List.mem_filter]
        refine ⟨List.mem_range.2 hlt0, ?_⟩
        simp only [hu0, hget, Bool.not_false, Bool.true_and, Option.map_some, Option.getD_some]
        rw [Array.all_eq_true_iff_forall_mem]
        intro e he
        cases hbe : Region.binds .any e
        · simp
        have hlt := hc.down i0 _ hget e he hbe
        have := hb0 e.on hlt
        have : listed.getD e.on false = true := by simpa [Array.getD, show e.on < listed.size by omega] using this
        simp [this]
      rw [hr] at this
      simp at this
    · unfold Region.ready at hi
      rw [List.mem_filter] at hi
      obtain ⟨hi, hrd⟩ := hi
      have hi := List.mem_range.1 hi
      have hget : ops[i]? = some ops[i] := by simp [hi]
      simp only [hget, Option.map_some, Option.getD_some, Bool.and_eq_true, Bool.not_eq_true'] at hrd
      obtain ⟨hun, haft⟩ := hrd
      simp only [hget]
      have hdst : dstAt ops i = (ops[i]).dst := by simp [dstAt, hget]
      have hun' : listed.getD i false = false := by simpa [Array.getD, show i < listed.size by omega] using hun
      have him : i < m := by
        rcases Nat.lt_or_ge i m with h | h
        · exact h
        · exfalso
          have hu0' : listed.getD i0 false = false := by simpa [Array.getD, show i0 < listed.size by omega] using hu0
          rcases Nat.lt_or_ge m i with h2 | h2
          · have := bind_of listed ops[i] (i - 1) haft ((htl i _ hget).2 h2)
            rw [hno (i - 1) (by omega) (by omega)] at this
            cases this
          · have him : i = m := by omega
            have := reachB_listed hcl 12 i _ hget (fun j hj => bind_of listed ops[i] j haft hj) i0 ((htl i _ hget).1 him i0 hi0)
            rw [this] at hu0'
            cases hu0'
      have agree : ∀ t j, dstAt ops j = some t → bindsOn ops[i] j = true → stAt n ops s rs i t = s' t := by
        intro t j hj hb
        have hl := bind_of listed ops[i] j haft hb
        have hlt : j < i := by
          unfold bindsOn at hb
          rw [List.any_eq_true] at hb
          obtain ⟨e, he, hb⟩ := hb
          simp only [Bool.and_eq_true, beq_iff_eq] at hb
          have := hc.down i _ hget e (Array.mem_toList_iff.1 he) hb.1
          omega
        rw [st_dst i t j hj hlt, h1 t j hj, if_pos hl]
      refine StepR.op ((hs i _ him hget).congr (fun t ht => ?_) fun j w hg d hd => agree d j hd (hc.guard i _ hget j w hg)) ?_
      · by_cases hd : ∃ j, dstAt ops j = some t
        · obtain ⟨j, hj⟩ := hd
          rcases hc.reads i _ hget t ht j hj with hb | ⟨oj, hoj, hb⟩
          · exact agree t j hj hb
          · have hnl : listed.getD j false = false := by
              cases hq : listed.getD j false with
              | false => rfl
              | true => rw [hcl j oj i hoj hq hb] at hun'; cases hun'
            have hlt : i < j := by
              unfold bindsOn at hb
              rw [List.any_eq_true] at hb
              obtain ⟨e, he, hb⟩ := hb
              simp only [Bool.and_eq_true, beq_iff_eq] at hb
              have := hc.down j _ hoj e (Array.mem_toList_iff.1 he) hb.1
              omega
            rw [h1 t j hj, if_neg (by simp [hnl]), st_no i t fun j' hj' hd' => by
              have := hc.once j' j t hd' hj
              omega]
        · have hd' : ∀ j, dstAt ops j ≠ some t := fun j hj => hd ⟨j, hj⟩
          rw [st_no i t fun j _ => hd' j, h2 t hd']
      · have hset : ∀ j b, (listed.setIfInBounds i true).getD j b = if j = i then true else listed.getD j b := by
          intro j b
          simp only [Array.getD_eq_getD_getElem?, Array.getElem?_setIfInBounds]
          by_cases e : i = j
          · subst e; simp [hsz, hi]
          · rw [if_neg e, if_neg (Ne.symm e)]
        refine ih _ _ (by simpa using hsz) ?_ ?_ ?_ ?_ ?_
        · have := countP_lt (p := fun j => !(listed.setIfInBounds i true).getD j true) (q := fun j => !listed.getD j true) (i := i) (fun j hj => by
            simp only [hset] at hj ⊢
            by_cases e : j = i
            · simp [e] at hj
            · simpa [e] using hj) (by simp [hset]) (by simp [hun]) (List.range ops.size) (List.mem_range.2 hi)
          omega
        · intro t j hj
          rw [hset]
          by_cases e : j = i
          · subst e
            rw [hdst] at hj
            rw [if_pos rfl, if_pos rfl, hj]
            simp only [aput, if_pos]
          · rw [if_neg e]
            cases hd : (ops[i]).dst with
            | none => exact h1 t j hj
            | some d =>
              simp only [aput]
              have : t ≠ d := fun e' => e (hc.once j i t hj (by rw [hdst, hd, e']))
              rw [if_neg this]
              exact h1 t j hj
        · intro t ht
          cases hd : (ops[i]).dst with
          | none => exact h2 t ht
          | some d =>
            simp only [aput]
            have : t ≠ d := fun e' => ht i (by rw [hdst, hd, e'])
            rw [if_neg this]
            exact h2 t ht
        · intro j oj i' hoj hlj hb
          rw [hset] at hlj ⊢
          by_cases e' : i' = i
          · rw [if_pos e']
          · rw [if_neg e']
            by_cases e : j = i
            · subst e
              rw [hget] at hoj
              cases hoj
              exact bind_of listed _ i' haft hb
            · rw [if_neg e] at hlj
              exact hcl j oj i' hoj hlj hb
        · intro j hj hj2
          rw [hset, if_neg (by omega)]
          exact hno j hj hj2
def tailCheck (ops : Array Oper) (m : Nat) : Bool := decide (m ≤ ops.size) && (List.range ops.size).all fun i => decide (i < m) || if i = m then (List.range m).all fun j => reachB ops 12 i j else match ops[i]? with
  | none => true
  | some o => bindsOn o (i - 1)
theorem tailCheck_ok {m : Nat} (h : tailCheck ops m = true) : m ≤ ops.size ∧ ∀ i o, ops[i]? = some o → (i = m → ∀ j, j < m → reachB ops 12 i j = true) ∧ (m < i → bindsOn o (i - 1) = true) := by
  unfold tailCheck at h
  simp only [Bool.and_eq_true, decide_eq_true_eq, List.all_eq_true] at h
  refine ⟨h.1, fun i o ho => ?_⟩
  have := h.2 i (List.mem_range.2 (Array.getElem?_eq_some_iff.1 ho).1)
  refine ⟨fun e j hj => ?_, fun hi => ?_⟩
  · subst e
    simp only [Nat.lt_irrefl, decide_false, Bool.false_or, if_true, List.all_eq_true] at this
    exact this j (List.mem_range.2 hj)
  · have h1 : ¬ i < m := by omega
    have h2 : ¬ i = m := by omega
    simpa only [h1, h2, decide_false, Bool.false_or, if_false, ho] using this
/-- A drawn region: m operations that leave the heap alone, then a chain. -/
theorem awp_drawC (m : Nat) {H0 : AHeap} {id : Nat} {s : Nat → AV} (hm : P.follows .mixedOrders = true) (hc : pureCheck ops = true) (ht : tailCheck ops m = true)
    (h : awpPure P hint n ops (KTail P hint n ops Q (ops.toList.drop m)) (ops.toList.take m) s H) : awp P hint n H0 (.region id ops true) Q s H := by
  obtain ⟨hms, htl⟩ := tailCheck_ok ht
  refine ⟨hm, ?_⟩
  obtain ⟨rs, _, h2, h3⟩ := awpPure_steps m hms s (fun _ => .top) (ops.toList.take m) 0 rfl (Nat.zero_le _) h
  refine awpAny_steps (pureCheck_ok hc) m hms htl s rs (fun i o hi ho => h2 i o (Nat.zero_le _) hi ho) h3 ops.size (Array.replicate ops.size false) s (by simp) ?_ ?_ ?_ ?_ ?_
  · exact Nat.le_trans List.countP_le_length (by simp)
  · intro t j hj
    have hjl := dstAt_lt hj
    rw [if_neg (by simp [Array.getD, hjl])]
  · intro t _; rfl
  · intro j oj i hoj hl
    have hjl := (Array.getElem?_eq_some_iff.1 hoj).1
    simp [Array.getD, hjl] at hl
  · intro i hi hi2
    simp [Array.getD, hi2]
/-- A drawn region of operations that leave the heap alone: in the order of its text is enough. -/
theorem awp_draw {H0 : AHeap} {id : Nat} {s : Nat → AV} (hm : P.follows .mixedOrders = true) (hc : pureCheck ops = true) (h : awpPure P hint n ops Q ops.toList s H) : awp P hint n H0 (.region id ops true) Q s H := by
  refine awp_drawC ops.size hm hc ?_ ?_
  · unfold tailCheck
    simp only [Nat.le_refl, decide_true, Bool.true_and, List.all_eq_true]
    intro i hi
    simp [List.mem_range.1 hi]
  · have e1 : ops.toList.drop ops.size = [] := List.drop_of_length_le (by simp)
    have e2 : ops.toList.take ops.size = ops.toList := List.take_of_length_le (by simp)
    rw [e1, e2]
    exact awpPure_mono (Q := Q) (Q' := KTail P hint n ops Q []) (fun s H h => h) _ _ h
/-- Cut where the given list says. -/
theorem awp_drawK (m : Nat) {H0 : AHeap} {id : Nat} {s : Nat → AV} (hm : P.follows .mixedOrders = true) (hc : pureCheck ops = true) (ht : tailCheck ops m = true)
    (h : awpPureK P hint n ops Q m ops.toList s H) : awp P hint n H0 (.region id ops true) Q s H := awp_drawC m hm hc ht (by rw [← awpPureK_eq]; exact h)
end
section
variable (P : Program) (hint : Nat → Bool) (n : Nat) (ops : Array Oper) (Q : Post) (rest : List Oper) (s : Nat → AV) (H : AHeap)
def KPure (d : Option Tmp) (H0 : AHeap) : AV → AHeap → Prop := fun r H' => H' = H0 ∧ awpPure P hint n ops Q rest (aput n s d r) H0
def KNo : Value → AHeap → Prop := fun _ _ => False
theorem KPure_app (d : Option Tmp) (H0 : AHeap) (r : AV) : KPure P hint n ops Q rest s d H0 r H = (H = H0 ∧ awpPure P hint n ops Q rest (aput n s d r) H0) := rfl
theorem awpPure_nil : awpPure P hint n ops Q [] s H = Q .normal s H := rfl
theorem awpPure_none (d : Option Tmp) (op : Op) (ty : TypeId) (p : String) (af : Array Edge) : awpPure P hint n ops Q (⟨d, op, ty, p, af, none⟩ :: rest) s H = astep P hint s H ⟨d, op, ty, p, af, none⟩ (KPure P hint n ops Q rest s d H) KNo := rfl
theorem awpPure_guard (d : Option Tmp) (op : Op) (ty : TypeId) (p : String) (af : Array Edge) (j : Nat) (b : Bool) :
    awpPure P hint n ops Q (⟨d, op, ty, p, af, some (j, b)⟩ :: rest) s H = ob (ayield ops s n j b) fun b' => aite b' (astep P hint s H ⟨d, op, ty, p, af, some (j, b)⟩ (KPure P hint n ops Q rest s d H) KNo) (H = H ∧ awpPure P hint n ops Q rest (aput n s d (.tup [])) H) := by
  simp only [awpPure, awpOp, nf_id]
  cases ayield ops s n j b with
  | none => rfl
  | some b' => cases b' <;> rfl
def KPureK (m : Nat) (d : Option Tmp) (H0 : AHeap) : AV → AHeap → Prop := fun r H' => H' = H0 ∧ awpPureK P hint n ops Q m rest (aput n s d r) H0
theorem KPureK_app (m : Nat) (d : Option Tmp) (H0 : AHeap) (r : AV) : KPureK P hint n ops Q rest s m d H0 r H = (H = H0 ∧ awpPureK P hint n ops Q m rest (aput n s d r) H0) := rfl
theorem awpPureK_zero (l : List Oper) : awpPureK P hint n ops Q 0 l s H = awpList P hint n ops Q l s H := by cases l <;> rfl
theorem awpPureK_none (m : Nat) (d : Option Tmp) (op : Op) (ty : TypeId) (p : String) (af : Array Edge) : awpPureK P hint n ops Q (m + 1) (⟨d, op, ty, p, af, none⟩ :: rest) s H = astep P hint s H ⟨d, op, ty, p, af, none⟩ (KPureK P hint n ops Q rest s m d H) KNo := rfl
theorem awpPureK_guard (m : Nat) (d : Option Tmp) (op : Op) (ty : TypeId) (p : String) (af : Array Edge) (j : Nat) (b : Bool) :
    awpPureK P hint n ops Q (m + 1) (⟨d, op, ty, p, af, some (j, b)⟩ :: rest) s H = ob (ayield ops s n j b) fun b' => aite b' (astep P hint s H ⟨d, op, ty, p, af, some (j, b)⟩ (KPureK P hint n ops Q rest s m d H) KNo) (H = H ∧ awpPureK P hint n ops Q m rest (aput n s d (.tup [])) H) := by
  simp only [awpPureK, awpOp, nf_id]
  cases ayield ops s n j b with
  | none => rfl
  | some b' => cases b' <;> rfl
theorem awpPureK_mk (m : Nat) (l : List Oper) : awpPureK P hint n ops Q m l.toArray.toList s H = awpPureK P hint n ops Q m l s H := rfl
theorem awpPure_mk (l : List Oper) : awpPure P hint n ops Q l.toArray.toList s H = awpPure P hint n ops Q l s H := rfl
end
@[congr] theorem cg_pure {P : Program} {hint : Nat → Bool} {n : Nat} {ops : Array Oper} {Q : Post} {l : List Oper} {s : Nat → AV} {H H' : AHeap} (h : nf H = H') : awpPure P hint n ops Q l s H = awpPure P hint n ops Q l s H' := by rw [← h]; rfl
@[congr] theorem cg_KPure {P : Program} {hint : Nat → Bool} {n : Nat} {ops : Array Oper} {Q : Post} {rest : List Oper} {s : Nat → AV} {d : Option Tmp} {H0 H H' : AHeap} {r r' : AV} (g : nf r = r') (h : nf H = H') : KPure P hint n ops Q rest s d H0 r H = KPure P hint n ops Q rest s d H0 r' H' := by rw [← g, ← h]; rfl
@[congr] theorem cg_pureK {P : Program} {hint : Nat → Bool} {n : Nat} {ops : Array Oper} {Q : Post} {m : Nat} {l : List Oper} {s : Nat → AV} {H H' : AHeap} (h : nf H = H') : awpPureK P hint n ops Q m l s H = awpPureK P hint n ops Q m l s H' := by rw [← h]; rfl
@[congr] theorem cg_KPureK {P : Program} {hint : Nat → Bool} {n : Nat} {ops : Array Oper} {Q : Post} {rest : List Oper} {s : Nat → AV} {m : Nat} {d : Option Tmp} {H0 H H' : AHeap} {r r' : AV} (g : nf r = r') (h : nf H = H') : KPureK P hint n ops Q rest s m d H0 r H = KPureK P hint n ops Q rest s m d H0 r' H' := by rw [← g, ← h]; rfl
attribute [go_sem] KPureK_app awpPureK_zero awpPureK_none awpPureK_guard awpPureK_mk
attribute [go_sem] KPure_app awpPure_nil awpPure_none awpPure_guard awpPure_mk
end Go.Proofs.YtfmmemboakdeiaaAw
namespace Go.Proofs.Ytfmmemboakdeiaa
open Go.Proofs.YtfmmemboakdeiaaAw Go.RowKit
set_option linter.unusedVariables false
abbrev iD (n : Int) : D := .v (.int .i64 n)
abbrev iA (n : Int) : AV := .d (.v (.int .i64 n))
abbrev bA (b : Bool) : AV := .d (.v (.bool b))
abbrev uA (n : Int) : AV := .d (.v (.int .u64 n))
abbrev sA (b : ByteArray) : AV := .d (.v (.string b))
def ints (l : List Int) : List (List D) := l.map fun x => [.v (.int .i64 x)]
theorem ints_len (l : List Int) : (ints l).length = l.length := by simp [ints]
theorem ints_snoc (l : List Int) (n : Int) : ints l ++ [[.v (.int .i64 n)]] = ints (l ++ [n]) := by simp [ints]
theorem ints_get (l : List Int) (k : Nat) (h : k < l.length) : (ints l)[k]? = some [.v (.int .i64 l[k])] := by simp [ints, h]
theorem ints_nil : ints [] = [] := rfl
end Go.Proofs.Ytfmmemboakdeiaa
namespace Go.Proofs.YtfmmemboakdeiaaAw
def fproj (f : Field) : Bool × TypeId × Nat := (f.name != "_", f.type, f.offset)
def eqP (d : Nat) (xs ys : Array Value) : List (Bool × TypeId × Nat) → Sem Bool
  | [] => pure true
  | (true, t, off) :: fs => do
      let a ← part t xs off
      let b ← part t ys off
      let r ← Op.equalIn d t a b
      if (!r) = true then pure false else eqP d xs ys fs
  | (false, _, _) :: fs => eqP d xs ys fs
theorem eqP_eq (d : Nat) (xs ys : Array Value) : ∀ fs : List Field, Op.eqFields d xs ys fs = eqP d xs ys (fs.map fproj)
  | [] => rfl
  | f :: fs => by
    simp only [Op.eqFields, List.map_cons, fproj]
    rw [eqP_eq d xs ys fs]
    by_cases h : f.name = "_"
    · simp [h, eqP]
    · have hb : (f.name != "_") = true := by simp [h]
      rw [hb, if_pos h]; rfl
theorem PureBin.eqS {P : Program} {t : TypeId} {xs ys : Array Value} {fs : List (Bool × TypeId × Nat)} {r : Bool} (h1 : P.eqGuardType P.depth t = false) (h2 : P.underlying t = some (.struct (P.fieldsOf t))) (h3 : P.stoodInHeld t = false)
    (h4 : (P.fieldsOf t).toList.map fproj = fs) (h5 : ∀ w, (eqP 9999 xs ys fs).run P w = .ok r w) : PureBin P .eql t (.agg xs) (.agg ys) (.bool r) ∧ PureBin P .neq t (.agg xs) (.agg ys) (.bool !r) := by
  refine ⟨fun x y w => ?_, fun x y w => ?_⟩
  · rw [Sem.run_bind, run_eqGuard_agg _ _ _ _ _ _ _ h1]
    simp only [Result.andThen_ok, run_eql_struct]
    rw [run_equalIn_struct w 9999 t _ _ h2 h3, eqP_eq, h4, h5]
    rfl
  · rw [Sem.run_bind, run_eqGuard_agg _ _ _ _ _ _ _ h1]
    simp only [Result.andThen_ok, run_neq_struct]
    rw [run_equalIn_struct w 9999 t _ _ h2 h3, eqP_eq, h4, h5]
    rfl
theorem PureBin.inj {P : Program} {op : BinOp} {t : TypeId} {u v r r' : Value} (h : PureBin P op t u v r) (h' : PureBin P op t u v r') : r = r' := by
  have h1 := h (.const .nilIface) (.const .nilIface) default
  rw [h' (.const .nilIface) (.const .nilIface) default] at h1
  cases h1; rfl
theorem binK_agg {P : Program} {op : BinOp} {t : TypeId} {xs ys : Array Value} {r : Value} (h : PureBin P op t (.agg xs) (.agg ys) r) (K : Value → Prop) : binK P op t (.agg xs) (.agg ys) K = K r := by
  have : binK P op t (.agg xs) (.agg ys) K = ∃ r, PureBin P op t (.agg xs) (.agg ys) r ∧ K r := by unfold binK; rfl
  rw [this]
  exact propext ⟨fun ⟨r', h', k⟩ => by rw [h.inj h']; exact k, fun k => ⟨r, h, k⟩⟩
section
variable {P : Program} {w : World} {d : Nat} {t : TypeId} {off : Nat} {xs ys : Array Value} {fs : List (Bool × TypeId × Nat)} {r : Bool}
theorem part_one (hg : agB P t = some false) {v : Value} (h : xs[off]? = some v) : (part t xs off).run P w = .ok v w := by
  unfold part
  rw [Sem.run_bind, agB.run hg]
  simp [h]
theorem part_agg (hg : agB P t = some true) {z : Value} {k b : Nat} (hz : TI P t = some (z, k, b)) : (part t xs off).run P w = .ok (.agg (xs.extract off (off + k))) w := by
  unfold part
  rw [Sem.run_bind, agB.run hg]
  simp [TI.sizeOf hz]
theorem eqP_step {a b : Value} {q : Bool} (ha : (part t xs off).run P w = .ok a w) (hb : (part t ys off).run P w = .ok b w) (he : (Op.equalIn d t a b).run P w = .ok q w) (hr : (eqP d xs ys fs).run P w = .ok r w) : (eqP d xs ys ((true, t, off) :: fs)).run P w = .ok (q && r) w := by
  simp only [eqP, Sem.run_bind, ha, hb, he, Result.andThen_ok]
  cases q
  · simp
  · simpa using hr
theorem eqP_nil : (eqP d xs ys []).run P w = .ok true w := rfl
theorem eqP_int {k : IntKind} {a b : Int} (hu : UK P t = some k) (hg : agB P t = some false) (ha : xs[off]? = some (.int k a)) (hb : ys[off]? = some (.int k b)) (hr : (eqP (d + 1) xs ys fs).run P w = .ok r w) : (eqP (d + 1) xs ys ((true, t, off) :: fs)).run P w = .ok ((a == b) && r) w :=
  eqP_step (part_one hg ha) (part_one hg hb) (run_equalIn_int w d t k k a b (UK.get hu)) hr
theorem eqP_str {a b : ByteArray} (hu : P.underlying t = some .string) (hg : agB P t = some false) (ha : xs[off]? = some (.string a)) (hb : ys[off]? = some (.string b)) (hr : (eqP (d + 1) xs ys fs).run P w = .ok r w) : (eqP (d + 1) xs ys ((true, t, off) :: fs)).run P w = .ok ((a.toList == b.toList) && r) w :=
  eqP_step (part_one hg ha) (part_one hg hb) (run_equalIn_string w d t a b hu) hr
theorem eqP_bool {a b : Bool} (hu : P.underlying t = some .bool) (hg : agB P t = some false) (ha : xs[off]? = some (.bool a)) (hb : ys[off]? = some (.bool b)) (hr : (eqP (d + 1) xs ys fs).run P w = .ok r w) : (eqP (d + 1) xs ys ((true, t, off) :: fs)).run P w = .ok ((a == b) && r) w :=
  eqP_step (part_one hg ha) (part_one hg hb) (run_equalIn_bool' w d t a b hu) hr
theorem eqP_struct {z : Value} {k b : Nat} {gs : List (Bool × TypeId × Nat)} {q : Bool} (hg : agB P t = some true) (hz : TI P t = some (z, k, b)) (h2 : P.underlying t = some (.struct (P.fieldsOf t))) (h3 : P.stoodInHeld t = false) (h4 : (P.fieldsOf t).toList.map fproj = gs)
    (hq : (eqP d (xs.extract off (off + k)) (ys.extract off (off + k)) gs).run P w = .ok q w) (hr : (eqP (d + 1) xs ys fs).run P w = .ok r w) : (eqP (d + 1) xs ys ((true, t, off) :: fs)).run P w = .ok (q && r) w := by
  refine eqP_step (part_agg hg hz) (part_agg hg hz) ?_ hr
  rw [run_equalIn_struct w d t _ _ h2 h3, eqP_eq, h4]
  exact hq
end
end Go.Proofs.YtfmmemboakdeiaaAw
namespace Go.Proofs.Ytfmmemboakdeiaa
open Go.Proofs.YtfmmemboakdeiaaAw Go.RowKit
set_option linter.unusedVariables false
def valC (k i : Int) (s : ByteArray) : Array Value := #[.int .i64 k, .int .i64 i, .string s]
def atomC (c o k i : Int) (s : ByteArray) : Array Value := #[.int .i64 c, .int .i64 o, .int .i64 k, .int .i64 i, .string s]
def sameV (k i : Int) (s : ByteArray) (k' i' : Int) (s' : ByteArray) : Bool := (k == k') && ((i == i') && ((s.toList == s'.toList) && true))
def sameA (c o k i : Int) (s : ByteArray) (c' o' k' i' : Int) (s' : ByteArray) : Bool := (c == c') && ((o == o') && (sameV k i s k' i' s' && true))
theorem eqP_val (w : World) (d : Nat) (k i : Int) (s : ByteArray) (k' i' : Int) (s' : ByteArray) : (eqP (d + 1) #[.int .i64 k, .int .i64 i, .string s] #[.int .i64 k', .int .i64 i', .string s'] [(true, 3, 0), (true, 2, 1), (true, 9, 2)]).run Try.prog w = .ok (sameV k i s k' i' s') w :=
  eqP_int K.UK3 K.agB3 rfl rfl (eqP_int K.UK2 K.agB2 rfl rfl (eqP_str K.US9 K.agB9 rfl rfl eqP_nil))
theorem pb_val (k i : Int) (s : ByteArray) (k' i' : Int) (s' : ByteArray) : PureBin Try.prog .eql 26 (.agg #[.int .i64 k, .int .i64 i, .string s]) (.agg #[.int .i64 k', .int .i64 i', .string s']) (.bool (sameV k i s k' i' s')) ∧
    PureBin Try.prog .neq 26 (.agg #[.int .i64 k, .int .i64 i, .string s]) (.agg #[.int .i64 k', .int .i64 i', .string s']) (.bool !(sameV k i s k' i' s')) :=
  PureBin.eqS (by kernel_rfl) (by kernel_rfl) (by kernel_rfl) (by kernel_rfl) fun w => eqP_val w 9998 k i s k' i' s'
theorem pb_atom (c o k i : Int) (s : ByteArray) (c' o' k' i' : Int) (s' : ByteArray) : PureBin Try.prog .eql 64 (.agg #[.int .i64 c, .int .i64 o, .int .i64 k, .int .i64 i, .string s]) (.agg #[.int .i64 c', .int .i64 o', .int .i64 k', .int .i64 i', .string s']) (.bool (sameA c o k i s c' o' k' i' s')) ∧ PureBin Try.prog .neq 64 (.agg #[.int .i64 c, .int .i64 o, .int .i64 k, .int .i64 i, .string s]) (.agg #[.int .i64 c', .int .i64 o', .int .i64 k', .int .i64 i', .string s']) (.bool !(sameA c o k i s c' o' k' i' s')) := PureBin.eqS (by kernel_rfl) (by kernel_rfl) (by kernel_rfl) (fs := [(true, 3, 0), (true, 3, 1), (true, 26, 2)]) (by kernel_rfl) fun w => eqP_int K.UK3 K.agB3 rfl rfl (eqP_int K.UK3 K.agB3 rfl rfl (eqP_struct K.agB26 K.TI26 (by kernel_rfl) (by kernel_rfl) (by kernel_rfl) (eqP_val w 9997 k i s k' i' s') eqP_nil))
theorem bk_eql_val (k i : Int) (s : ByteArray) (k' i' : Int) (s' : ByteArray) (K : Value → Prop) : binK Try.prog .eql 26 (.agg #[.int .i64 k, .int .i64 i, .string s]) (.agg #[.int .i64 k', .int .i64 i', .string s']) K = K (.bool (sameV k i s k' i' s')) := binK_agg (pb_val ..).1 K
theorem bk_neq_val (k i : Int) (s : ByteArray) (k' i' : Int) (s' : ByteArray) (K : Value → Prop) : binK Try.prog .neq 26 (.agg #[.int .i64 k, .int .i64 i, .string s]) (.agg #[.int .i64 k', .int .i64 i', .string s']) K = K (.bool !(sameV k i s k' i' s')) := binK_agg (pb_val ..).2 K
theorem bk_eql_atom (c o k i : Int) (s : ByteArray) (c' o' k' i' : Int) (s' : ByteArray) (K : Value → Prop) : binK Try.prog .eql 64 (.agg #[.int .i64 c, .int .i64 o, .int .i64 k, .int .i64 i, .string s]) (.agg #[.int .i64 c', .int .i64 o', .int .i64 k', .int .i64 i', .string s']) K = K (.bool (sameA c o k i s c' o' k' i' s')) := binK_agg (pb_atom ..).1 K
theorem bk_neq_atom (c o k i : Int) (s : ByteArray) (c' o' k' i' : Int) (s' : ByteArray) (K : Value → Prop) : binK Try.prog .neq 64 (.agg #[.int .i64 c, .int .i64 o, .int .i64 k, .int .i64 i, .string s]) (.agg #[.int .i64 c', .int .i64 o', .int .i64 k', .int .i64 i', .string s']) K = K (.bool !(sameA c o k i s c' o' k' i' s')) := binK_agg (pb_atom ..).2 K
attribute [go_sem] bk_eql_val bk_neq_val
attribute [go_sem] bk_eql_atom bk_neq_atom
end Go.Proofs.Ytfmmemboakdeiaa
namespace Go.Proofs.Ytfmmemboakdeiaa
open Go.Proofs.YtfmmemboakdeiaaAw Go.RowKit
set_option linter.unusedVariables false
structure Val where
  kind : Int
  i : Int
  s : ByteArray
deriving DecidableEq
structure Atom where
  col : Int
  op : Int
  val : Val
deriving DecidableEq
def Val.enc (v : Val) : List D := [.v (.int .i64 v.kind), .v (.int .i64 v.i), .v (.string v.s)]
def Atom.enc (a : Atom) : List D := [.v (.int .i64 a.col), .v (.int .i64 a.op), .v (.int .i64 a.val.kind), .v (.int .i64 a.val.i), .v (.string a.val.s)]
theorem Val.enc_len (v : Val) : v.enc.length = 3 := rfl
theorem Atom.enc_len (a : Atom) : a.enc.length = 5 := rfl
theorem toList_inj {a b : ByteArray} (h : a.toList = b.toList) : a = b := by
  rw [ByteArray.toList_eq, ByteArray.toList_eq] at h
  obtain ⟨⟨x⟩⟩ := a
  obtain ⟨⟨y⟩⟩ := b
  simp_all
theorem sameV_eq (v w : Val) : sameV v.kind v.i v.s w.kind w.i w.s = decide (v = w) := by
  cases v with | mk k i s =>
  cases w with | mk k' i' s' =>
  rw [Bool.eq_iff_iff]
  simp only [sameV, Bool.and_true, Bool.and_eq_true, beq_iff_eq, decide_eq_true_eq, Val.mk.injEq]
  exact ⟨fun ⟨a, b, c⟩ => ⟨a, b, toList_inj c⟩, fun ⟨a, b, c⟩ => ⟨a, b, by rw [c]⟩⟩
theorem sameA_eq (a b : Atom) : sameA a.col a.op a.val.kind a.val.i a.val.s b.col b.op b.val.kind b.val.i b.val.s = decide (a = b) := by
  cases a with | mk c o v =>
  cases b with | mk c' o' v' =>
  simp only [sameA, sameV_eq]
  rw [Bool.eq_iff_iff]
  simp only [Bool.and_true, Bool.and_eq_true, beq_iff_eq, decide_eq_true_eq, Atom.mk.injEq]
end Go.Proofs.Ytfmmemboakdeiaa
namespace Go.Proofs.Ytfmmemboakdeiaa
open Go.Proofs.YtfmmemboakdeiaaAw Go.RowKit
set_option linter.unusedVariables false
set_option linter.unusedSimpArgs false
abbrev du (n : Nat) : AV := .d (.v (.int .u64 n))
theorem RAs.closed {H : AHeap} {φ : Phi} {N : Addr → Prop} {w : World} {vals : Array Value} (vs : List Value) (h : RAs H φ N w (vs.map fun v => .d (.v v)) vals) : vals = vs.toArray := by
  obtain ⟨hl, hh⟩ := h
  simp only [List.length_map] at hl
  apply Array.ext
  · simpa using hl.symm
  · intro i h1 h2
    have := hh i (by simpa using h2) h1
    simp only [List.getElem_map] at this
    simpa using this.closed
/-- Which of two is ahead. -/
def ordI (less more : Bool) : Int := if less then -1 else if more then 1 else 0
def cmpI (a b : Int) : Int := ordI (decide (a < b)) (decide (b < a))
def lessS (a b : ByteArray) : Bool := Op.bytesLess a.toList b.toList
def cmpS (a b : ByteArray) : Int := ordI (lessS a b) (!(lessS a b || a.toList == b.toList))
def nanN (b : Nat) : Bool := decide (9218868437227405312 < b % 9223372036854775808)
def cleanN (b : Nat) : Nat := if nanN b then 9221120237041090560 else b
def keyN (b : Nat) : Nat := if 9223372036854775808 ≤ cleanN b then 18446744073709551615 - cleanN b else cleanN b + 9223372036854775808
def toU (n : Int) : Nat := (n % 18446744073709551616).toNat
def cmpF (a b : Nat) : Int := ordI (decide (keyN a < keyN b)) (decide (keyN b < keyN a))
def cmpV (a b : Val) : Int := if a.kind ≠ b.kind then cmpI a.kind b.kind else if a.kind = 1 then cmpI a.i b.i else if a.kind = 2 then cmpF (toU a.i) (toU b.i) else if a.kind = 3 then cmpS a.s b.s else 0
theorem toU_lt (n : Int) : toU n < 18446744073709551616 := by unfold toU; omega
theorem wrap_toU (n : Int) : IntKind.u64.wrap n = ((toU n : Nat) : Int) := by
  unfold toU
  rw [Int.toNat_of_nonneg (Int.emod_nonneg _ (by omega))]
  simp [IntKind.wrap, IntKind.signed, IntKind.bits]
theorem cleanN_lt (b : Nat) (h : b < 18446744073709551616) : cleanN b < 18446744073709551616 := by unfold cleanN; split <;> omega
theorem keyN_lt (b : Nat) (h : b < 18446744073709551616) : keyN b < 18446744073709551616 := by
  have := cleanN_lt b h
  unfold keyN; split <;> omega

set_option maxRecDepth 10000 in
theorem isNaN_int_does (a : Int) (H : AHeap) : Does Try.prog 66 [iA a] H (.ok (bA false)) H := by
  refine Does.of_awp (hint := (fun _ => false)) Try.func66 (by kernel_rfl) rfl [2] (by kernel_rfl) (by decide) (by simp [Try.ntmps66]) ?_
  rw [Try.ntmps66]
  simp (implicitDefEqProofs := false) only [↓reduceIte, go_sem, oread, owrite, Nat.reduceAdd, Nat.reduceSub, Nat.reduceMul, Nat.reduceLT, Nat.reduceLeDiff, Nat.reduceEqDiff, Nat.reduceBEq, Int.reduceLE, Int.reduceLT, Int.reduceEq, Int.reduceNe, Int.reduceAdd, Int.reduceSub, Int.reduceMul, Int.reduceNeg, Int.reduceToNat, Int.reduceNatCast, reduceCtorEq, eq_self]
  refine AEnd.ret0 ?_
  simp (implicitDefEqProofs := false) only [↓reduceIte, go_sem, oread, owrite, Nat.reduceAdd, Nat.reduceSub, Nat.reduceMul, Nat.reduceLT, Nat.reduceLeDiff, Nat.reduceEqDiff, Nat.reduceBEq, Int.reduceLE, Int.reduceLT, Int.reduceEq, Int.reduceNe, Int.reduceAdd, Int.reduceSub, Int.reduceMul, Int.reduceNeg, Int.reduceToNat, Int.reduceNatCast, reduceCtorEq, eq_self]
set_option maxRecDepth 10000 in
theorem isNaN_int64_does (a : Int) (H : AHeap) : Does Try.prog 67 [iA a] H (.ok (bA false)) H := by
  refine Does.of_awp (hint := (fun _ => false)) Try.func67 (by kernel_rfl) rfl [2] (by kernel_rfl) (by decide) (by simp [Try.ntmps67]) ?_
  rw [Try.ntmps67]
  simp (implicitDefEqProofs := false) only [↓reduceIte, go_sem, oread, owrite, Nat.reduceAdd, Nat.reduceSub, Nat.reduceMul, Nat.reduceLT, Nat.reduceLeDiff, Nat.reduceEqDiff, Nat.reduceBEq, Int.reduceLE, Int.reduceLT, Int.reduceEq, Int.reduceNe, Int.reduceAdd, Int.reduceSub, Int.reduceMul, Int.reduceNeg, Int.reduceToNat, Int.reduceNatCast, reduceCtorEq, eq_self]
  refine AEnd.ret0 ?_
  simp (implicitDefEqProofs := false) only [↓reduceIte, go_sem, oread, owrite, Nat.reduceAdd, Nat.reduceSub, Nat.reduceMul, Nat.reduceLT, Nat.reduceLeDiff, Nat.reduceEqDiff, Nat.reduceBEq, Int.reduceLE, Int.reduceLT, Int.reduceEq, Int.reduceNe, Int.reduceAdd, Int.reduceSub, Int.reduceMul, Int.reduceNeg, Int.reduceToNat, Int.reduceNatCast, reduceCtorEq, eq_self]
set_option maxRecDepth 10000 in
theorem isNaN_string_does (a : ByteArray) (H : AHeap) : Does Try.prog 69 [sA a] H (.ok (bA false)) H := by
  refine Does.of_awp (hint := (fun _ => false)) Try.func69 (by kernel_rfl) rfl [2] (by kernel_rfl) (by decide) (by simp [Try.ntmps69]) ?_
  rw [Try.ntmps69]
  simp (implicitDefEqProofs := false) only [↓reduceIte, go_sem, oread, owrite, Nat.reduceAdd, Nat.reduceSub, Nat.reduceMul, Nat.reduceLT, Nat.reduceLeDiff, Nat.reduceEqDiff, Nat.reduceBEq, Int.reduceLE, Int.reduceLT, Int.reduceEq, Int.reduceNe, Int.reduceAdd, Int.reduceSub, Int.reduceMul, Int.reduceNeg, Int.reduceToNat, Int.reduceNatCast, reduceCtorEq, eq_self]
  refine AEnd.ret0 ?_
  simp (implicitDefEqProofs := false) only [↓reduceIte, go_sem, oread, owrite, Nat.reduceAdd, Nat.reduceSub, Nat.reduceMul, Nat.reduceLT, Nat.reduceLeDiff, Nat.reduceEqDiff, Nat.reduceBEq, Int.reduceLE, Int.reduceLT, Int.reduceEq, Int.reduceNe, Int.reduceAdd, Int.reduceSub, Int.reduceMul, Int.reduceNeg, Int.reduceToNat, Int.reduceNatCast, reduceCtorEq, eq_self]
set_option maxRecDepth 10000 in
theorem cmp_int_does (a b : Int) (H : AHeap) : Does Try.prog 48 [iA a, iA b] H (.ok (iA (cmpI a b))) H := by
  refine Does.of_awp (hint := (fun _ => false)) Try.func48 (by kernel_rfl) rfl [4] (by kernel_rfl) (by decide) (by simp [Try.ntmps48]) ?_
  rw [Try.ntmps48]
  simp (implicitDefEqProofs := false) only [↓reduceIte, go_sem, oread, owrite, Nat.reduceAdd, Nat.reduceSub, Nat.reduceMul, Nat.reduceLT, Nat.reduceLeDiff, Nat.reduceEqDiff, Nat.reduceBEq, Int.reduceLE, Int.reduceLT, Int.reduceEq, Int.reduceNe, Int.reduceAdd, Int.reduceSub, Int.reduceMul, Int.reduceNeg, Int.reduceToNat, Int.reduceNatCast, reduceCtorEq, eq_self]
  refine KCall.ok (isNaN_int_does a H) ?_
  simp (implicitDefEqProofs := false) only [↓reduceIte, go_sem, oread, owrite, Nat.reduceAdd, Nat.reduceSub, Nat.reduceMul, Nat.reduceLT, Nat.reduceLeDiff, Nat.reduceEqDiff, Nat.reduceBEq, Int.reduceLE, Int.reduceLT, Int.reduceEq, Int.reduceNe, Int.reduceAdd, Int.reduceSub, Int.reduceMul, Int.reduceNeg, Int.reduceToNat, Int.reduceNatCast, reduceCtorEq, eq_self]
  refine KCall.ok (isNaN_int_does b H) ?_
  simp (implicitDefEqProofs := false) only [↓reduceIte, go_sem, oread, owrite, Nat.reduceAdd, Nat.reduceSub, Nat.reduceMul, Nat.reduceLT, Nat.reduceLeDiff, Nat.reduceEqDiff, Nat.reduceBEq, Int.reduceLE, Int.reduceLT, Int.reduceEq, Int.reduceNe, Int.reduceAdd, Int.reduceSub, Int.reduceMul, Int.reduceNeg, Int.reduceToNat, Int.reduceNatCast, reduceCtorEq, eq_self]
  by_cases h : a < b
  · refine awp_T (by simp (implicitDefEqProofs := false) only [↓reduceIte, go_sem, oread, owrite, Nat.reduceAdd, Nat.reduceSub, Nat.reduceMul, Nat.reduceLT, Nat.reduceLeDiff, Nat.reduceEqDiff, Nat.reduceBEq, Int.reduceLE, Int.reduceLT, Int.reduceEq, Int.reduceNe, Int.reduceAdd, Int.reduceSub, Int.reduceMul, Int.reduceNeg, Int.reduceToNat, Int.reduceNatCast, reduceCtorEq, eq_self, h]) ?_
    simp (implicitDefEqProofs := false) only [↓reduceIte, go_sem, oread, owrite, Nat.reduceAdd, Nat.reduceSub, Nat.reduceMul, Nat.reduceLT, Nat.reduceLeDiff, Nat.reduceEqDiff, Nat.reduceBEq, Int.reduceLE, Int.reduceLT, Int.reduceEq, Int.reduceNe, Int.reduceAdd, Int.reduceSub, Int.reduceMul, Int.reduceNeg, Int.reduceToNat, Int.reduceNatCast, reduceCtorEq, eq_self]
    refine AEnd.ret0 ?_
    simp (implicitDefEqProofs := false) only [↓reduceIte, go_sem, oread, owrite, Nat.reduceAdd, Nat.reduceSub, Nat.reduceMul, Nat.reduceLT, Nat.reduceLeDiff, Nat.reduceEqDiff, Nat.reduceBEq, Int.reduceLE, Int.reduceLT, Int.reduceEq, Int.reduceNe, Int.reduceAdd, Int.reduceSub, Int.reduceMul, Int.reduceNeg, Int.reduceToNat, Int.reduceNatCast, reduceCtorEq, eq_self, cmpI, ordI, h]
  · refine awp_F (by simp (implicitDefEqProofs := false) only [↓reduceIte, go_sem, oread, owrite, Nat.reduceAdd, Nat.reduceSub, Nat.reduceMul, Nat.reduceLT, Nat.reduceLeDiff, Nat.reduceEqDiff, Nat.reduceBEq, Int.reduceLE, Int.reduceLT, Int.reduceEq, Int.reduceNe, Int.reduceAdd, Int.reduceSub, Int.reduceMul, Int.reduceNeg, Int.reduceToNat, Int.reduceNatCast, reduceCtorEq, eq_self, h]) ?_
    simp (implicitDefEqProofs := false) only [↓reduceIte, go_sem, oread, owrite, Nat.reduceAdd, Nat.reduceSub, Nat.reduceMul, Nat.reduceLT, Nat.reduceLeDiff, Nat.reduceEqDiff, Nat.reduceBEq, Int.reduceLE, Int.reduceLT, Int.reduceEq, Int.reduceNe, Int.reduceAdd, Int.reduceSub, Int.reduceMul, Int.reduceNeg, Int.reduceToNat, Int.reduceNatCast, reduceCtorEq, eq_self]
    by_cases h2 : b < a
    · refine awp_T (by simp (implicitDefEqProofs := false) only [↓reduceIte, go_sem, oread, owrite, Nat.reduceAdd, Nat.reduceSub, Nat.reduceMul, Nat.reduceLT, Nat.reduceLeDiff, Nat.reduceEqDiff, Nat.reduceBEq, Int.reduceLE, Int.reduceLT, Int.reduceEq, Int.reduceNe, Int.reduceAdd, Int.reduceSub, Int.reduceMul, Int.reduceNeg, Int.reduceToNat, Int.reduceNatCast, reduceCtorEq, eq_self, h2]) ?_
      simp (implicitDefEqProofs := false) only [↓reduceIte, go_sem, oread, owrite, Nat.reduceAdd, Nat.reduceSub, Nat.reduceMul, Nat.reduceLT, Nat.reduceLeDiff, Nat.reduceEqDiff, Nat.reduceBEq, Int.reduceLE, Int.reduceLT, Int.reduceEq, Int.reduceNe, Int.reduceAdd, Int.reduceSub, Int.reduceMul, Int.reduceNeg, Int.reduceToNat, Int.reduceNatCast, reduceCtorEq, eq_self]
      refine AEnd.ret0 ?_
      simp (implicitDefEqProofs := false) only [↓reduceIte, go_sem, oread, owrite, Nat.reduceAdd, Nat.reduceSub, Nat.reduceMul, Nat.reduceLT, Nat.reduceLeDiff, Nat.reduceEqDiff, Nat.reduceBEq, Int.reduceLE, Int.reduceLT, Int.reduceEq, Int.reduceNe, Int.reduceAdd, Int.reduceSub, Int.reduceMul, Int.reduceNeg, Int.reduceToNat, Int.reduceNatCast, reduceCtorEq, eq_self, cmpI, ordI, h, h2]
    · refine awp_F (by simp (implicitDefEqProofs := false) only [↓reduceIte, go_sem, oread, owrite, Nat.reduceAdd, Nat.reduceSub, Nat.reduceMul, Nat.reduceLT, Nat.reduceLeDiff, Nat.reduceEqDiff, Nat.reduceBEq, Int.reduceLE, Int.reduceLT, Int.reduceEq, Int.reduceNe, Int.reduceAdd, Int.reduceSub, Int.reduceMul, Int.reduceNeg, Int.reduceToNat, Int.reduceNatCast, reduceCtorEq, eq_self, h2]) ?_
      simp (implicitDefEqProofs := false) only [↓reduceIte, go_sem, oread, owrite, Nat.reduceAdd, Nat.reduceSub, Nat.reduceMul, Nat.reduceLT, Nat.reduceLeDiff, Nat.reduceEqDiff, Nat.reduceBEq, Int.reduceLE, Int.reduceLT, Int.reduceEq, Int.reduceNe, Int.reduceAdd, Int.reduceSub, Int.reduceMul, Int.reduceNeg, Int.reduceToNat, Int.reduceNatCast, reduceCtorEq, eq_self]
      refine AEnd.ret0 ?_
      simp (implicitDefEqProofs := false) only [↓reduceIte, go_sem, oread, owrite, Nat.reduceAdd, Nat.reduceSub, Nat.reduceMul, Nat.reduceLT, Nat.reduceLeDiff, Nat.reduceEqDiff, Nat.reduceBEq, Int.reduceLE, Int.reduceLT, Int.reduceEq, Int.reduceNe, Int.reduceAdd, Int.reduceSub, Int.reduceMul, Int.reduceNeg, Int.reduceToNat, Int.reduceNatCast, reduceCtorEq, eq_self, cmpI, ordI, h, h2]
set_option maxRecDepth 10000 in
theorem cmp_int64_does (a b : Int) (H : AHeap) : Does Try.prog 49 [iA a, iA b] H (.ok (iA (cmpI a b))) H := by
  refine Does.of_awp (hint := (fun _ => false)) Try.func49 (by kernel_rfl) rfl [4] (by kernel_rfl) (by decide) (by simp [Try.ntmps49]) ?_
  rw [Try.ntmps49]
  simp (implicitDefEqProofs := false) only [↓reduceIte, go_sem, oread, owrite, Nat.reduceAdd, Nat.reduceSub, Nat.reduceMul, Nat.reduceLT, Nat.reduceLeDiff, Nat.reduceEqDiff, Nat.reduceBEq, Int.reduceLE, Int.reduceLT, Int.reduceEq, Int.reduceNe, Int.reduceAdd, Int.reduceSub, Int.reduceMul, Int.reduceNeg, Int.reduceToNat, Int.reduceNatCast, reduceCtorEq, eq_self]
  refine KCall.ok (isNaN_int64_does a H) ?_
  simp (implicitDefEqProofs := false) only [↓reduceIte, go_sem, oread, owrite, Nat.reduceAdd, Nat.reduceSub, Nat.reduceMul, Nat.reduceLT, Nat.reduceLeDiff, Nat.reduceEqDiff, Nat.reduceBEq, Int.reduceLE, Int.reduceLT, Int.reduceEq, Int.reduceNe, Int.reduceAdd, Int.reduceSub, Int.reduceMul, Int.reduceNeg, Int.reduceToNat, Int.reduceNatCast, reduceCtorEq, eq_self]
  refine KCall.ok (isNaN_int64_does b H) ?_
  simp (implicitDefEqProofs := false) only [↓reduceIte, go_sem, oread, owrite, Nat.reduceAdd, Nat.reduceSub, Nat.reduceMul, Nat.reduceLT, Nat.reduceLeDiff, Nat.reduceEqDiff, Nat.reduceBEq, Int.reduceLE, Int.reduceLT, Int.reduceEq, Int.reduceNe, Int.reduceAdd, Int.reduceSub, Int.reduceMul, Int.reduceNeg, Int.reduceToNat, Int.reduceNatCast, reduceCtorEq, eq_self]
  by_cases h : a < b
  · refine awp_T (by simp (implicitDefEqProofs := false) only [↓reduceIte, go_sem, oread, owrite, Nat.reduceAdd, Nat.reduceSub, Nat.reduceMul, Nat.reduceLT, Nat.reduceLeDiff, Nat.reduceEqDiff, Nat.reduceBEq, Int.reduceLE, Int.reduceLT, Int.reduceEq, Int.reduceNe, Int.reduceAdd, Int.reduceSub, Int.reduceMul, Int.reduceNeg, Int.reduceToNat, Int.reduceNatCast, reduceCtorEq, eq_self, h]) ?_
    simp (implicitDefEqProofs := false) only [↓reduceIte, go_sem, oread, owrite, Nat.reduceAdd, Nat.reduceSub, Nat.reduceMul, Nat.reduceLT, Nat.reduceLeDiff, Nat.reduceEqDiff, Nat.reduceBEq, Int.reduceLE, Int.reduceLT, Int.reduceEq, Int.reduceNe, Int.reduceAdd, Int.reduceSub, Int.reduceMul, Int.reduceNeg, Int.reduceToNat, Int.reduceNatCast, reduceCtorEq, eq_self]
    refine AEnd.ret0 ?_
    simp (implicitDefEqProofs := false) only [↓reduceIte, go_sem, oread, owrite, Nat.reduceAdd, Nat.reduceSub, Nat.reduceMul, Nat.reduceLT, Nat.reduceLeDiff, Nat.reduceEqDiff, Nat.reduceBEq, Int.reduceLE, Int.reduceLT, Int.reduceEq, Int.reduceNe, Int.reduceAdd, Int.reduceSub, Int.reduceMul, Int.reduceNeg, Int.reduceToNat, Int.reduceNatCast, reduceCtorEq, eq_self, cmpI, ordI, h]
  · refine awp_F (by simp (implicitDefEqProofs := false) only [↓reduceIte, go_sem, oread, owrite, Nat.reduceAdd, Nat.reduceSub, Nat.reduceMul, Nat.reduceLT, Nat.reduceLeDiff, Nat.reduceEqDiff, Nat.reduceBEq, Int.reduceLE, Int.reduceLT, Int.reduceEq, Int.reduceNe, Int.reduceAdd, Int.reduceSub, Int.reduceMul, Int.reduceNeg, Int.reduceToNat, Int.reduceNatCast, reduceCtorEq, eq_self, h]) ?_
    simp (implicitDefEqProofs := false) only [↓reduceIte, go_sem, oread, owrite, Nat.reduceAdd, Nat.reduceSub, Nat.reduceMul, Nat.reduceLT, Nat.reduceLeDiff, Nat.reduceEqDiff, Nat.reduceBEq, Int.reduceLE, Int.reduceLT, Int.reduceEq, Int.reduceNe, Int.reduceAdd, Int.reduceSub, Int.reduceMul, Int.reduceNeg, Int.reduceToNat, Int.reduceNatCast, reduceCtorEq, eq_self]
    by_cases h2 : b < a
    · refine awp_T (by simp (implicitDefEqProofs := false) only [↓reduceIte, go_sem, oread, owrite, Nat.reduceAdd, Nat.reduceSub, Nat.reduceMul, Nat.reduceLT, Nat.reduceLeDiff, Nat.reduceEqDiff, Nat.reduceBEq, Int.reduceLE, Int.reduceLT, Int.reduceEq, Int.reduceNe, Int.reduceAdd, Int.reduceSub, Int.reduceMul, Int.reduceNeg, Int.reduceToNat, Int.reduceNatCast, reduceCtorEq, eq_self, h2]) ?_
      simp (implicitDefEqProofs := false) only [↓reduceIte, go_sem, oread, owrite, Nat.reduceAdd, Nat.reduceSub, Nat.reduceMul, Nat.reduceLT, Nat.reduceLeDiff, Nat.reduceEqDiff, Nat.reduceBEq, Int.reduceLE, Int.reduceLT, Int.reduceEq, Int.reduceNe, Int.reduceAdd, Int.reduceSub, Int.reduceMul, Int.reduceNeg, Int.reduceToNat, Int.reduceNatCast, reduceCtorEq, eq_self]
      refine AEnd.ret0 ?_
      simp (implicitDefEqProofs := false) only [↓reduceIte, go_sem, oread, owrite, Nat.reduceAdd, Nat.reduceSub, Nat.reduceMul, Nat.reduceLT, Nat.reduceLeDiff, Nat.reduceEqDiff, Nat.reduceBEq, Int.reduceLE, Int.reduceLT, Int.reduceEq, Int.reduceNe, Int.reduceAdd, Int.reduceSub, Int.reduceMul, Int.reduceNeg, Int.reduceToNat, Int.reduceNatCast, reduceCtorEq, eq_self, cmpI, ordI, h, h2]
    · refine awp_F (by simp (implicitDefEqProofs := false) only [↓reduceIte, go_sem, oread, owrite, Nat.reduceAdd, Nat.reduceSub, Nat.reduceMul, Nat.reduceLT, Nat.reduceLeDiff, Nat.reduceEqDiff, Nat.reduceBEq, Int.reduceLE, Int.reduceLT, Int.reduceEq, Int.reduceNe, Int.reduceAdd, Int.reduceSub, Int.reduceMul, Int.reduceNeg, Int.reduceToNat, Int.reduceNatCast, reduceCtorEq, eq_self, h2]) ?_
      simp (implicitDefEqProofs := false) only [↓reduceIte, go_sem, oread, owrite, Nat.reduceAdd, Nat.reduceSub, Nat.reduceMul, Nat.reduceLT, Nat.reduceLeDiff, Nat.reduceEqDiff, Nat.reduceBEq, Int.reduceLE, Int.reduceLT, Int.reduceEq, Int.reduceNe, Int.reduceAdd, Int.reduceSub, Int.reduceMul, Int.reduceNeg, Int.reduceToNat, Int.reduceNatCast, reduceCtorEq, eq_self]
      refine AEnd.ret0 ?_
      simp (implicitDefEqProofs := false) only [↓reduceIte, go_sem, oread, owrite, Nat.reduceAdd, Nat.reduceSub, Nat.reduceMul, Nat.reduceLT, Nat.reduceLeDiff, Nat.reduceEqDiff, Nat.reduceBEq, Int.reduceLE, Int.reduceLT, Int.reduceEq, Int.reduceNe, Int.reduceAdd, Int.reduceSub, Int.reduceMul, Int.reduceNeg, Int.reduceToNat, Int.reduceNatCast, reduceCtorEq, eq_self, cmpI, ordI, h, h2]
set_option maxRecDepth 10000 in
theorem cmp_string_does (a b : ByteArray) (H : AHeap) : Does Try.prog 51 [sA a, sA b] H (.ok (iA (cmpS a b))) H := by
  refine Does.of_awp (hint := (fun _ => false)) Try.func51 (by kernel_rfl) rfl [4] (by kernel_rfl) (by decide) (by simp [Try.ntmps51]) ?_
  rw [Try.ntmps51]
  simp (implicitDefEqProofs := false) only [↓reduceIte, go_sem, oread, owrite, Nat.reduceAdd, Nat.reduceSub, Nat.reduceMul, Nat.reduceLT, Nat.reduceLeDiff, Nat.reduceEqDiff, Nat.reduceBEq, Int.reduceLE, Int.reduceLT, Int.reduceEq, Int.reduceNe, Int.reduceAdd, Int.reduceSub, Int.reduceMul, Int.reduceNeg, Int.reduceToNat, Int.reduceNatCast, reduceCtorEq, eq_self]
  refine KCall.ok (isNaN_string_does a H) ?_
  simp (implicitDefEqProofs := false) only [↓reduceIte, go_sem, oread, owrite, Nat.reduceAdd, Nat.reduceSub, Nat.reduceMul, Nat.reduceLT, Nat.reduceLeDiff, Nat.reduceEqDiff, Nat.reduceBEq, Int.reduceLE, Int.reduceLT, Int.reduceEq, Int.reduceNe, Int.reduceAdd, Int.reduceSub, Int.reduceMul, Int.reduceNeg, Int.reduceToNat, Int.reduceNatCast, reduceCtorEq, eq_self]
  refine KCall.ok (isNaN_string_does b H) ?_
  simp (implicitDefEqProofs := false) only [↓reduceIte, go_sem, oread, owrite, Nat.reduceAdd, Nat.reduceSub, Nat.reduceMul, Nat.reduceLT, Nat.reduceLeDiff, Nat.reduceEqDiff, Nat.reduceBEq, Int.reduceLE, Int.reduceLT, Int.reduceEq, Int.reduceNe, Int.reduceAdd, Int.reduceSub, Int.reduceMul, Int.reduceNeg, Int.reduceToNat, Int.reduceNatCast, reduceCtorEq, eq_self]
  cases h : Op.bytesLess a.toList b.toList with
  | true =>
    refine awp_T (by simp (implicitDefEqProofs := false) only [↓reduceIte, go_sem, oread, owrite, Nat.reduceAdd, Nat.reduceSub, Nat.reduceMul, Nat.reduceLT, Nat.reduceLeDiff, Nat.reduceEqDiff, Nat.reduceBEq, Int.reduceLE, Int.reduceLT, Int.reduceEq, Int.reduceNe, Int.reduceAdd, Int.reduceSub, Int.reduceMul, Int.reduceNeg, Int.reduceToNat, Int.reduceNatCast, reduceCtorEq, eq_self, h]) ?_
    simp (implicitDefEqProofs := false) only [↓reduceIte, go_sem, oread, owrite, Nat.reduceAdd, Nat.reduceSub, Nat.reduceMul, Nat.reduceLT, Nat.reduceLeDiff, Nat.reduceEqDiff, Nat.reduceBEq, Int.reduceLE, Int.reduceLT, Int.reduceEq, Int.reduceNe, Int.reduceAdd, Int.reduceSub, Int.reduceMul, Int.reduceNeg, Int.reduceToNat, Int.reduceNatCast, reduceCtorEq, eq_self]
    refine AEnd.ret0 ?_
    simp (implicitDefEqProofs := false) only [↓reduceIte, go_sem, oread, owrite, Nat.reduceAdd, Nat.reduceSub, Nat.reduceMul, Nat.reduceLT, Nat.reduceLeDiff, Nat.reduceEqDiff, Nat.reduceBEq, Int.reduceLE, Int.reduceLT, Int.reduceEq, Int.reduceNe, Int.reduceAdd, Int.reduceSub, Int.reduceMul, Int.reduceNeg, Int.reduceToNat, Int.reduceNatCast, reduceCtorEq, eq_self, cmpS, ordI, lessS, h]
  | false =>
    refine awp_F (by simp (implicitDefEqProofs := false) only [↓reduceIte, go_sem, oread, owrite, Nat.reduceAdd, Nat.reduceSub, Nat.reduceMul, Nat.reduceLT, Nat.reduceLeDiff, Nat.reduceEqDiff, Nat.reduceBEq, Int.reduceLE, Int.reduceLT, Int.reduceEq, Int.reduceNe, Int.reduceAdd, Int.reduceSub, Int.reduceMul, Int.reduceNeg, Int.reduceToNat, Int.reduceNatCast, reduceCtorEq, eq_self, h]) ?_
    simp (implicitDefEqProofs := false) only [↓reduceIte, go_sem, oread, owrite, Nat.reduceAdd, Nat.reduceSub, Nat.reduceMul, Nat.reduceLT, Nat.reduceLeDiff, Nat.reduceEqDiff, Nat.reduceBEq, Int.reduceLE, Int.reduceLT, Int.reduceEq, Int.reduceNe, Int.reduceAdd, Int.reduceSub, Int.reduceMul, Int.reduceNeg, Int.reduceToNat, Int.reduceNatCast, reduceCtorEq, eq_self, h]
    cases h2 : (a.toList == b.toList) with
    | false =>
      refine awp_T (by simp (implicitDefEqProofs := false) only [↓reduceIte, go_sem, oread, owrite, Nat.reduceAdd, Nat.reduceSub, Nat.reduceMul, Nat.reduceLT, Nat.reduceLeDiff, Nat.reduceEqDiff, Nat.reduceBEq, Int.reduceLE, Int.reduceLT, Int.reduceEq, Int.reduceNe, Int.reduceAdd, Int.reduceSub, Int.reduceMul, Int.reduceNeg, Int.reduceToNat, Int.reduceNatCast, reduceCtorEq, eq_self, h2]) ?_
      simp (implicitDefEqProofs := false) only [↓reduceIte, go_sem, oread, owrite, Nat.reduceAdd, Nat.reduceSub, Nat.reduceMul, Nat.reduceLT, Nat.reduceLeDiff, Nat.reduceEqDiff, Nat.reduceBEq, Int.reduceLE, Int.reduceLT, Int.reduceEq, Int.reduceNe, Int.reduceAdd, Int.reduceSub, Int.reduceMul, Int.reduceNeg, Int.reduceToNat, Int.reduceNatCast, reduceCtorEq, eq_self]
      refine AEnd.ret0 ?_
      simp (implicitDefEqProofs := false) only [↓reduceIte, go_sem, oread, owrite, Nat.reduceAdd, Nat.reduceSub, Nat.reduceMul, Nat.reduceLT, Nat.reduceLeDiff, Nat.reduceEqDiff, Nat.reduceBEq, Int.reduceLE, Int.reduceLT, Int.reduceEq, Int.reduceNe, Int.reduceAdd, Int.reduceSub, Int.reduceMul, Int.reduceNeg, Int.reduceToNat, Int.reduceNatCast, reduceCtorEq, eq_self, cmpS, ordI, lessS, h, h2]
    | true =>
      refine awp_F (by simp (implicitDefEqProofs := false) only [↓reduceIte, go_sem, oread, owrite, Nat.reduceAdd, Nat.reduceSub, Nat.reduceMul, Nat.reduceLT, Nat.reduceLeDiff, Nat.reduceEqDiff, Nat.reduceBEq, Int.reduceLE, Int.reduceLT, Int.reduceEq, Int.reduceNe, Int.reduceAdd, Int.reduceSub, Int.reduceMul, Int.reduceNeg, Int.reduceToNat, Int.reduceNatCast, reduceCtorEq, eq_self, h2]) ?_
      simp (implicitDefEqProofs := false) only [↓reduceIte, go_sem, oread, owrite, Nat.reduceAdd, Nat.reduceSub, Nat.reduceMul, Nat.reduceLT, Nat.reduceLeDiff, Nat.reduceEqDiff, Nat.reduceBEq, Int.reduceLE, Int.reduceLT, Int.reduceEq, Int.reduceNe, Int.reduceAdd, Int.reduceSub, Int.reduceMul, Int.reduceNeg, Int.reduceToNat, Int.reduceNatCast, reduceCtorEq, eq_self]
      refine AEnd.ret0 ?_
      simp (implicitDefEqProofs := false) only [↓reduceIte, go_sem, oread, owrite, Nat.reduceAdd, Nat.reduceSub, Nat.reduceMul, Nat.reduceLT, Nat.reduceLeDiff, Nat.reduceEqDiff, Nat.reduceBEq, Int.reduceLE, Int.reduceLT, Int.reduceEq, Int.reduceNe, Int.reduceAdd, Int.reduceSub, Int.reduceMul, Int.reduceNeg, Int.reduceToNat, Int.reduceNatCast, reduceCtorEq, eq_self, cmpS, ordI, lessS, h, h2]
/-! ### Numbers with a point -/
theorem order_self (b : Nat) (hb : b < 18446744073709551616) : (FloatKind.f64.format.order b b != some .eq) = nanN b := by
  have key : ∀ d : Ieee.Datum, (d.order d != some .eq) = d.isNaN := by
    intro d
    cases d with
    | nan s f => rfl
    | infinity s => simp [Ieee.Datum.order, Ieee.Datum.isNaN]
    | number s m i => simp [Ieee.Datum.order, Ieee.Datum.isNaN]
  have h1 : (FloatKind.f64.format.order b b != some .eq) = (FloatKind.f64.format.read b).isNaN := key _
  rw [h1]
  have hs : FloatKind.f64.format.signWeight = 9223372036854775808 := by decide
  have hb' : FloatKind.f64.format.binade = 4503599627370496 := by decide
  have hi : FloatKind.f64.format.infRung = 9218868437227405312 := by decide
  unfold Ieee.Format.read nanN
  rw [hs, hb', hi]
  generalize b % 9223372036854775808 = r
  by_cases h1 : r < 4503599627370496
  · simp only [h1, if_true, Ieee.Datum.isNaN]; simp; omega
  · by_cases h2 : r < 9218868437227405312
    · simp only [h1, h2, if_true, if_false, Ieee.Datum.isNaN]; simp; omega
    · by_cases h3 : r = 9218868437227405312
      · subst h3; simp [Ieee.Datum.isNaN]
      · simp only [h1, h2, h3, if_false, Ieee.Datum.isNaN]; simp; omega
def frombitsEntry : Array Value → Sem Value := Extern.MathFloatBits.float64frombits
theorem frombits_does (n : Nat) (H : AHeap) : Does Try.prog 76 [du n] H (.ok (.d (.v (.float .f64 n)))) H := by
  intro φ N w vals hR hA
  have hv := RAs.closed [.int .u64 (n : Int)] hA
  subst hv
  refine .inr ⟨.float .f64 n, w, ?_, φ, N, hR, Since.refl, .d (.v _ rfl)⟩
  rw [run_callFunc_extern (e := frombitsEntry) Try.func76 (by kernel_rfl) (by kernel_rfl) (by kernel_rfl) (by kernel_rfl)]
  rfl
set_option maxRecDepth 10000 in
theorem fclean_does (b : Nat) (hb : b < 18446744073709551616) (H : AHeap) : Does Try.prog 73 [du b] H (.ok (du (cleanN b))) H := by
  refine Does.of_awp (hint := (fun _ => false)) Try.func73 (by kernel_rfl) rfl [2] (by kernel_rfl) (by decide) (by simp [Try.ntmps73]) ?_
  rw [Try.ntmps73]
  simp (implicitDefEqProofs := false) only [↓reduceIte, go_sem, oread, owrite, Nat.reduceAdd, Nat.reduceSub, Nat.reduceMul, Nat.reduceLT, Nat.reduceLeDiff, Nat.reduceEqDiff, Nat.reduceBEq, Int.reduceLE, Int.reduceLT, Int.reduceEq, Int.reduceNe, Int.reduceAdd, Int.reduceSub, Int.reduceMul, Int.reduceNeg, Int.reduceToNat, Int.reduceNatCast, reduceCtorEq, eq_self]
  refine KCall.ok (frombits_does b H) ?_
  simp (implicitDefEqProofs := false) only [↓reduceIte, go_sem, oread, owrite, Nat.reduceAdd, Nat.reduceSub, Nat.reduceMul, Nat.reduceLT, Nat.reduceLeDiff, Nat.reduceEqDiff, Nat.reduceBEq, Int.reduceLE, Int.reduceLT, Int.reduceEq, Int.reduceNe, Int.reduceAdd, Int.reduceSub, Int.reduceMul, Int.reduceNeg, Int.reduceToNat, Int.reduceNatCast, reduceCtorEq, eq_self, order_self b hb]
  cases h : nanN b with
  | true =>
    refine awp_T (by simp (implicitDefEqProofs := false) only [↓reduceIte, go_sem, oread, owrite, Nat.reduceAdd, Nat.reduceSub, Nat.reduceMul, Nat.reduceLT, Nat.reduceLeDiff, Nat.reduceEqDiff, Nat.reduceBEq, Int.reduceLE, Int.reduceLT, Int.reduceEq, Int.reduceNe, Int.reduceAdd, Int.reduceSub, Int.reduceMul, Int.reduceNeg, Int.reduceToNat, Int.reduceNatCast, reduceCtorEq, eq_self, h]) ?_
    simp (implicitDefEqProofs := false) only [↓reduceIte, go_sem, oread, owrite, Nat.reduceAdd, Nat.reduceSub, Nat.reduceMul, Nat.reduceLT, Nat.reduceLeDiff, Nat.reduceEqDiff, Nat.reduceBEq, Int.reduceLE, Int.reduceLT, Int.reduceEq, Int.reduceNe, Int.reduceAdd, Int.reduceSub, Int.reduceMul, Int.reduceNeg, Int.reduceToNat, Int.reduceNatCast, reduceCtorEq, eq_self]
    refine AEnd.ret0 ?_
    simp (implicitDefEqProofs := false) only [↓reduceIte, go_sem, oread, owrite, Nat.reduceAdd, Nat.reduceSub, Nat.reduceMul, Nat.reduceLT, Nat.reduceLeDiff, Nat.reduceEqDiff, Nat.reduceBEq, Int.reduceLE, Int.reduceLT, Int.reduceEq, Int.reduceNe, Int.reduceAdd, Int.reduceSub, Int.reduceMul, Int.reduceNeg, Int.reduceToNat, Int.reduceNatCast, reduceCtorEq, eq_self, cleanN, h, du]
  | false =>
    refine awp_F (by simp (implicitDefEqProofs := false) only [↓reduceIte, go_sem, oread, owrite, Nat.reduceAdd, Nat.reduceSub, Nat.reduceMul, Nat.reduceLT, Nat.reduceLeDiff, Nat.reduceEqDiff, Nat.reduceBEq, Int.reduceLE, Int.reduceLT, Int.reduceEq, Int.reduceNe, Int.reduceAdd, Int.reduceSub, Int.reduceMul, Int.reduceNeg, Int.reduceToNat, Int.reduceNatCast, reduceCtorEq, eq_self, h]) ?_
    simp (implicitDefEqProofs := false) only [↓reduceIte, go_sem, oread, owrite, Nat.reduceAdd, Nat.reduceSub, Nat.reduceMul, Nat.reduceLT, Nat.reduceLeDiff, Nat.reduceEqDiff, Nat.reduceBEq, Int.reduceLE, Int.reduceLT, Int.reduceEq, Int.reduceNe, Int.reduceAdd, Int.reduceSub, Int.reduceMul, Int.reduceNeg, Int.reduceToNat, Int.reduceNatCast, reduceCtorEq, eq_self]
    refine AEnd.ret0 ?_
    simp (implicitDefEqProofs := false) only [↓reduceIte, go_sem, oread, owrite, Nat.reduceAdd, Nat.reduceSub, Nat.reduceMul, Nat.reduceLT, Nat.reduceLeDiff, Nat.reduceEqDiff, Nat.reduceBEq, Int.reduceLE, Int.reduceLT, Int.reduceEq, Int.reduceNe, Int.reduceAdd, Int.reduceSub, Int.reduceMul, Int.reduceNeg, Int.reduceToNat, Int.reduceNatCast, reduceCtorEq, eq_self, cleanN, h, Bool.false_eq_true]
theorem orTop (c : Nat) (h : c < 9223372036854775808) : IntKind.u64.wrap (orI .u64 (c : Int) 9223372036854775808) = ((c + 9223372036854775808 : Nat) : Int) := by
  have e := bits_or_u64_nat c 9223372036854775808 (by omega) (by omega)
  have : c ||| 9223372036854775808 = c + 9223372036854775808 := by
    have := Nat.two_pow_add_eq_or_of_lt (i := 63) (b := c) (by omega) 1
    rw [Nat.or_comm]
    simpa [Nat.add_comm] using this.symm
  rw [this] at e
  exact e
theorem notU (c : Nat) (h : c < 18446744073709551616) : IntKind.u64.wrap (notI .u64 (c : Int)) = ((18446744073709551615 - c : Nat) : Int) := by
  have e := bits_xor_u64_nat 18446744073709551615 c (by omega) h
  have : 18446744073709551615 ^^^ c = 18446744073709551615 - c := by
    rw [Nat.xor_comm]
    have := Nat.testBit_two_pow_sub_succ (x := c) (n := 64) h
    apply Nat.eq_of_testBit_eq
    intro i
    rw [Nat.testBit_xor]
    have h2 := this i
    rw [show 2 ^ 64 - (c + 1) = 18446744073709551615 - c from by omega] at h2
    rw [h2]
    have h3 : (18446744073709551615 : Nat).testBit i = decide (i < 64) := by
      have := Nat.testBit_two_pow_sub_one 64 i
      simpa using this
    rw [h3]
    by_cases hi : i < 64
    · simp [hi]
    · have h5 : 2 ^ 64 ≤ 2 ^ i := Nat.pow_le_pow_right (by omega) (by omega)
      have : c.testBit i = false := Nat.testBit_lt_two_pow (by omega)
      simp [hi, this]
  rw [this] at e
  exact e
set_option maxRecDepth 10000 in
theorem fkey_does (b : Nat) (hb : b < 18446744073709551616) (H : AHeap) : Does Try.prog 68 [du b] H (.ok (du (keyN b))) H := by
  have hc := cleanN_lt b hb
  have k1 := fclean_does b hb H
  unfold keyN
  generalize cleanN b = c at hc k1 ⊢
  refine Does.of_awp (hint := (fun _ => false)) Try.func68 (by kernel_rfl) rfl [2] (by kernel_rfl) (by decide) (by simp [Try.ntmps68]) ?_
  rw [Try.ntmps68]
  simp (implicitDefEqProofs := false) only [↓reduceIte, go_sem, oread, owrite, Nat.reduceAdd, Nat.reduceSub, Nat.reduceMul, Nat.reduceLT, Nat.reduceLeDiff, Nat.reduceEqDiff, Nat.reduceBEq, Int.reduceLE, Int.reduceLT, Int.reduceEq, Int.reduceNe, Int.reduceAdd, Int.reduceSub, Int.reduceMul, Int.reduceNeg, Int.reduceToNat, Int.reduceNatCast, reduceCtorEq, eq_self]
  refine KCall.ok k1 ?_
  simp (implicitDefEqProofs := false) only [↓reduceIte, go_sem, oread, owrite, Nat.reduceAdd, Nat.reduceSub, Nat.reduceMul, Nat.reduceLT, Nat.reduceLeDiff, Nat.reduceEqDiff, Nat.reduceBEq, Int.reduceLE, Int.reduceLT, Int.reduceEq, Int.reduceNe, Int.reduceAdd, Int.reduceSub, Int.reduceMul, Int.reduceNeg, Int.reduceToNat, Int.reduceNatCast, reduceCtorEq, eq_self]
  by_cases h : 9223372036854775808 ≤ c
  · simp (implicitDefEqProofs := false) only [↓reduceIte, go_sem, oread, owrite, Nat.reduceAdd, Nat.reduceSub, Nat.reduceMul, Nat.reduceLT, Nat.reduceLeDiff, Nat.reduceEqDiff, Nat.reduceBEq, Int.reduceLE, Int.reduceLT, Int.reduceEq, Int.reduceNe, Int.reduceAdd, Int.reduceSub, Int.reduceMul, Int.reduceNeg, Int.reduceToNat, Int.reduceNatCast, reduceCtorEq, eq_self, show (9223372036854775808 : Int) ≤ c from by omega, notU c hc]
    refine AEnd.ret0 ?_
    simp (implicitDefEqProofs := false) only [↓reduceIte, go_sem, oread, owrite, Nat.reduceAdd, Nat.reduceSub, Nat.reduceMul, Nat.reduceLT, Nat.reduceLeDiff, Nat.reduceEqDiff, Nat.reduceBEq, Int.reduceLE, Int.reduceLT, Int.reduceEq, Int.reduceNe, Int.reduceAdd, Int.reduceSub, Int.reduceMul, Int.reduceNeg, Int.reduceToNat, Int.reduceNatCast, reduceCtorEq, eq_self, h, du]
  · simp (implicitDefEqProofs := false) only [↓reduceIte, go_sem, oread, owrite, Nat.reduceAdd, Nat.reduceSub, Nat.reduceMul, Nat.reduceLT, Nat.reduceLeDiff, Nat.reduceEqDiff, Nat.reduceBEq, Int.reduceLE, Int.reduceLT, Int.reduceEq, Int.reduceNe, Int.reduceAdd, Int.reduceSub, Int.reduceMul, Int.reduceNeg, Int.reduceToNat, Int.reduceNatCast, reduceCtorEq, eq_self, show ¬ (9223372036854775808 : Int) ≤ c from by omega, orTop c (by omega)]
    refine AEnd.ret0 ?_
    simp (implicitDefEqProofs := false) only [↓reduceIte, go_sem, oread, owrite, Nat.reduceAdd, Nat.reduceSub, Nat.reduceMul, Nat.reduceLT, Nat.reduceLeDiff, Nat.reduceEqDiff, Nat.reduceBEq, Int.reduceLE, Int.reduceLT, Int.reduceEq, Int.reduceNe, Int.reduceAdd, Int.reduceSub, Int.reduceMul, Int.reduceNeg, Int.reduceToNat, Int.reduceNatCast, reduceCtorEq, eq_self, h, du]
set_option maxRecDepth 10000 in
theorem fcmp_does (a b : Nat) (ha : a < 18446744073709551616) (hb : b < 18446744073709551616) (H : AHeap) : Does Try.prog 50 [du a, du b] H (.ok (iA (cmpF a b))) H := by
  have k1 := fkey_does a ha H
  have k2 := fkey_does b hb H
  unfold cmpF
  generalize keyN a = x at k1 ⊢
  generalize keyN b = y at k2 ⊢
  refine Does.of_awp (hint := (fun _ => false)) Try.func50 (by kernel_rfl) rfl [4] (by kernel_rfl) (by decide) (by simp [Try.ntmps50]) ?_
  rw [Try.ntmps50]
  simp (implicitDefEqProofs := false) only [↓reduceIte, go_sem, oread, owrite, Nat.reduceAdd, Nat.reduceSub, Nat.reduceMul, Nat.reduceLT, Nat.reduceLeDiff, Nat.reduceEqDiff, Nat.reduceBEq, Int.reduceLE, Int.reduceLT, Int.reduceEq, Int.reduceNe, Int.reduceAdd, Int.reduceSub, Int.reduceMul, Int.reduceNeg, Int.reduceToNat, Int.reduceNatCast, reduceCtorEq, eq_self]
  refine KCall.ok k1 ?_
  simp (implicitDefEqProofs := false) only [↓reduceIte, go_sem, oread, owrite, Nat.reduceAdd, Nat.reduceSub, Nat.reduceMul, Nat.reduceLT, Nat.reduceLeDiff, Nat.reduceEqDiff, Nat.reduceBEq, Int.reduceLE, Int.reduceLT, Int.reduceEq, Int.reduceNe, Int.reduceAdd, Int.reduceSub, Int.reduceMul, Int.reduceNeg, Int.reduceToNat, Int.reduceNatCast, reduceCtorEq, eq_self]
  refine KCall.ok k2 ?_
  simp (implicitDefEqProofs := false) only [↓reduceIte, go_sem, oread, owrite, Nat.reduceAdd, Nat.reduceSub, Nat.reduceMul, Nat.reduceLT, Nat.reduceLeDiff, Nat.reduceEqDiff, Nat.reduceBEq, Int.reduceLE, Int.reduceLT, Int.reduceEq, Int.reduceNe, Int.reduceAdd, Int.reduceSub, Int.reduceMul, Int.reduceNeg, Int.reduceToNat, Int.reduceNatCast, reduceCtorEq, eq_self]
  by_cases h : x < y
  · refine awp_T (by simp (implicitDefEqProofs := false) only [↓reduceIte, go_sem, oread, owrite, Nat.reduceAdd, Nat.reduceSub, Nat.reduceMul, Nat.reduceLT, Nat.reduceLeDiff, Nat.reduceEqDiff, Nat.reduceBEq, Int.reduceLE, Int.reduceLT, Int.reduceEq, Int.reduceNe, Int.reduceAdd, Int.reduceSub, Int.reduceMul, Int.reduceNeg, Int.reduceToNat, Int.reduceNatCast, reduceCtorEq, eq_self, h]) ?_
    simp (implicitDefEqProofs := false) only [↓reduceIte, go_sem, oread, owrite, Nat.reduceAdd, Nat.reduceSub, Nat.reduceMul, Nat.reduceLT, Nat.reduceLeDiff, Nat.reduceEqDiff, Nat.reduceBEq, Int.reduceLE, Int.reduceLT, Int.reduceEq, Int.reduceNe, Int.reduceAdd, Int.reduceSub, Int.reduceMul, Int.reduceNeg, Int.reduceToNat, Int.reduceNatCast, reduceCtorEq, eq_self]
    refine AEnd.ret0 ?_
    simp (implicitDefEqProofs := false) only [↓reduceIte, go_sem, oread, owrite, Nat.reduceAdd, Nat.reduceSub, Nat.reduceMul, Nat.reduceLT, Nat.reduceLeDiff, Nat.reduceEqDiff, Nat.reduceBEq, Int.reduceLE, Int.reduceLT, Int.reduceEq, Int.reduceNe, Int.reduceAdd, Int.reduceSub, Int.reduceMul, Int.reduceNeg, Int.reduceToNat, Int.reduceNatCast, reduceCtorEq, eq_self, ordI, h]
  · refine awp_F (by simp (implicitDefEqProofs := false) only [↓reduceIte, go_sem, oread, owrite, Nat.reduceAdd, Nat.reduceSub, Nat.reduceMul, Nat.reduceLT, Nat.reduceLeDiff, Nat.reduceEqDiff, Nat.reduceBEq, Int.reduceLE, Int.reduceLT, Int.reduceEq, Int.reduceNe, Int.reduceAdd, Int.reduceSub, Int.reduceMul, Int.reduceNeg, Int.reduceToNat, Int.reduceNatCast, reduceCtorEq, eq_self, h]) ?_
    simp (implicitDefEqProofs := false) only [↓reduceIte, go_sem, oread, owrite, Nat.reduceAdd, Nat.reduceSub, Nat.reduceMul, Nat.reduceLT, Nat.reduceLeDiff, Nat.reduceEqDiff, Nat.reduceBEq, Int.reduceLE, Int.reduceLT, Int.reduceEq, Int.reduceNe, Int.reduceAdd, Int.reduceSub, Int.reduceMul, Int.reduceNeg, Int.reduceToNat, Int.reduceNatCast, reduceCtorEq, eq_self]
    by_cases h2 : y < x
    · refine awp_T (by simp (implicitDefEqProofs := false) only [↓reduceIte, go_sem, oread, owrite, Nat.reduceAdd, Nat.reduceSub, Nat.reduceMul, Nat.reduceLT, Nat.reduceLeDiff, Nat.reduceEqDiff, Nat.reduceBEq, Int.reduceLE, Int.reduceLT, Int.reduceEq, Int.reduceNe, Int.reduceAdd, Int.reduceSub, Int.reduceMul, Int.reduceNeg, Int.reduceToNat, Int.reduceNatCast, reduceCtorEq, eq_self, h2]) ?_
      simp (implicitDefEqProofs := false) only [↓reduceIte, go_sem, oread, owrite, Nat.reduceAdd, Nat.reduceSub, Nat.reduceMul, Nat.reduceLT, Nat.reduceLeDiff, Nat.reduceEqDiff, Nat.reduceBEq, Int.reduceLE, Int.reduceLT, Int.reduceEq, Int.reduceNe, Int.reduceAdd, Int.reduceSub, Int.reduceMul, Int.reduceNeg, Int.reduceToNat, Int.reduceNatCast, reduceCtorEq, eq_self]
      refine AEnd.ret0 ?_
      simp (implicitDefEqProofs := false) only [↓reduceIte, go_sem, oread, owrite, Nat.reduceAdd, Nat.reduceSub, Nat.reduceMul, Nat.reduceLT, Nat.reduceLeDiff, Nat.reduceEqDiff, Nat.reduceBEq, Int.reduceLE, Int.reduceLT, Int.reduceEq, Int.reduceNe, Int.reduceAdd, Int.reduceSub, Int.reduceMul, Int.reduceNeg, Int.reduceToNat, Int.reduceNatCast, reduceCtorEq, eq_self, ordI, h, h2]
    · refine awp_F (by simp (implicitDefEqProofs := false) only [↓reduceIte, go_sem, oread, owrite, Nat.reduceAdd, Nat.reduceSub, Nat.reduceMul, Nat.reduceLT, Nat.reduceLeDiff, Nat.reduceEqDiff, Nat.reduceBEq, Int.reduceLE, Int.reduceLT, Int.reduceEq, Int.reduceNe, Int.reduceAdd, Int.reduceSub, Int.reduceMul, Int.reduceNeg, Int.reduceToNat, Int.reduceNatCast, reduceCtorEq, eq_self, h2]) ?_
      simp (implicitDefEqProofs := false) only [↓reduceIte, go_sem, oread, owrite, Nat.reduceAdd, Nat.reduceSub, Nat.reduceMul, Nat.reduceLT, Nat.reduceLeDiff, Nat.reduceEqDiff, Nat.reduceBEq, Int.reduceLE, Int.reduceLT, Int.reduceEq, Int.reduceNe, Int.reduceAdd, Int.reduceSub, Int.reduceMul, Int.reduceNeg, Int.reduceToNat, Int.reduceNatCast, reduceCtorEq, eq_self]
      refine AEnd.ret0 ?_
      simp (implicitDefEqProofs := false) only [↓reduceIte, go_sem, oread, owrite, Nat.reduceAdd, Nat.reduceSub, Nat.reduceMul, Nat.reduceLT, Nat.reduceLeDiff, Nat.reduceEqDiff, Nat.reduceBEq, Int.reduceLE, Int.reduceLT, Int.reduceEq, Int.reduceNe, Int.reduceAdd, Int.reduceSub, Int.reduceMul, Int.reduceNeg, Int.reduceToNat, Int.reduceNatCast, reduceCtorEq, eq_self, ordI, h, h2]
/-- A value as an argument. -/
abbrev Val.av (v : Val) : AV := .agg [iA v.kind, iA v.i, sA v.s]
set_option maxRecDepth 10000 in
set_option maxHeartbeats 1000000 in
theorem vcmp_does (a b : Val) (H : AHeap) : Does Try.prog 27 [a.av, b.av] H (.ok (iA (cmpV a b))) H := by
  unfold cmpV
  refine Does.of_awp (hint := (fun _ => false)) Try.func27 (by kernel_rfl) rfl [4] (by kernel_rfl) (by decide) (by simp [Try.ntmps27]) ?_
  rw [Try.ntmps27]
  simp (implicitDefEqProofs := false) only [↓reduceIte, go_sem, oread, owrite, Nat.reduceAdd, Nat.reduceSub, Nat.reduceMul, Nat.reduceLT, Nat.reduceLeDiff, Nat.reduceEqDiff, Nat.reduceBEq, Int.reduceLE, Int.reduceLT, Int.reduceEq, Int.reduceNe, Int.reduceAdd, Int.reduceSub, Int.reduceMul, Int.reduceNeg, Int.reduceToNat, Int.reduceNatCast, reduceCtorEq, eq_self]
  by_cases h : a.kind = b.kind
  · refine awp_F (by simp (implicitDefEqProofs := false) only [↓reduceIte, go_sem, oread, owrite, Nat.reduceAdd, Nat.reduceSub, Nat.reduceMul, Nat.reduceLT, Nat.reduceLeDiff, Nat.reduceEqDiff, Nat.reduceBEq, Int.reduceLE, Int.reduceLT, Int.reduceEq, Int.reduceNe, Int.reduceAdd, Int.reduceSub, Int.reduceMul, Int.reduceNeg, Int.reduceToNat, Int.reduceNatCast, reduceCtorEq, eq_self, h]) ?_
    simp (implicitDefEqProofs := false) only [↓reduceIte, go_sem, oread, owrite, Nat.reduceAdd, Nat.reduceSub, Nat.reduceMul, Nat.reduceLT, Nat.reduceLeDiff, Nat.reduceEqDiff, Nat.reduceBEq, Int.reduceLE, Int.reduceLT, Int.reduceEq, Int.reduceNe, Int.reduceAdd, Int.reduceSub, Int.reduceMul, Int.reduceNeg, Int.reduceToNat, Int.reduceNatCast, reduceCtorEq, eq_self]
    by_cases h1 : a.kind = 1
    · refine awp_T (by simp (implicitDefEqProofs := false) only [↓reduceIte, go_sem, oread, owrite, Nat.reduceAdd, Nat.reduceSub, Nat.reduceMul, Nat.reduceLT, Nat.reduceLeDiff, Nat.reduceEqDiff, Nat.reduceBEq, Int.reduceLE, Int.reduceLT, Int.reduceEq, Int.reduceNe, Int.reduceAdd, Int.reduceSub, Int.reduceMul, Int.reduceNeg, Int.reduceToNat, Int.reduceNatCast, reduceCtorEq, eq_self, h1]) ?_
      simp (implicitDefEqProofs := false) only [↓reduceIte, go_sem, oread, owrite, Nat.reduceAdd, Nat.reduceSub, Nat.reduceMul, Nat.reduceLT, Nat.reduceLeDiff, Nat.reduceEqDiff, Nat.reduceBEq, Int.reduceLE, Int.reduceLT, Int.reduceEq, Int.reduceNe, Int.reduceAdd, Int.reduceSub, Int.reduceMul, Int.reduceNeg, Int.reduceToNat, Int.reduceNatCast, reduceCtorEq, eq_self]
      refine KCall.ok (cmp_int64_does _ _ _) ?_
      simp (implicitDefEqProofs := false) only [↓reduceIte, go_sem, oread, owrite, Nat.reduceAdd, Nat.reduceSub, Nat.reduceMul, Nat.reduceLT, Nat.reduceLeDiff, Nat.reduceEqDiff, Nat.reduceBEq, Int.reduceLE, Int.reduceLT, Int.reduceEq, Int.reduceNe, Int.reduceAdd, Int.reduceSub, Int.reduceMul, Int.reduceNeg, Int.reduceToNat, Int.reduceNatCast, reduceCtorEq, eq_self]
      refine AEnd.ret ?_
      simp (implicitDefEqProofs := false) only [↓reduceIte, go_sem, oread, owrite, Nat.reduceAdd, Nat.reduceSub, Nat.reduceMul, Nat.reduceLT, Nat.reduceLeDiff, Nat.reduceEqDiff, Nat.reduceBEq, Int.reduceLE, Int.reduceLT, Int.reduceEq, Int.reduceNe, Int.reduceAdd, Int.reduceSub, Int.reduceMul, Int.reduceNeg, Int.reduceToNat, Int.reduceNatCast, reduceCtorEq, eq_self, h1, ← h]
    · refine awp_F (by simp (implicitDefEqProofs := false) only [↓reduceIte, go_sem, oread, owrite, Nat.reduceAdd, Nat.reduceSub, Nat.reduceMul, Nat.reduceLT, Nat.reduceLeDiff, Nat.reduceEqDiff, Nat.reduceBEq, Int.reduceLE, Int.reduceLT, Int.reduceEq, Int.reduceNe, Int.reduceAdd, Int.reduceSub, Int.reduceMul, Int.reduceNeg, Int.reduceToNat, Int.reduceNatCast, reduceCtorEq, eq_self, h1]) ?_
      simp (implicitDefEqProofs := false) only [↓reduceIte, go_sem, oread, owrite, Nat.reduceAdd, Nat.reduceSub, Nat.reduceMul, Nat.reduceLT, Nat.reduceLeDiff, Nat.reduceEqDiff, Nat.reduceBEq, Int.reduceLE, Int.reduceLT, Int.reduceEq, Int.reduceNe, Int.reduceAdd, Int.reduceSub, Int.reduceMul, Int.reduceNeg, Int.reduceToNat, Int.reduceNatCast, reduceCtorEq, eq_self]
      by_cases h2 : a.kind = 2
      · refine awp_T (by simp (implicitDefEqProofs := false) only [↓reduceIte, go_sem, oread, owrite, Nat.reduceAdd, Nat.reduceSub, Nat.reduceMul, Nat.reduceLT, Nat.reduceLeDiff, Nat.reduceEqDiff, Nat.reduceBEq, Int.reduceLE, Int.reduceLT, Int.reduceEq, Int.reduceNe, Int.reduceAdd, Int.reduceSub, Int.reduceMul, Int.reduceNeg, Int.reduceToNat, Int.reduceNatCast, reduceCtorEq, eq_self, h2]) ?_
        simp (implicitDefEqProofs := false) only [↓reduceIte, go_sem, oread, owrite, Nat.reduceAdd, Nat.reduceSub, Nat.reduceMul, Nat.reduceLT, Nat.reduceLeDiff, Nat.reduceEqDiff, Nat.reduceBEq, Int.reduceLE, Int.reduceLT, Int.reduceEq, Int.reduceNe, Int.reduceAdd, Int.reduceSub, Int.reduceMul, Int.reduceNeg, Int.reduceToNat, Int.reduceNatCast, reduceCtorEq, eq_self, wrap_toU]
        refine KCall.ok (fcmp_does _ _ (toU_lt _) (toU_lt _) _) ?_
        simp (implicitDefEqProofs := false) only [↓reduceIte, go_sem, oread, owrite, Nat.reduceAdd, Nat.reduceSub, Nat.reduceMul, Nat.reduceLT, Nat.reduceLeDiff, Nat.reduceEqDiff, Nat.reduceBEq, Int.reduceLE, Int.reduceLT, Int.reduceEq, Int.reduceNe, Int.reduceAdd, Int.reduceSub, Int.reduceMul, Int.reduceNeg, Int.reduceToNat, Int.reduceNatCast, reduceCtorEq, eq_self]
        refine AEnd.ret ?_
        simp (implicitDefEqProofs := false) only [↓reduceIte, go_sem, oread, owrite, Nat.reduceAdd, Nat.reduceSub, Nat.reduceMul, Nat.reduceLT, Nat.reduceLeDiff, Nat.reduceEqDiff, Nat.reduceBEq, Int.reduceLE, Int.reduceLT, Int.reduceEq, Int.reduceNe, Int.reduceAdd, Int.reduceSub, Int.reduceMul, Int.reduceNeg, Int.reduceToNat, Int.reduceNatCast, reduceCtorEq, eq_self, h2, ← h]
      · refine awp_F (by simp (implicitDefEqProofs := false) only [↓reduceIte, go_sem, oread, owrite, Nat.reduceAdd, Nat.reduceSub, Nat.reduceMul, Nat.reduceLT, Nat.reduceLeDiff, Nat.reduceEqDiff, Nat.reduceBEq, Int.reduceLE, Int.reduceLT, Int.reduceEq, Int.reduceNe, Int.reduceAdd, Int.reduceSub, Int.reduceMul, Int.reduceNeg, Int.reduceToNat, Int.reduceNatCast, reduceCtorEq, eq_self, h2]) ?_
        simp (implicitDefEqProofs := false) only [↓reduceIte, go_sem, oread, owrite, Nat.reduceAdd, Nat.reduceSub, Nat.reduceMul, Nat.reduceLT, Nat.reduceLeDiff, Nat.reduceEqDiff, Nat.reduceBEq, Int.reduceLE, Int.reduceLT, Int.reduceEq, Int.reduceNe, Int.reduceAdd, Int.reduceSub, Int.reduceMul, Int.reduceNeg, Int.reduceToNat, Int.reduceNatCast, reduceCtorEq, eq_self]
        by_cases h3 : a.kind = 3
        · refine awp_T (by simp (implicitDefEqProofs := false) only [↓reduceIte, go_sem, oread, owrite, Nat.reduceAdd, Nat.reduceSub, Nat.reduceMul, Nat.reduceLT, Nat.reduceLeDiff, Nat.reduceEqDiff, Nat.reduceBEq, Int.reduceLE, Int.reduceLT, Int.reduceEq, Int.reduceNe, Int.reduceAdd, Int.reduceSub, Int.reduceMul, Int.reduceNeg, Int.reduceToNat, Int.reduceNatCast, reduceCtorEq, eq_self, h3]) ?_
          simp (implicitDefEqProofs := false) only [↓reduceIte, go_sem, oread, owrite, Nat.reduceAdd, Nat.reduceSub, Nat.reduceMul, Nat.reduceLT, Nat.reduceLeDiff, Nat.reduceEqDiff, Nat.reduceBEq, Int.reduceLE, Int.reduceLT, Int.reduceEq, Int.reduceNe, Int.reduceAdd, Int.reduceSub, Int.reduceMul, Int.reduceNeg, Int.reduceToNat, Int.reduceNatCast, reduceCtorEq, eq_self]
          refine KCall.ok (cmp_string_does _ _ _) ?_
          simp (implicitDefEqProofs := false) only [↓reduceIte, go_sem, oread, owrite, Nat.reduceAdd, Nat.reduceSub, Nat.reduceMul, Nat.reduceLT, Nat.reduceLeDiff, Nat.reduceEqDiff, Nat.reduceBEq, Int.reduceLE, Int.reduceLT, Int.reduceEq, Int.reduceNe, Int.reduceAdd, Int.reduceSub, Int.reduceMul, Int.reduceNeg, Int.reduceToNat, Int.reduceNatCast, reduceCtorEq, eq_self]
          refine AEnd.ret ?_
          simp (implicitDefEqProofs := false) only [↓reduceIte, go_sem, oread, owrite, Nat.reduceAdd, Nat.reduceSub, Nat.reduceMul, Nat.reduceLT, Nat.reduceLeDiff, Nat.reduceEqDiff, Nat.reduceBEq, Int.reduceLE, Int.reduceLT, Int.reduceEq, Int.reduceNe, Int.reduceAdd, Int.reduceSub, Int.reduceMul, Int.reduceNeg, Int.reduceToNat, Int.reduceNatCast, reduceCtorEq, eq_self, h3, ← h]
        · refine awp_F (by simp (implicitDefEqProofs := false) only [↓reduceIte, go_sem, oread, owrite, Nat.reduceAdd, Nat.reduceSub, Nat.reduceMul, Nat.reduceLT, Nat.reduceLeDiff, Nat.reduceEqDiff, Nat.reduceBEq, Int.reduceLE, Int.reduceLT, Int.reduceEq, Int.reduceNe, Int.reduceAdd, Int.reduceSub, Int.reduceMul, Int.reduceNeg, Int.reduceToNat, Int.reduceNatCast, reduceCtorEq, eq_self, h3]) ?_
          simp (implicitDefEqProofs := false) only [↓reduceIte, go_sem, oread, owrite, Nat.reduceAdd, Nat.reduceSub, Nat.reduceMul, Nat.reduceLT, Nat.reduceLeDiff, Nat.reduceEqDiff, Nat.reduceBEq, Int.reduceLE, Int.reduceLT, Int.reduceEq, Int.reduceNe, Int.reduceAdd, Int.reduceSub, Int.reduceMul, Int.reduceNeg, Int.reduceToNat, Int.reduceNatCast, reduceCtorEq, eq_self]
          refine AEnd.ret ?_
          simp (implicitDefEqProofs := false) only [↓reduceIte, go_sem, oread, owrite, Nat.reduceAdd, Nat.reduceSub, Nat.reduceMul, Nat.reduceLT, Nat.reduceLeDiff, Nat.reduceEqDiff, Nat.reduceBEq, Int.reduceLE, Int.reduceLT, Int.reduceEq, Int.reduceNe, Int.reduceAdd, Int.reduceSub, Int.reduceMul, Int.reduceNeg, Int.reduceToNat, Int.reduceNatCast, reduceCtorEq, eq_self, h1, h2, h3, ← h]
  · refine awp_T (by simp (implicitDefEqProofs := false) only [↓reduceIte, go_sem, oread, owrite, Nat.reduceAdd, Nat.reduceSub, Nat.reduceMul, Nat.reduceLT, Nat.reduceLeDiff, Nat.reduceEqDiff, Nat.reduceBEq, Int.reduceLE, Int.reduceLT, Int.reduceEq, Int.reduceNe, Int.reduceAdd, Int.reduceSub, Int.reduceMul, Int.reduceNeg, Int.reduceToNat, Int.reduceNatCast, reduceCtorEq, eq_self, h]) ?_
    simp (implicitDefEqProofs := false) only [↓reduceIte, go_sem, oread, owrite, Nat.reduceAdd, Nat.reduceSub, Nat.reduceMul, Nat.reduceLT, Nat.reduceLeDiff, Nat.reduceEqDiff, Nat.reduceBEq, Int.reduceLE, Int.reduceLT, Int.reduceEq, Int.reduceNe, Int.reduceAdd, Int.reduceSub, Int.reduceMul, Int.reduceNeg, Int.reduceToNat, Int.reduceNatCast, reduceCtorEq, eq_self]
    refine KCall.ok (cmp_int_does _ _ _) ?_
    simp (implicitDefEqProofs := false) only [↓reduceIte, go_sem, oread, owrite, Nat.reduceAdd, Nat.reduceSub, Nat.reduceMul, Nat.reduceLT, Nat.reduceLeDiff, Nat.reduceEqDiff, Nat.reduceBEq, Int.reduceLE, Int.reduceLT, Int.reduceEq, Int.reduceNe, Int.reduceAdd, Int.reduceSub, Int.reduceMul, Int.reduceNeg, Int.reduceToNat, Int.reduceNatCast, reduceCtorEq, eq_self]
    refine AEnd.ret ?_
    simp (implicitDefEqProofs := false) only [↓reduceIte, go_sem, oread, owrite, Nat.reduceAdd, Nat.reduceSub, Nat.reduceMul, Nat.reduceLT, Nat.reduceLeDiff, Nat.reduceEqDiff, Nat.reduceBEq, Int.reduceLE, Int.reduceLT, Int.reduceEq, Int.reduceNe, Int.reduceAdd, Int.reduceSub, Int.reduceMul, Int.reduceNeg, Int.reduceToNat, Int.reduceNatCast, reduceCtorEq, eq_self, h]
end Go.Proofs.Ytfmmemboakdeiaa
namespace Go.Proofs.YtfmmemboakdeiaaAw
open Go.RowKit
set_option linter.unusedVariables false
set_option linter.unusedSimpArgs false
def resAV (P : Program) (H : AHeap) (s : Nat → AV) : ResultVar → Option AV
  | .tmp t => some (s t)
  | .cell a t => (agB P t).bind fun b => if b = true then (TI P t).bind fun z => (aread H z.2.1 (s a)).map .agg else as1 (aread H 1 (s a))
def resAll (P : Program) (H : AHeap) (s : Nat → AV) : List ResultVar → Option (List AV)
  | [] => some []
  | r :: rs => (resAV P H s r).bind fun x => (resAll P H s rs).map (x :: ·)
def AEndC (P : Program) (rs : List ResultVar) (H0 : AHeap) (res : ARes) (H' : AHeap) : Post := fun e s H =>
  match e with
  | .normal | .ret => ∃ avs s', resAll P H s rs = some avs ∧ Weak H0 (fun t => avs.getD t .top) H s' H' ∧ res = .ok (ares (List.range avs.length) s')
  | .panic v => ∃ s', Weak H0 s H s' H' ∧ res = .panic v
  | _ => False
section
variable {P : Program} {H : AHeap} {φ : Phi} {N : Addr → Prop} {w : World} {s : Nat → AV} {a : Act}
theorem loadVar_agg (hR : Rel H φ N w) {x : AV} {v : Value} (hx : RA H φ N w x v) {t : TypeId} (hg : agB P t = some true) {z : Value} {k b : Nat} (hi : TI P t = some (z, k, b)) {cs : List AV} (h : aread H k x = some cs) :
    ∃ ad u, v = .pointer (some ad) ∧ (loadVar t ad).run P w = .ok u w ∧ RA H φ N w (.agg cs) u := by
  obtain ⟨hl, ad, hv, hh⟩ := aread_ok hR hx h
  let f : Nat → Value := fun t => if ht : t < cs.length then (hh t ht).choose else undef
  have hf : ∀ t (ht : t < cs.length), w.cell? (ad.add t) = some (f t) ∧ RA H φ N w (cs[t]) (f t) := fun t ht => by
    simp only [f, ht, dif_pos]; exact (hh t ht).choose_spec
  have hrun := run_loadCells (P := P) w ad k f fun j hj => (hf j (by omega)).1
  refine ⟨ad, .agg ((List.range k).map f).toArray, hv, ?_, .agg _ _ (by simp [hl]) fun i h1 h2 => ?_⟩
  · simp only [loadVar, Sem.run_bind, agB.run hg, Result.andThen_ok, if_true, TI.sizeOf hi, hrun, Sem.run_pure]
  · simp only [List.getElem_toArray, List.getElem_map, List.getElem_range]
    exact (hf i h1).2
theorem loadVar_one (hR : Rel H φ N w) {x : AV} {v : Value} (hx : RA H φ N w x v) {t : TypeId} (hg : agB P t = some false) {c : AV} (h : aread H 1 x = some [c]) :
    ∃ ad u, v = .pointer (some ad) ∧ (loadVar t ad).run P w = .ok u w ∧ RA H φ N w c u := by
  obtain ⟨hl, ad, hv, hh⟩ := aread_ok hR hx h
  obtain ⟨u, hu, hr⟩ := hh 0 (by simp)
  have hu' : w.cell? ad = some u := by simpa [Addr.add] using hu
  exact ⟨ad, u, hv, by simp only [loadVar, Sem.run_bind, agB.run hg, Result.andThen_ok, Bool.false_eq_true, if_false, run_load, hu'], hr⟩
theorem resAV_ok (hR : Rel H φ N w) (hT : TRel H φ N w s a) {r : ResultVar} {x : AV} (h : resAV P H s r = some x) :
    ∃ u, (match r with | .tmp t => pure (a.tmps.getD t undef) | .cell b t => do loadVar t (← asAddr (a.tmps.getD b undef)) : Sem Value).run P w = .ok u w ∧ RA H φ N w x u := by
  cases r with
  | tmp t => cases h; exact ⟨_, rfl, hT t⟩
  | cell b t =>
    simp only [resAV] at h
    obtain ⟨g, hg, h⟩ := Option.bind_eq_some_iff.1 h
    cases g with
    | true =>
      rw [if_pos rfl] at h
      obtain ⟨⟨z, k, bb⟩, hz, h⟩ := Option.bind_eq_some_iff.1 h
      obtain ⟨cs, hc, rfl⟩ := Option.map_eq_some_iff.1 h
      obtain ⟨ad, u, hv, hrun, hu⟩ := loadVar_agg hR (hT b) hg hz hc
      exact ⟨u, by simp only [hv, Sem.run_bind, asAddr, Sem.run_pure, Result.andThen_ok, hrun], hu⟩
    | false =>
      rw [if_neg (by simp)] at h
      have hc : aread H 1 (s b) = some [x] := by
        revert h
        cases aread H 1 (s b) with
        | none => intro h; cases h
        | some l => rcases l with _ | ⟨c, _ | ⟨d, l⟩⟩ <;> intro h <;> cases h; rfl
      obtain ⟨ad, u, hv, hrun, hu⟩ := loadVar_one hR (hT b) hg hc
      exact ⟨u, by simp only [hv, Sem.run_bind, asAddr, Sem.run_pure, Result.andThen_ok, hrun], hu⟩
theorem resAll_ok (hR : Rel H φ N w) (hT : TRel H φ N w s a) : ∀ {rs : List ResultVar} {xs : List AV}, resAll P H s rs = some xs →
    ∃ us : List Value, (rs.mapM fun r => (match r with | .tmp t => pure (a.tmps.getD t undef) | .cell b t => do loadVar t (← asAddr (a.tmps.getD b undef)) : Sem Value)).run P w = .ok us w ∧ xs.length = us.length ∧ ∀ i (h1 : i < xs.length) (h2 : i < us.length), RA H φ N w (xs[i]) (us[i])
  | [], xs, h => by cases h; exact ⟨[], rfl, rfl, fun i h1 => by simp at h1⟩
  | r :: rs, xs, h => by
    simp only [resAll] at h
    obtain ⟨x, hx, h⟩ := Option.bind_eq_some_iff.1 h
    obtain ⟨ys, hy, rfl⟩ := Option.map_eq_some_iff.1 h
    obtain ⟨u, hu, ru⟩ := resAV_ok hR hT hx
    obtain ⟨us, hus, hl, rus⟩ := resAll_ok hR hT hy
    refine ⟨u :: us, ?_, by simp [hl], fun i h1 h2 => ?_⟩
    · rw [List.mapM_cons, Sem.run_bind, hu]
      simp only [Result.andThen_ok, Sem.run_bind, hus, Sem.run_pure]
    · cases i with
      | zero => exact ru
      | succ i => simpa using rus i (by simpa using h1) (by simpa using h2)
theorem results_run {fn : Func} {us : List Value} {tmps : Array Value} (h : (fn.results.toList.mapM fun r => (match r with | .tmp t => pure (tmps.getD t undef) | .cell b t => do loadVar t (← asAddr (tmps.getD b undef)) : Sem Value)).run P w = .ok us w) :
    (results fn tmps).run P w = .ok (match us with | [u] => u | l => .tuple l.toArray) w := by
  unfold results
  rw [Sem.run_bind, Array.mapM_eq_mapM_toList, Sem.run_map]
  refine (congrArg (fun r => (Result.andThen r fun a w' => Result.ok (List.toArray a) w').andThen fun vs w' => Sem.run P (pure (if h : vs.size = 1 then vs[0] else .tuple vs)) w') (Eq.trans ?_ h)).trans ?_
  · congr 1
  · simp only [Result.andThen_ok, Sem.run_pure]
    match us with
    | [] => rfl
    | [u] => rfl
    | u :: v :: l => simp
theorem ares_many (l : List Tmp) (h : l.length ≠ 1) (s : Nat → AV) : ares l s = .tup (l.map s) := by
  rcases l with _ | ⟨a, _ | ⟨b, l⟩⟩
  · rfl
  · exact absurd rfl h
  · rfl
/-- The contract of a function out of its body, where results may lie in memory. -/
theorem Does.of_awpC {hint : Nat → Bool} {f : FuncId} {fn : Func} {body : Code} (hf : P.funcs[f]? = some fn) (hn : (fn.name == "runtime.NumGoroutine") = false) (hb : fn.body = some body) (rs : List ResultVar) (hr : fn.results.toList = rs)
    {args : List AV} {H : AHeap} {res : ARes} {H' : AHeap} (ha : args.length ≤ fn.ntmps) (h : awp P hint fn.ntmps H body (AEndC P rs H res H') (ainit args) H) : Does P f args H res H' := by
  intro φ N w vals hR hA
  refine .inl ⟨enter_run hf hn (by rw [hb]; rfl) vals w, calls_of_wp hf hb ?_⟩
  have hI : Inv H φ N w fn.ntmps [] (ainit args) H φ N { tmps := vals ++ Array.replicate (fn.ntmps - vals.size) undef, defers := [] } w := by
    refine ⟨hR, fun t => ?_, Since.refl, by simp; have := hA.1; omega, rfl⟩
    simp only [ainit]
    by_cases ht : t < args.length
    · have ht' : t < vals.size := by rw [← hA.1]; exact ht
      have := hA.2 t ht ht'
      have e1 : args.getD t .top = args[t] := by simp [List.getD, ht]
      have e2 : (vals ++ Array.replicate (fn.ntmps - vals.size) undef).getD t undef = vals[t] := by
        rw [Array.getD_eq_getD_getElem?, Array.getElem?_append_left ht']; simp [ht']
      rw [e1, e2]
      exact this
    · have e1 : args.getD t .top = .top := by simp [List.getD, List.getElem?_eq_none (Nat.le_of_not_lt ht)]
      rw [e1]
      exact .top _
  refine wp_mono (awp_ok hR body _ hI h) ?_
  rintro e a' w' ⟨ax, s', H1, φ1, N1, rfl, hq, hI1⟩
  have fin : (∃ avs s'', resAll P H1 s' rs = some avs ∧ Weak H (fun t => avs.getD t .top) H1 s'' H' ∧ res = .ok (ares (List.range avs.length) s'')) → a'.defers = [] ∧ ∃ v, (results fn a'.tmps).run P w' = .ok v w' ∧ ∃ φ' N', Rel H' φ' N' w' ∧ Since H φ N w H' φ' N' w' ∧ REnd H' φ' N' w' res (.returned v) := by
    rintro ⟨avs, s'', hav, hW, rfl⟩
    obtain ⟨us, hus, hl, hru⟩ := resAll_ok hI1.rel hI1.tmps hav
    have hI2 : Inv H φ N w us.length [] (fun t => avs.getD t .top) H1 φ1 N1 { tmps := us.toArray, defers := [] } w' := by
      refine ⟨hI1.rel, fun t => ?_, hI1.since, by simp, rfl⟩
      by_cases ht : t < avs.length
      · have e1 : avs.getD t .top = avs[t] := by simp [List.getD, ht]
        have e2 : (us.toArray : Array Value).getD t undef = us[t]'(by omega) := by
          rw [Array.getD_eq_getD_getElem?]; simp [show t < us.length by omega]
        simp only [e1, e2]
        exact hru t ht (by omega)
      · have e1 : avs.getD t .top = .top := by simp [List.getD, List.getElem?_eq_none (Nat.le_of_not_lt ht)]
        simp only [e1]
        exact .top _
    obtain ⟨φ2, N2, hI3⟩ := hW.ok hR hI2
    refine ⟨hI1.defers, _, results_run (by rw [hr]; exact hus), φ2, N2, hI3.rel, hI3.since, ?_⟩
    have at_ : ∀ t, RA H' φ2 N2 w' (s'' t) ((us.toArray : Array Value).getD t undef) := hI3.tmps
    show RA H' φ2 N2 w' (ares (List.range avs.length) s'') _
    match us, hl with
    | [], hl =>
      have : avs = [] := List.eq_nil_of_length_eq_zero hl
      subst this
      exact .tup _ _ rfl fun i h1 => by simp at h1
    | [u], hl =>
      have : avs.length = 1 := hl
      rw [this]
      exact at_ 0
    | u :: v :: l, hl =>
      have e : ares (List.range avs.length) s'' = .tup ((List.range avs.length).map s'') := by
        exact ares_many _ (by simp [hl]) s''
      rw [e]
      refine .tup _ _ (by simp [hl]) fun i h1 h2 => ?_
      have := at_ i
      rw [Array.getD_eq_getD_getElem?] at this
      simp only [List.size_toArray] at h2
      rw [List.getElem?_toArray, List.getElem?_eq_getElem h2] at this
      simpa using this
  cases ax with
  | normal => exact fin hq
  | ret => exact fin hq
  | exit i => exact hq.elim
  | panic v =>
    obtain ⟨s'', hW, rfl⟩ := hq
    obtain ⟨φ2, N2, hI2⟩ := hW.ok hR hI1
    exact ⟨hI2.defers, φ2, N2, hI2.rel, hI2.since, rfl⟩
theorem AEndC.ret {rs : List ResultVar} {H T : AHeap} {s : Nat → AV} {r : AV} (h : ob (resAll P (H ++ T) s rs) fun avs => r = ares (List.range avs.length) fun t => frz (H ++ T) H.length (avs.getD t .top)) : AEndC P rs H (.ok r) H .ret s (H ++ T) := by
  cases e : resAll P (H ++ T) s rs with
  | none => rw [e] at h; exact h.elim
  | some avs =>
    rw [e] at h
    exact ⟨avs, _, e, Weak.drop H T _, by rw [show r = _ from h]⟩
end
end Go.Proofs.YtfmmemboakdeiaaAw
namespace Go.Proofs.Ytfmmemboakdeiaa
open Go.Proofs.YtfmmemboakdeiaaAw Go.RowKit
set_option linter.unusedVariables false
set_option linter.unusedSimpArgs false
def noS : ByteArray := ⟨#[]⟩
theorem sameV_noS (v : Val) : sameV v.kind v.i v.s 0 0 noS = decide (v = ⟨0, 0, noS⟩) := sameV_eq v ⟨0, 0, noS⟩
theorem noS_toList : noS.toList = [] := by rw [ByteArray.toList_eq]; rfl
theorem toList_nil_size (s : ByteArray) : s.toList = [] ↔ s = noS := ⟨fun h => toList_inj (by rw [h, noS_toList]), fun h => by rw [h]; exact noS_toList⟩
theorem zero_iff (v : Val) (h0 : v.kind = 0) : (v = ⟨0, 0, noS⟩) = (v.i = 0 ∧ v.s.toList = []) := by
  cases v with | mk k i s =>
  simp only at h0
  subst h0
  simp [toList_nil_size]
end Go.Proofs.Ytfmmemboakdeiaa
namespace Go.Proofs.Ytfmmemboakdeiaa
open Go.Proofs.YtfmmemboakdeiaaAw Go.RowKit
set_option linter.unusedVariables false
set_option linter.unusedSimpArgs false
abbrev Atom.av (a : Atom) : AV := .agg [iA a.col, iA a.op, iA a.val.kind, iA a.val.i, sA a.val.s]
def bareP (op : Int) : Bool := decide (op = 7) || decide (op = 8)
def askP (op c : Int) : Bool := if op = 1 then decide (c = 0) else if op = 2 then !decide (c = 0) else if op = 3 then decide (c < 0) else if op = 4 then decide (c ≤ 0) else if op = 5 then decide (0 < c) else if op = 6 then decide (0 ≤ c) else false
def holdsP (a : Atom) (v : Val) : Bool := if bareP a.op then decide (v.kind = 0) == decide (a.op = 7) else if v.kind = 0 ∨ v.kind ≠ a.val.kind then false else askP a.op (cmpV v a.val)
def allP (l : List Atom) (row : List Val) : Bool := l.all fun a => if a.col < 0 then false else match row[a.col.toNat]? with | some v => holdsP a v | none => false
set_option maxRecDepth 10000 in
theorem bare_does (op : Int) (H : AHeap) : Does Try.prog 57 [iA op] H (.ok (bA (bareP op))) H := by
  refine Does.of_awp (hint := (fun _ => false)) Try.func57 (by kernel_rfl) rfl [2] (by kernel_rfl) (by decide) (by simp [Try.ntmps57]) ?_
  rw [Try.ntmps57]
  by_cases h : op = 7
  · simp (implicitDefEqProofs := false) only [↓reduceIte, go_sem, oread, owrite, Nat.reduceAdd, Nat.reduceSub, Nat.reduceMul, Nat.reduceLT, Nat.reduceLeDiff, Nat.reduceEqDiff, Nat.reduceBEq, Int.reduceLE, Int.reduceLT, Int.reduceEq, Int.reduceNe, Int.reduceAdd, Int.reduceSub, Int.reduceMul, Int.reduceNeg, Int.reduceToNat, Int.reduceNatCast, reduceCtorEq, eq_self, h]
    refine AEnd.ret0 ?_
    simp (implicitDefEqProofs := false) only [↓reduceIte, go_sem, oread, owrite, Nat.reduceAdd, Nat.reduceSub, Nat.reduceMul, Nat.reduceLT, Nat.reduceLeDiff, Nat.reduceEqDiff, Nat.reduceBEq, Int.reduceLE, Int.reduceLT, Int.reduceEq, Int.reduceNe, Int.reduceAdd, Int.reduceSub, Int.reduceMul, Int.reduceNeg, Int.reduceToNat, Int.reduceNatCast, reduceCtorEq, eq_self, bareP, h]
  · simp (implicitDefEqProofs := false) only [↓reduceIte, go_sem, oread, owrite, Nat.reduceAdd, Nat.reduceSub, Nat.reduceMul, Nat.reduceLT, Nat.reduceLeDiff, Nat.reduceEqDiff, Nat.reduceBEq, Int.reduceLE, Int.reduceLT, Int.reduceEq, Int.reduceNe, Int.reduceAdd, Int.reduceSub, Int.reduceMul, Int.reduceNeg, Int.reduceToNat, Int.reduceNatCast, reduceCtorEq, eq_self, h]
    refine AEnd.ret0 ?_
    simp (implicitDefEqProofs := false) only [↓reduceIte, go_sem, oread, owrite, Nat.reduceAdd, Nat.reduceSub, Nat.reduceMul, Nat.reduceLT, Nat.reduceLeDiff, Nat.reduceEqDiff, Nat.reduceBEq, Int.reduceLE, Int.reduceLT, Int.reduceEq, Int.reduceNe, Int.reduceAdd, Int.reduceSub, Int.reduceMul, Int.reduceNeg, Int.reduceToNat, Int.reduceNatCast, reduceCtorEq, eq_self, bareP, h]
set_option maxRecDepth 10000 in
theorem ask1_does (c : Int) (H : AHeap) : Does Try.prog 58 [iA c] H (.ok (bA (decide (c = 0)))) H := by
  refine Does.of_awp (hint := (fun _ => false)) Try.func58 (by kernel_rfl) rfl [2] (by kernel_rfl) (by decide) (by simp [Try.ntmps58]) ?_
  rw [Try.ntmps58]
  simp (implicitDefEqProofs := false) only [↓reduceIte, go_sem, oread, owrite, Nat.reduceAdd, Nat.reduceSub, Nat.reduceMul, Nat.reduceLT, Nat.reduceLeDiff, Nat.reduceEqDiff, Nat.reduceBEq, Int.reduceLE, Int.reduceLT, Int.reduceEq, Int.reduceNe, Int.reduceAdd, Int.reduceSub, Int.reduceMul, Int.reduceNeg, Int.reduceToNat, Int.reduceNatCast, reduceCtorEq, eq_self]
  refine AEnd.ret0 ?_
  simp (implicitDefEqProofs := false) only [↓reduceIte, go_sem, oread, owrite, Nat.reduceAdd, Nat.reduceSub, Nat.reduceMul, Nat.reduceLT, Nat.reduceLeDiff, Nat.reduceEqDiff, Nat.reduceBEq, Int.reduceLE, Int.reduceLT, Int.reduceEq, Int.reduceNe, Int.reduceAdd, Int.reduceSub, Int.reduceMul, Int.reduceNeg, Int.reduceToNat, Int.reduceNatCast, reduceCtorEq, eq_self]
set_option maxRecDepth 10000 in
theorem ask2_does (c : Int) (H : AHeap) : Does Try.prog 59 [iA c] H (.ok (bA (!decide (c = 0)))) H := by
  refine Does.of_awp (hint := (fun _ => false)) Try.func59 (by kernel_rfl) rfl [2] (by kernel_rfl) (by decide) (by simp [Try.ntmps59]) ?_
  rw [Try.ntmps59]
  simp (implicitDefEqProofs := false) only [↓reduceIte, go_sem, oread, owrite, Nat.reduceAdd, Nat.reduceSub, Nat.reduceMul, Nat.reduceLT, Nat.reduceLeDiff, Nat.reduceEqDiff, Nat.reduceBEq, Int.reduceLE, Int.reduceLT, Int.reduceEq, Int.reduceNe, Int.reduceAdd, Int.reduceSub, Int.reduceMul, Int.reduceNeg, Int.reduceToNat, Int.reduceNatCast, reduceCtorEq, eq_self]
  refine AEnd.ret0 ?_
  simp (implicitDefEqProofs := false) only [↓reduceIte, go_sem, oread, owrite, Nat.reduceAdd, Nat.reduceSub, Nat.reduceMul, Nat.reduceLT, Nat.reduceLeDiff, Nat.reduceEqDiff, Nat.reduceBEq, Int.reduceLE, Int.reduceLT, Int.reduceEq, Int.reduceNe, Int.reduceAdd, Int.reduceSub, Int.reduceMul, Int.reduceNeg, Int.reduceToNat, Int.reduceNatCast, reduceCtorEq, eq_self]
set_option maxRecDepth 10000 in
theorem ask3_does (c : Int) (H : AHeap) : Does Try.prog 60 [iA c] H (.ok (bA (decide (c < 0)))) H := by
  refine Does.of_awp (hint := (fun _ => false)) Try.func60 (by kernel_rfl) rfl [2] (by kernel_rfl) (by decide) (by simp [Try.ntmps60]) ?_
  rw [Try.ntmps60]
  simp (implicitDefEqProofs := false) only [↓reduceIte, go_sem, oread, owrite, Nat.reduceAdd, Nat.reduceSub, Nat.reduceMul, Nat.reduceLT, Nat.reduceLeDiff, Nat.reduceEqDiff, Nat.reduceBEq, Int.reduceLE, Int.reduceLT, Int.reduceEq, Int.reduceNe, Int.reduceAdd, Int.reduceSub, Int.reduceMul, Int.reduceNeg, Int.reduceToNat, Int.reduceNatCast, reduceCtorEq, eq_self]
  refine AEnd.ret0 ?_
  simp (implicitDefEqProofs := false) only [↓reduceIte, go_sem, oread, owrite, Nat.reduceAdd, Nat.reduceSub, Nat.reduceMul, Nat.reduceLT, Nat.reduceLeDiff, Nat.reduceEqDiff, Nat.reduceBEq, Int.reduceLE, Int.reduceLT, Int.reduceEq, Int.reduceNe, Int.reduceAdd, Int.reduceSub, Int.reduceMul, Int.reduceNeg, Int.reduceToNat, Int.reduceNatCast, reduceCtorEq, eq_self]
set_option maxRecDepth 10000 in
theorem ask4_does (c : Int) (H : AHeap) : Does Try.prog 61 [iA c] H (.ok (bA (decide (c ≤ 0)))) H := by
  refine Does.of_awp (hint := (fun _ => false)) Try.func61 (by kernel_rfl) rfl [2] (by kernel_rfl) (by decide) (by simp [Try.ntmps61]) ?_
  rw [Try.ntmps61]
  simp (implicitDefEqProofs := false) only [↓reduceIte, go_sem, oread, owrite, Nat.reduceAdd, Nat.reduceSub, Nat.reduceMul, Nat.reduceLT, Nat.reduceLeDiff, Nat.reduceEqDiff, Nat.reduceBEq, Int.reduceLE, Int.reduceLT, Int.reduceEq, Int.reduceNe, Int.reduceAdd, Int.reduceSub, Int.reduceMul, Int.reduceNeg, Int.reduceToNat, Int.reduceNatCast, reduceCtorEq, eq_self]
  refine AEnd.ret0 ?_
  simp (implicitDefEqProofs := false) only [↓reduceIte, go_sem, oread, owrite, Nat.reduceAdd, Nat.reduceSub, Nat.reduceMul, Nat.reduceLT, Nat.reduceLeDiff, Nat.reduceEqDiff, Nat.reduceBEq, Int.reduceLE, Int.reduceLT, Int.reduceEq, Int.reduceNe, Int.reduceAdd, Int.reduceSub, Int.reduceMul, Int.reduceNeg, Int.reduceToNat, Int.reduceNatCast, reduceCtorEq, eq_self]
set_option maxRecDepth 10000 in
theorem ask5_does (c : Int) (H : AHeap) : Does Try.prog 62 [iA c] H (.ok (bA (decide (0 < c)))) H := by
  refine Does.of_awp (hint := (fun _ => false)) Try.func62 (by kernel_rfl) rfl [2] (by kernel_rfl) (by decide) (by simp [Try.ntmps62]) ?_
  rw [Try.ntmps62]
  simp (implicitDefEqProofs := false) only [↓reduceIte, go_sem, oread, owrite, Nat.reduceAdd, Nat.reduceSub, Nat.reduceMul, Nat.reduceLT, Nat.reduceLeDiff, Nat.reduceEqDiff, Nat.reduceBEq, Int.reduceLE, Int.reduceLT, Int.reduceEq, Int.reduceNe, Int.reduceAdd, Int.reduceSub, Int.reduceMul, Int.reduceNeg, Int.reduceToNat, Int.reduceNatCast, reduceCtorEq, eq_self]
  refine AEnd.ret0 ?_
  simp (implicitDefEqProofs := false) only [↓reduceIte, go_sem, oread, owrite, Nat.reduceAdd, Nat.reduceSub, Nat.reduceMul, Nat.reduceLT, Nat.reduceLeDiff, Nat.reduceEqDiff, Nat.reduceBEq, Int.reduceLE, Int.reduceLT, Int.reduceEq, Int.reduceNe, Int.reduceAdd, Int.reduceSub, Int.reduceMul, Int.reduceNeg, Int.reduceToNat, Int.reduceNatCast, reduceCtorEq, eq_self]
set_option maxRecDepth 10000 in
theorem ask6_does (c : Int) (H : AHeap) : Does Try.prog 63 [iA c] H (.ok (bA (decide (0 ≤ c)))) H := by
  refine Does.of_awp (hint := (fun _ => false)) Try.func63 (by kernel_rfl) rfl [2] (by kernel_rfl) (by decide) (by simp [Try.ntmps63]) ?_
  rw [Try.ntmps63]
  simp (implicitDefEqProofs := false) only [↓reduceIte, go_sem, oread, owrite, Nat.reduceAdd, Nat.reduceSub, Nat.reduceMul, Nat.reduceLT, Nat.reduceLeDiff, Nat.reduceEqDiff, Nat.reduceBEq, Int.reduceLE, Int.reduceLT, Int.reduceEq, Int.reduceNe, Int.reduceAdd, Int.reduceSub, Int.reduceMul, Int.reduceNeg, Int.reduceToNat, Int.reduceNatCast, reduceCtorEq, eq_self]
  refine AEnd.ret0 ?_
  simp (implicitDefEqProofs := false) only [↓reduceIte, go_sem, oread, owrite, Nat.reduceAdd, Nat.reduceSub, Nat.reduceMul, Nat.reduceLT, Nat.reduceLeDiff, Nat.reduceEqDiff, Nat.reduceBEq, Int.reduceLE, Int.reduceLT, Int.reduceEq, Int.reduceNe, Int.reduceAdd, Int.reduceSub, Int.reduceMul, Int.reduceNeg, Int.reduceToNat, Int.reduceNatCast, reduceCtorEq, eq_self]
set_option maxRecDepth 10000 in
set_option maxHeartbeats 2000000 in
theorem holds_does (a : Atom) (v : Val) (H : AHeap) : Does Try.prog 46 [a.av, v.av] H (.ok (bA (holdsP a v))) H := by
  refine Does.of_awp (hint := (fun _ => false)) Try.func46 (by kernel_rfl) rfl [4] (by kernel_rfl) (by decide) (by simp [Try.ntmps46]) ?_
  rw [Try.ntmps46]
  simp (implicitDefEqProofs := false) only [↓reduceIte, go_sem, oread, owrite, Nat.reduceAdd, Nat.reduceSub, Nat.reduceMul, Nat.reduceLT, Nat.reduceLeDiff, Nat.reduceEqDiff, Nat.reduceBEq, Int.reduceLE, Int.reduceLT, Int.reduceEq, Int.reduceNe, Int.reduceAdd, Int.reduceSub, Int.reduceMul, Int.reduceNeg, Int.reduceToNat, Int.reduceNatCast, reduceCtorEq, eq_self]
  refine KCall.ok (bare_does _ _) ?_
  cases hb : bareP a.op with
  | true =>
    simp (implicitDefEqProofs := false) only [↓reduceIte, go_sem, oread, owrite, Nat.reduceAdd, Nat.reduceSub, Nat.reduceMul, Nat.reduceLT, Nat.reduceLeDiff, Nat.reduceEqDiff, Nat.reduceBEq, Int.reduceLE, Int.reduceLT, Int.reduceEq, Int.reduceNe, Int.reduceAdd, Int.reduceSub, Int.reduceMul, Int.reduceNeg, Int.reduceToNat, Int.reduceNatCast, reduceCtorEq, eq_self]
    refine AEnd.ret ?_
    simp (implicitDefEqProofs := false) only [↓reduceIte, go_sem, oread, owrite, Nat.reduceAdd, Nat.reduceSub, Nat.reduceMul, Nat.reduceLT, Nat.reduceLeDiff, Nat.reduceEqDiff, Nat.reduceBEq, Int.reduceLE, Int.reduceLT, Int.reduceEq, Int.reduceNe, Int.reduceAdd, Int.reduceSub, Int.reduceMul, Int.reduceNeg, Int.reduceToNat, Int.reduceNatCast, reduceCtorEq, eq_self, holdsP, hb]
  | false =>
    by_cases h0 : v.kind = 0
    · simp (implicitDefEqProofs := false) only [↓reduceIte, go_sem, oread, owrite, Nat.reduceAdd, Nat.reduceSub, Nat.reduceMul, Nat.reduceLT, Nat.reduceLeDiff, Nat.reduceEqDiff, Nat.reduceBEq, Int.reduceLE, Int.reduceLT, Int.reduceEq, Int.reduceNe, Int.reduceAdd, Int.reduceSub, Int.reduceMul, Int.reduceNeg, Int.reduceToNat, Int.reduceNatCast, reduceCtorEq, eq_self, h0]
      refine AEnd.ret ?_
      simp (implicitDefEqProofs := false) only [↓reduceIte, go_sem, oread, owrite, Nat.reduceAdd, Nat.reduceSub, Nat.reduceMul, Nat.reduceLT, Nat.reduceLeDiff, Nat.reduceEqDiff, Nat.reduceBEq, Int.reduceLE, Int.reduceLT, Int.reduceEq, Int.reduceNe, Int.reduceAdd, Int.reduceSub, Int.reduceMul, Int.reduceNeg, Int.reduceToNat, Int.reduceNatCast, reduceCtorEq, eq_self, holdsP, hb, h0, true_or, Bool.false_eq_true]
    · by_cases hk : v.kind = a.val.kind
      · have fin : holdsP a v = askP a.op (cmpV v a.val) := by unfold holdsP; rw [hb, if_neg (by simp), if_neg (by rintro (h | h); exact h0 h; exact h hk)]
        have hke : (v.kind = a.val.kind) = True := eq_true hk
        simp (implicitDefEqProofs := false) only [↓reduceIte, go_sem, oread, owrite, Nat.reduceAdd, Nat.reduceSub, Nat.reduceMul, Nat.reduceLT, Nat.reduceLeDiff, Nat.reduceEqDiff, Nat.reduceBEq, Int.reduceLE, Int.reduceLT, Int.reduceEq, Int.reduceNe, Int.reduceAdd, Int.reduceSub, Int.reduceMul, Int.reduceNeg, Int.reduceToNat, Int.reduceNatCast, reduceCtorEq, eq_self, h0, hke]
        rw [fin]
        by_cases h1 : a.op = 1
        · simp (implicitDefEqProofs := false) only [↓reduceIte, go_sem, oread, owrite, Nat.reduceAdd, Nat.reduceSub, Nat.reduceMul, Nat.reduceLT, Nat.reduceLeDiff, Nat.reduceEqDiff, Nat.reduceBEq, Int.reduceLE, Int.reduceLT, Int.reduceEq, Int.reduceNe, Int.reduceAdd, Int.reduceSub, Int.reduceMul, Int.reduceNeg, Int.reduceToNat, Int.reduceNatCast, reduceCtorEq, eq_self, h1, mpPut, mpIdx, mpGet, Option.map_some]
          refine KCall.ok (vcmp_does v a.val _) ?_
          simp (implicitDefEqProofs := false) only [↓reduceIte, go_sem, oread, owrite, Nat.reduceAdd, Nat.reduceSub, Nat.reduceMul, Nat.reduceLT, Nat.reduceLeDiff, Nat.reduceEqDiff, Nat.reduceBEq, Int.reduceLE, Int.reduceLT, Int.reduceEq, Int.reduceNe, Int.reduceAdd, Int.reduceSub, Int.reduceMul, Int.reduceNeg, Int.reduceToNat, Int.reduceNatCast, reduceCtorEq, eq_self, h1, mpPut, mpIdx, mpGet, Option.map_some]
          refine KCall.ok (ask1_does _ _) ?_
          simp (implicitDefEqProofs := false) only [↓reduceIte, go_sem, oread, owrite, Nat.reduceAdd, Nat.reduceSub, Nat.reduceMul, Nat.reduceLT, Nat.reduceLeDiff, Nat.reduceEqDiff, Nat.reduceBEq, Int.reduceLE, Int.reduceLT, Int.reduceEq, Int.reduceNe, Int.reduceAdd, Int.reduceSub, Int.reduceMul, Int.reduceNeg, Int.reduceToNat, Int.reduceNatCast, reduceCtorEq, eq_self, mpPut, mpIdx, mpGet, Option.map_some]
          refine AEnd.ret ?_
          simp (implicitDefEqProofs := false) only [↓reduceIte, go_sem, oread, owrite, Nat.reduceAdd, Nat.reduceSub, Nat.reduceMul, Nat.reduceLT, Nat.reduceLeDiff, Nat.reduceEqDiff, Nat.reduceBEq, Int.reduceLE, Int.reduceLT, Int.reduceEq, Int.reduceNe, Int.reduceAdd, Int.reduceSub, Int.reduceMul, Int.reduceNeg, Int.reduceToNat, Int.reduceNatCast, reduceCtorEq, eq_self, askP, h1, mpPut, mpIdx, mpGet, Option.map_some]
        by_cases h2 : a.op = 2
        · simp (implicitDefEqProofs := false) only [↓reduceIte, go_sem, oread, owrite, Nat.reduceAdd, Nat.reduceSub, Nat.reduceMul, Nat.reduceLT, Nat.reduceLeDiff, Nat.reduceEqDiff, Nat.reduceBEq, Int.reduceLE, Int.reduceLT, Int.reduceEq, Int.reduceNe, Int.reduceAdd, Int.reduceSub, Int.reduceMul, Int.reduceNeg, Int.reduceToNat, Int.reduceNatCast, reduceCtorEq, eq_self, h2, mpPut, mpIdx, mpGet, Option.map_some]
          refine KCall.ok (vcmp_does v a.val _) ?_
          simp (implicitDefEqProofs := false) only [↓reduceIte, go_sem, oread, owrite, Nat.reduceAdd, Nat.reduceSub, Nat.reduceMul, Nat.reduceLT, Nat.reduceLeDiff, Nat.reduceEqDiff, Nat.reduceBEq, Int.reduceLE, Int.reduceLT, Int.reduceEq, Int.reduceNe, Int.reduceAdd, Int.reduceSub, Int.reduceMul, Int.reduceNeg, Int.reduceToNat, Int.reduceNatCast, reduceCtorEq, eq_self, h2, mpPut, mpIdx, mpGet, Option.map_some]
          refine KCall.ok (ask2_does _ _) ?_
          simp (implicitDefEqProofs := false) only [↓reduceIte, go_sem, oread, owrite, Nat.reduceAdd, Nat.reduceSub, Nat.reduceMul, Nat.reduceLT, Nat.reduceLeDiff, Nat.reduceEqDiff, Nat.reduceBEq, Int.reduceLE, Int.reduceLT, Int.reduceEq, Int.reduceNe, Int.reduceAdd, Int.reduceSub, Int.reduceMul, Int.reduceNeg, Int.reduceToNat, Int.reduceNatCast, reduceCtorEq, eq_self, mpPut, mpIdx, mpGet, Option.map_some]
          refine AEnd.ret ?_
          simp (implicitDefEqProofs := false) only [↓reduceIte, go_sem, oread, owrite, Nat.reduceAdd, Nat.reduceSub, Nat.reduceMul, Nat.reduceLT, Nat.reduceLeDiff, Nat.reduceEqDiff, Nat.reduceBEq, Int.reduceLE, Int.reduceLT, Int.reduceEq, Int.reduceNe, Int.reduceAdd, Int.reduceSub, Int.reduceMul, Int.reduceNeg, Int.reduceToNat, Int.reduceNatCast, reduceCtorEq, eq_self, askP, h2, mpPut, mpIdx, mpGet, Option.map_some]
        by_cases h3 : a.op = 3
        · simp (implicitDefEqProofs := false) only [↓reduceIte, go_sem, oread, owrite, Nat.reduceAdd, Nat.reduceSub, Nat.reduceMul, Nat.reduceLT, Nat.reduceLeDiff, Nat.reduceEqDiff, Nat.reduceBEq, Int.reduceLE, Int.reduceLT, Int.reduceEq, Int.reduceNe, Int.reduceAdd, Int.reduceSub, Int.reduceMul, Int.reduceNeg, Int.reduceToNat, Int.reduceNatCast, reduceCtorEq, eq_self, h3, mpPut, mpIdx, mpGet, Option.map_some]
          refine KCall.ok (vcmp_does v a.val _) ?_
          simp (implicitDefEqProofs := false) only [↓reduceIte, go_sem, oread, owrite, Nat.reduceAdd, Nat.reduceSub, Nat.reduceMul, Nat.reduceLT, Nat.reduceLeDiff, Nat.reduceEqDiff, Nat.reduceBEq, Int.reduceLE, Int.reduceLT, Int.reduceEq, Int.reduceNe, Int.reduceAdd, Int.reduceSub, Int.reduceMul, Int.reduceNeg, Int.reduceToNat, Int.reduceNatCast, reduceCtorEq, eq_self, h3, mpPut, mpIdx, mpGet, Option.map_some]
          refine KCall.ok (ask3_does _ _) ?_
          simp (implicitDefEqProofs := false) only [↓reduceIte, go_sem, oread, owrite, Nat.reduceAdd, Nat.reduceSub, Nat.reduceMul, Nat.reduceLT, Nat.reduceLeDiff, Nat.reduceEqDiff, Nat.reduceBEq, Int.reduceLE, Int.reduceLT, Int.reduceEq, Int.reduceNe, Int.reduceAdd, Int.reduceSub, Int.reduceMul, Int.reduceNeg, Int.reduceToNat, Int.reduceNatCast, reduceCtorEq, eq_self, mpPut, mpIdx, mpGet, Option.map_some]
          refine AEnd.ret ?_
          simp (implicitDefEqProofs := false) only [↓reduceIte, go_sem, oread, owrite, Nat.reduceAdd, Nat.reduceSub, Nat.reduceMul, Nat.reduceLT, Nat.reduceLeDiff, Nat.reduceEqDiff, Nat.reduceBEq, Int.reduceLE, Int.reduceLT, Int.reduceEq, Int.reduceNe, Int.reduceAdd, Int.reduceSub, Int.reduceMul, Int.reduceNeg, Int.reduceToNat, Int.reduceNatCast, reduceCtorEq, eq_self, askP, h3, mpPut, mpIdx, mpGet, Option.map_some]
        by_cases h4 : a.op = 4
        · simp (implicitDefEqProofs := false) only [↓reduceIte, go_sem, oread, owrite, Nat.reduceAdd, Nat.reduceSub, Nat.reduceMul, Nat.reduceLT, Nat.reduceLeDiff, Nat.reduceEqDiff, Nat.reduceBEq, Int.reduceLE, Int.reduceLT, Int.reduceEq, Int.reduceNe, Int.reduceAdd, Int.reduceSub, Int.reduceMul, Int.reduceNeg, Int.reduceToNat, Int.reduceNatCast, reduceCtorEq, eq_self, h4, mpPut, mpIdx, mpGet, Option.map_some]
          refine KCall.ok (vcmp_does v a.val _) ?_
          simp (implicitDefEqProofs := false) only [↓reduceIte, go_sem, oread, owrite, Nat.reduceAdd, Nat.reduceSub, Nat.reduceMul, Nat.reduceLT, Nat.reduceLeDiff, Nat.reduceEqDiff, Nat.reduceBEq, Int.reduceLE, Int.reduceLT, Int.reduceEq, Int.reduceNe, Int.reduceAdd, Int.reduceSub, Int.reduceMul, Int.reduceNeg, Int.reduceToNat, Int.reduceNatCast, reduceCtorEq, eq_self, h4, mpPut, mpIdx, mpGet, Option.map_some]
          refine KCall.ok (ask4_does _ _) ?_
          simp (implicitDefEqProofs := false) only [↓reduceIte, go_sem, oread, owrite, Nat.reduceAdd, Nat.reduceSub, Nat.reduceMul, Nat.reduceLT, Nat.reduceLeDiff, Nat.reduceEqDiff, Nat.reduceBEq, Int.reduceLE, Int.reduceLT, Int.reduceEq, Int.reduceNe, Int.reduceAdd, Int.reduceSub, Int.reduceMul, Int.reduceNeg, Int.reduceToNat, Int.reduceNatCast, reduceCtorEq, eq_self, mpPut, mpIdx, mpGet, Option.map_some]
          refine AEnd.ret ?_
          simp (implicitDefEqProofs := false) only [↓reduceIte, go_sem, oread, owrite, Nat.reduceAdd, Nat.reduceSub, Nat.reduceMul, Nat.reduceLT, Nat.reduceLeDiff, Nat.reduceEqDiff, Nat.reduceBEq, Int.reduceLE, Int.reduceLT, Int.reduceEq, Int.reduceNe, Int.reduceAdd, Int.reduceSub, Int.reduceMul, Int.reduceNeg, Int.reduceToNat, Int.reduceNatCast, reduceCtorEq, eq_self, askP, h4, mpPut, mpIdx, mpGet, Option.map_some]
        by_cases h5 : a.op = 5
        · simp (implicitDefEqProofs := false) only [↓reduceIte, go_sem, oread, owrite, Nat.reduceAdd, Nat.reduceSub, Nat.reduceMul, Nat.reduceLT, Nat.reduceLeDiff, Nat.reduceEqDiff, Nat.reduceBEq, Int.reduceLE, Int.reduceLT, Int.reduceEq, Int.reduceNe, Int.reduceAdd, Int.reduceSub, Int.reduceMul, Int.reduceNeg, Int.reduceToNat, Int.reduceNatCast, reduceCtorEq, eq_self, h5, mpPut, mpIdx, mpGet, Option.map_some]
          refine KCall.ok (vcmp_does v a.val _) ?_
          simp (implicitDefEqProofs := false) only [↓reduceIte, go_sem, oread, owrite, Nat.reduceAdd, Nat.reduceSub, Nat.reduceMul, Nat.reduceLT, Nat.reduceLeDiff, Nat.reduceEqDiff, Nat.reduceBEq, Int.reduceLE, Int.reduceLT, Int.reduceEq, Int.reduceNe, Int.reduceAdd, Int.reduceSub, Int.reduceMul, Int.reduceNeg, Int.reduceToNat, Int.reduceNatCast, reduceCtorEq, eq_self, h5, mpPut, mpIdx, mpGet, Option.map_some]
          refine KCall.ok (ask5_does _ _) ?_
          simp (implicitDefEqProofs := false) only [↓reduceIte, go_sem, oread, owrite, Nat.reduceAdd, Nat.reduceSub, Nat.reduceMul, Nat.reduceLT, Nat.reduceLeDiff, Nat.reduceEqDiff, Nat.reduceBEq, Int.reduceLE, Int.reduceLT, Int.reduceEq, Int.reduceNe, Int.reduceAdd, Int.reduceSub, Int.reduceMul, Int.reduceNeg, Int.reduceToNat, Int.reduceNatCast, reduceCtorEq, eq_self, mpPut, mpIdx, mpGet, Option.map_some]
          refine AEnd.ret ?_
          simp (implicitDefEqProofs := false) only [↓reduceIte, go_sem, oread, owrite, Nat.reduceAdd, Nat.reduceSub, Nat.reduceMul, Nat.reduceLT, Nat.reduceLeDiff, Nat.reduceEqDiff, Nat.reduceBEq, Int.reduceLE, Int.reduceLT, Int.reduceEq, Int.reduceNe, Int.reduceAdd, Int.reduceSub, Int.reduceMul, Int.reduceNeg, Int.reduceToNat, Int.reduceNatCast, reduceCtorEq, eq_self, askP, h5, mpPut, mpIdx, mpGet, Option.map_some]
        by_cases h6 : a.op = 6
        · simp (implicitDefEqProofs := false) only [↓reduceIte, go_sem, oread, owrite, Nat.reduceAdd, Nat.reduceSub, Nat.reduceMul, Nat.reduceLT, Nat.reduceLeDiff, Nat.reduceEqDiff, Nat.reduceBEq, Int.reduceLE, Int.reduceLT, Int.reduceEq, Int.reduceNe, Int.reduceAdd, Int.reduceSub, Int.reduceMul, Int.reduceNeg, Int.reduceToNat, Int.reduceNatCast, reduceCtorEq, eq_self, h6, mpPut, mpIdx, mpGet, Option.map_some]
          refine KCall.ok (vcmp_does v a.val _) ?_
          simp (implicitDefEqProofs := false) only [↓reduceIte, go_sem, oread, owrite, Nat.reduceAdd, Nat.reduceSub, Nat.reduceMul, Nat.reduceLT, Nat.reduceLeDiff, Nat.reduceEqDiff, Nat.reduceBEq, Int.reduceLE, Int.reduceLT, Int.reduceEq, Int.reduceNe, Int.reduceAdd, Int.reduceSub, Int.reduceMul, Int.reduceNeg, Int.reduceToNat, Int.reduceNatCast, reduceCtorEq, eq_self, h6, mpPut, mpIdx, mpGet, Option.map_some]
          refine KCall.ok (ask6_does _ _) ?_
          simp (implicitDefEqProofs := false) only [↓reduceIte, go_sem, oread, owrite, Nat.reduceAdd, Nat.reduceSub, Nat.reduceMul, Nat.reduceLT, Nat.reduceLeDiff, Nat.reduceEqDiff, Nat.reduceBEq, Int.reduceLE, Int.reduceLT, Int.reduceEq, Int.reduceNe, Int.reduceAdd, Int.reduceSub, Int.reduceMul, Int.reduceNeg, Int.reduceToNat, Int.reduceNatCast, reduceCtorEq, eq_self, mpPut, mpIdx, mpGet, Option.map_some]
          refine AEnd.ret ?_
          simp (implicitDefEqProofs := false) only [↓reduceIte, go_sem, oread, owrite, Nat.reduceAdd, Nat.reduceSub, Nat.reduceMul, Nat.reduceLT, Nat.reduceLeDiff, Nat.reduceEqDiff, Nat.reduceBEq, Int.reduceLE, Int.reduceLT, Int.reduceEq, Int.reduceNe, Int.reduceAdd, Int.reduceSub, Int.reduceMul, Int.reduceNeg, Int.reduceToNat, Int.reduceNatCast, reduceCtorEq, eq_self, askP, h6, mpPut, mpIdx, mpGet, Option.map_some]
        simp (implicitDefEqProofs := false) only [↓reduceIte, go_sem, oread, owrite, Nat.reduceAdd, Nat.reduceSub, Nat.reduceMul, Nat.reduceLT, Nat.reduceLeDiff, Nat.reduceEqDiff, Nat.reduceBEq, Int.reduceLE, Int.reduceLT, Int.reduceEq, Int.reduceNe, Int.reduceAdd, Int.reduceSub, Int.reduceMul, Int.reduceNeg, Int.reduceToNat, Int.reduceNatCast, reduceCtorEq, eq_self, h1, h2, h3, h4, h5, h6, mpPut, mpIdx, mpGet, Option.map_none]
        refine AEnd.ret ?_
        simp (implicitDefEqProofs := false) only [↓reduceIte, go_sem, oread, owrite, Nat.reduceAdd, Nat.reduceSub, Nat.reduceMul, Nat.reduceLT, Nat.reduceLeDiff, Nat.reduceEqDiff, Nat.reduceBEq, Int.reduceLE, Int.reduceLT, Int.reduceEq, Int.reduceNe, Int.reduceAdd, Int.reduceSub, Int.reduceMul, Int.reduceNeg, Int.reduceToNat, Int.reduceNatCast, reduceCtorEq, eq_self, askP, h1, h2, h3, h4, h5, h6, mpPut, mpIdx, mpGet, Option.map_none]
      · simp (implicitDefEqProofs := false) only [↓reduceIte, go_sem, oread, owrite, Nat.reduceAdd, Nat.reduceSub, Nat.reduceMul, Nat.reduceLT, Nat.reduceLeDiff, Nat.reduceEqDiff, Nat.reduceBEq, Int.reduceLE, Int.reduceLT, Int.reduceEq, Int.reduceNe, Int.reduceAdd, Int.reduceSub, Int.reduceMul, Int.reduceNeg, Int.reduceToNat, Int.reduceNatCast, reduceCtorEq, eq_self, h0, hk]
        refine AEnd.ret ?_
        simp (implicitDefEqProofs := false) only [↓reduceIte, go_sem, oread, owrite, Nat.reduceAdd, Nat.reduceSub, Nat.reduceMul, Nat.reduceLT, Nat.reduceLeDiff, Nat.reduceEqDiff, Nat.reduceBEq, Int.reduceLE, Int.reduceLT, Int.reduceEq, Int.reduceNe, Int.reduceAdd, Int.reduceSub, Int.reduceMul, Int.reduceNeg, Int.reduceToNat, Int.reduceNatCast, reduceCtorEq, eq_self, holdsP, hb, h0, hk, false_or, not_false_eq_true, Bool.false_eq_true]
theorem Atom.val_av (a : Atom) : AV.agg [iA a.val.kind, iA a.val.i, sA a.val.s] = a.val.av := rfl
theorem allP_cons_false {l : List Atom} {row : List Val} {k : Nat} (hk : k < l.length) (h : ∀ v, row[(l[k]).col.toNat]? = some v → 0 ≤ (l[k]).col → holdsP l[k] v = false) : allP l row = false := by
  unfold allP
  rw [List.all_eq_false]
  refine ⟨l[k], List.getElem_mem hk, ?_⟩
  by_cases hc : (l[k]).col < 0
  · simp [hc]
  · rw [if_neg hc]
    cases hr : row[(l[k]).col.toNat]? with
    | none => simp
    | some v => simp [h v hr (by omega)]
theorem allP_true {l : List Atom} {row : List Val} (h : ∀ k (hk : k < l.length), ∃ v, 0 ≤ (l[k]).col ∧ row[(l[k]).col.toNat]? = some v ∧ holdsP l[k] v = true) : allP l row = true := by
  unfold allP
  rw [List.all_eq_true]
  intro a ha
  obtain ⟨k, hk, rfl⟩ := List.mem_iff_getElem.1 ha
  obtain ⟨v, h0, hr, hv⟩ := h k hk
  rw [if_neg (by omega), hr]
  exact hv
set_option maxRecDepth 10000 in
set_option maxHeartbeats 1000000 in
theorem all_does (l : List Atom) (row : List Val) (n1 n2 : Bool) (H : AHeap) (hl : l.length ≤ 1000000000000) : Does Try.prog 25 [.d (.list n1 (l.map Atom.enc)), .d (.list n2 (row.map Val.enc))] H (.ok (bA (allP l row))) H := by
  refine Does.of_awp (hint := (fun _ => false)) Try.func25 (by kernel_rfl) rfl [4] (by kernel_rfl) (by decide) (by simp [Try.ntmps25]) ?_
  rw [Try.ntmps25]
  simp (implicitDefEqProofs := false) only [↓reduceIte, go_sem, oread, owrite, Nat.reduceAdd, Nat.reduceSub, Nat.reduceMul, Nat.reduceLT, Nat.reduceLeDiff, Nat.reduceEqDiff, Nat.reduceBEq, Int.reduceLE, Int.reduceLT, Int.reduceEq, Int.reduceNe, Int.reduceAdd, Int.reduceSub, Int.reduceMul, Int.reduceNeg, Int.reduceToNat, Int.reduceNatCast, reduceCtorEq, eq_self]
  refine awp_for (fun k s H' => H' = H ∧ (∀ i (hi : i < k) (hl : i < l.length), ∃ v, 0 ≤ (l[i]).col ∧ row[(l[i]).col.toNat]? = some v ∧ holdsP l[i] v = true) ∧ s 1 = .d (.list n2 (row.map Val.enc)) ∧ s 7 = .d (.list n1 (l.map Atom.enc)) ∧ s 8 = iA l.length ∧ s 9 = iA k) l.length (by omega) (Weak.refl _ _) ?_ ?_ ?_
  · refine ⟨rfl, fun i hi => by omega, ?_⟩
    simp (implicitDefEqProofs := false) only [↓reduceIte, go_sem, oread, owrite, Nat.reduceAdd, Nat.reduceSub, Nat.reduceMul, Nat.reduceLT, Nat.reduceLeDiff, Nat.reduceEqDiff, Nat.reduceBEq, Int.reduceLE, Int.reduceLT, Int.reduceEq, Int.reduceNe, Int.reduceAdd, Int.reduceSub, Int.reduceMul, Int.reduceNeg, Int.reduceToNat, Int.reduceNatCast, reduceCtorEq, eq_self]
  · rintro k s H' hk hw ⟨rfl, hp, h1, h7, h8, h9⟩
    have hx := List.getElem?_eq_getElem hk
    have hall : (∃ v, 0 ≤ (l[k]).col ∧ row[(l[k]).col.toNat]? = some v ∧ holdsP l[k] v = true) → ∀ i (hi : i < k + 1) (hl : i < l.length), ∃ v, 0 ≤ (l[i]).col ∧ row[(l[i]).col.toNat]? = some v ∧ holdsP l[i] v = true := fun h0 i hi hl' => by
      rcases Nat.lt_or_ge i k with h | h
      · exact hp i h hl'
      · obtain rfl : i = k := by omega
        exact h0
    have hfin := allP_cons_false (row := row) hk
    generalize l[k] = a at hx hall hfin
    simp (implicitDefEqProofs := false) only [↓reduceIte, go_sem, oread, owrite, Nat.reduceAdd, Nat.reduceSub, Nat.reduceMul, Nat.reduceLT, Nat.reduceLeDiff, Nat.reduceEqDiff, Nat.reduceBEq, Int.reduceLE, Int.reduceLT, Int.reduceEq, Int.reduceNe, Int.reduceAdd, Int.reduceSub, Int.reduceMul, Int.reduceNeg, Int.reduceToNat, Int.reduceNatCast, reduceCtorEq, eq_self, h1, h7, h8, h9, hk, hx, Atom.enc]
    refine awp_draw K.mixed (by kernel_rfl) ?_
    by_cases hc : a.col < 0
    · simp (implicitDefEqProofs := false) only [↓reduceIte, go_sem, oread, owrite, Nat.reduceAdd, Nat.reduceSub, Nat.reduceMul, Nat.reduceLT, Nat.reduceLeDiff, Nat.reduceEqDiff, Nat.reduceBEq, Int.reduceLE, Int.reduceLT, Int.reduceEq, Int.reduceNe, Int.reduceAdd, Int.reduceSub, Int.reduceMul, Int.reduceNeg, Int.reduceToNat, Int.reduceNatCast, reduceCtorEq, eq_self, hc]
      refine AEnd.ret ?_
      rw [hfin fun v _ h => by omega]
      simp (implicitDefEqProofs := false) only [↓reduceIte, go_sem, oread, owrite, Nat.reduceAdd, Nat.reduceSub, Nat.reduceMul, Nat.reduceLT, Nat.reduceLeDiff, Nat.reduceEqDiff, Nat.reduceBEq, Int.reduceLE, Int.reduceLT, Int.reduceEq, Int.reduceNe, Int.reduceAdd, Int.reduceSub, Int.reduceMul, Int.reduceNeg, Int.reduceToNat, Int.reduceNatCast, reduceCtorEq, eq_self]
    · by_cases hlt : (row.length : Int) ≤ a.col
      · simp (implicitDefEqProofs := false) only [↓reduceIte, go_sem, oread, owrite, Nat.reduceAdd, Nat.reduceSub, Nat.reduceMul, Nat.reduceLT, Nat.reduceLeDiff, Nat.reduceEqDiff, Nat.reduceBEq, Int.reduceLE, Int.reduceLT, Int.reduceEq, Int.reduceNe, Int.reduceAdd, Int.reduceSub, Int.reduceMul, Int.reduceNeg, Int.reduceToNat, Int.reduceNatCast, reduceCtorEq, eq_self, hc, h1, hlt]
        refine AEnd.ret ?_
        rw [hfin fun v hv h => by rw [List.getElem?_eq_none (by omega)] at hv; cases hv]
        simp (implicitDefEqProofs := false) only [↓reduceIte, go_sem, oread, owrite, Nat.reduceAdd, Nat.reduceSub, Nat.reduceMul, Nat.reduceLT, Nat.reduceLeDiff, Nat.reduceEqDiff, Nat.reduceBEq, Int.reduceLE, Int.reduceLT, Int.reduceEq, Int.reduceNe, Int.reduceAdd, Int.reduceSub, Int.reduceMul, Int.reduceNeg, Int.reduceToNat, Int.reduceNatCast, reduceCtorEq, eq_self]
      · obtain ⟨v, hv⟩ : ∃ v, row[a.col.toNat]? = some v := ⟨_, List.getElem?_eq_getElem (show a.col.toNat < row.length by omega)⟩
        simp (implicitDefEqProofs := false) only [↓reduceIte, go_sem, oread, owrite, Nat.reduceAdd, Nat.reduceSub, Nat.reduceMul, Nat.reduceLT, Nat.reduceLeDiff, Nat.reduceEqDiff, Nat.reduceBEq, Int.reduceLE, Int.reduceLT, Int.reduceEq, Int.reduceNe, Int.reduceAdd, Int.reduceSub, Int.reduceMul, Int.reduceNeg, Int.reduceToNat, Int.reduceNatCast, reduceCtorEq, eq_self, hc, h1, hlt, show 0 ≤ a.col from by omega, hv, Val.enc]
        refine KCall.ok (holds_does a v _) ?_
        cases hh : holdsP a v with
        | true =>
          simp (implicitDefEqProofs := false) only [↓reduceIte, go_sem, oread, owrite, Nat.reduceAdd, Nat.reduceSub, Nat.reduceMul, Nat.reduceLT, Nat.reduceLeDiff, Nat.reduceEqDiff, Nat.reduceBEq, Int.reduceLE, Int.reduceLT, Int.reduceEq, Int.reduceNe, Int.reduceAdd, Int.reduceSub, Int.reduceMul, Int.reduceNeg, Int.reduceToNat, Int.reduceNatCast, reduceCtorEq, eq_self, hh, h9]
          refine Rnd.cut [] _ 0 rfl rfl (by simp (implicitDefEqProofs := false) only [↓reduceIte, go_sem, oread, owrite, Nat.reduceAdd, Nat.reduceSub, Nat.reduceMul, Nat.reduceLT, Nat.reduceLeDiff, Nat.reduceEqDiff, Nat.reduceBEq, Int.reduceLE, Int.reduceLT, Int.reduceEq, Int.reduceNe, Int.reduceAdd, Int.reduceSub, Int.reduceMul, Int.reduceNeg, Int.reduceToNat, Int.reduceNatCast, reduceCtorEq, eq_self]) ?_
          refine ⟨List.append_nil _, hall ⟨v, by omega, hv, hh⟩, ?_⟩
          simp (implicitDefEqProofs := false) only [↓reduceIte, go_sem, oread, owrite, Nat.reduceAdd, Nat.reduceSub, Nat.reduceMul, Nat.reduceLT, Nat.reduceLeDiff, Nat.reduceEqDiff, Nat.reduceBEq, Int.reduceLE, Int.reduceLT, Int.reduceEq, Int.reduceNe, Int.reduceAdd, Int.reduceSub, Int.reduceMul, Int.reduceNeg, Int.reduceToNat, Int.reduceNatCast, reduceCtorEq, eq_self, h1, h7, h8, h9, hw]
        | false =>
          simp (implicitDefEqProofs := false) only [↓reduceIte, go_sem, oread, owrite, Nat.reduceAdd, Nat.reduceSub, Nat.reduceMul, Nat.reduceLT, Nat.reduceLeDiff, Nat.reduceEqDiff, Nat.reduceBEq, Int.reduceLE, Int.reduceLT, Int.reduceEq, Int.reduceNe, Int.reduceAdd, Int.reduceSub, Int.reduceMul, Int.reduceNeg, Int.reduceToNat, Int.reduceNatCast, reduceCtorEq, eq_self, hh]
          refine AEnd.ret ?_
          rw [hfin fun v' hv' h => by rw [hv] at hv'; cases hv'; exact hh]
          simp (implicitDefEqProofs := false) only [↓reduceIte, go_sem, oread, owrite, Nat.reduceAdd, Nat.reduceSub, Nat.reduceMul, Nat.reduceLT, Nat.reduceLeDiff, Nat.reduceEqDiff, Nat.reduceBEq, Int.reduceLE, Int.reduceLT, Int.reduceEq, Int.reduceNe, Int.reduceAdd, Int.reduceSub, Int.reduceMul, Int.reduceNeg, Int.reduceToNat, Int.reduceNatCast, reduceCtorEq, eq_self]
  · rintro s H' ⟨rfl, hp, h1, h7, h8, h9⟩
    simp (implicitDefEqProofs := false) only [↓reduceIte, go_sem, oread, owrite, Nat.reduceAdd, Nat.reduceSub, Nat.reduceMul, Nat.reduceLT, Nat.reduceLeDiff, Nat.reduceEqDiff, Nat.reduceBEq, Int.reduceLE, Int.reduceLT, Int.reduceEq, Int.reduceNe, Int.reduceAdd, Int.reduceSub, Int.reduceMul, Int.reduceNeg, Int.reduceToNat, Int.reduceNatCast, reduceCtorEq, eq_self, h8, h9]
    refine AEnd.ret0 ?_
    rw [allP_true fun k hk => hp k hk hk]
    simp (implicitDefEqProofs := false) only [↓reduceIte, go_sem, oread, owrite, Nat.reduceAdd, Nat.reduceSub, Nat.reduceMul, Nat.reduceLT, Nat.reduceLeDiff, Nat.reduceEqDiff, Nat.reduceBEq, Int.reduceLE, Int.reduceLT, Int.reduceEq, Int.reduceNe, Int.reduceAdd, Int.reduceSub, Int.reduceMul, Int.reduceNeg, Int.reduceToNat, Int.reduceNatCast, reduceCtorEq, eq_self]
end Go.Proofs.Ytfmmemboakdeiaa
namespace Go.Proofs.Ytfmmemboakdeiaa
open Go.Proofs.YtfmmemboakdeiaaAw Go.RowKit
set_option linter.unusedVariables false
set_option linter.unusedSimpArgs false
theorem u64_of (n : Nat) (h : n < 18446744073709551616) : IntKind.u64.wrap (n : Int) = n := by
  simp [IntKind.wrap, IntKind.signed, IntKind.bits]; omega
theorem tdiv_nat (m n : Nat) : (m : Int).tdiv n = ((m / n : Nat) : Int) := rfl
theorem tmod_nat (m n : Nat) : (m : Int).tmod n = ((m % n : Nat) : Int) := rfl
set_option maxRecDepth 10000 in
theorem parts04_does (b : Nat) (hb : b < 18446744073709551616) (H : AHeap) : Does Try.prog 71 [du b] H (.ok (.tup [bA (decide (9223372036854775808 ≤ b)), du (b / 4503599627370496 % 2048), du (b % 4503599627370496)])) H := by
  have e1 : (b : Int).tdiv 4503599627370496 = ((b / 4503599627370496 : Nat) : Int) := rfl
  have e2 : ((b / 4503599627370496 : Nat) : Int).tmod 2048 = ((b / 4503599627370496 % 2048 : Nat) : Int) := rfl
  have e3 : (b : Int).tmod 4503599627370496 = ((b % 4503599627370496 : Nat) : Int) := rfl
  have e4 : ((9223372036854775808 : Int) ≤ (b : Int)) = (9223372036854775808 ≤ b) := by simp; omega
  refine Does.of_awp (hint := (fun _ => false)) Try.func71 (by kernel_rfl) rfl [2, 3, 4] (by kernel_rfl) (by decide) (by simp [Try.ntmps71]) ?_
  rw [Try.ntmps71]
  simp (implicitDefEqProofs := false) only [↓reduceIte, go_sem, oread, owrite, Nat.reduceAdd, Nat.reduceSub, Nat.reduceMul, Nat.reduceLT, Nat.reduceLeDiff, Nat.reduceEqDiff, Nat.reduceBEq, Int.reduceLE, Int.reduceLT, Int.reduceEq, Int.reduceNe, Int.reduceAdd, Int.reduceSub, Int.reduceMul, Int.reduceNeg, Int.reduceToNat, Int.reduceNatCast, reduceCtorEq, eq_self, e1, e2, e3, u64_of _ (show b / 4503599627370496 < 18446744073709551616 by omega)]
  refine AEnd.ret0 ?_
  simp (implicitDefEqProofs := false) only [↓reduceIte, go_sem, oread, owrite, Nat.reduceAdd, Nat.reduceSub, Nat.reduceMul, Nat.reduceLT, Nat.reduceLeDiff, Nat.reduceEqDiff, Nat.reduceBEq, Int.reduceLE, Int.reduceLT, Int.reduceEq, Int.reduceNe, Int.reduceAdd, Int.reduceSub, Int.reduceMul, Int.reduceNeg, Int.reduceToNat, Int.reduceNatCast, reduceCtorEq, eq_self, e4]
theorem nan04 (b : Nat) : (decide (b / 4503599627370496 % 2048 = 2047) && !decide (b % 4503599627370496 = 0)) = nanN b := by
  unfold nanN
  rw [Bool.eq_iff_iff]
  simp only [Bool.and_eq_true, decide_eq_true_eq, Bool.not_eq_true', decide_eq_false_iff_not]
  omega
set_option maxRecDepth 10000 in
theorem nan04_does (b : Nat) (hb : b < 18446744073709551616) (H : AHeap) : Does Try.prog 74 [du b] H (.ok (bA (nanN b))) H := by
  rw [← nan04]
  have hp := parts04_does b hb H
  generalize b / 4503599627370496 % 2048 = e at hp ⊢
  generalize b % 4503599627370496 = f at hp ⊢
  have e1 : (((e : Nat) : Int) = 2047) = (e = 2047) := by simp; omega
  have e2 : (((f : Nat) : Int) = 0) = (f = 0) := by simp
  refine Does.of_awp (hint := (fun _ => false)) Try.func74 (by kernel_rfl) rfl [2] (by kernel_rfl) (by decide) (by simp [Try.ntmps74]) ?_
  rw [Try.ntmps74]
  simp (implicitDefEqProofs := false) only [↓reduceIte, go_sem, oread, owrite, Nat.reduceAdd, Nat.reduceSub, Nat.reduceMul, Nat.reduceLT, Nat.reduceLeDiff, Nat.reduceEqDiff, Nat.reduceBEq, Int.reduceLE, Int.reduceLT, Int.reduceEq, Int.reduceNe, Int.reduceAdd, Int.reduceSub, Int.reduceMul, Int.reduceNeg, Int.reduceToNat, Int.reduceNatCast, reduceCtorEq, eq_self]
  refine KCall.ok hp ?_
  simp (implicitDefEqProofs := false) only [↓reduceIte, go_sem, oread, owrite, Nat.reduceAdd, Nat.reduceSub, Nat.reduceMul, Nat.reduceLT, Nat.reduceLeDiff, Nat.reduceEqDiff, Nat.reduceBEq, Int.reduceLE, Int.reduceLT, Int.reduceEq, Int.reduceNe, Int.reduceAdd, Int.reduceSub, Int.reduceMul, Int.reduceNeg, Int.reduceToNat, Int.reduceNatCast, reduceCtorEq, eq_self]
  by_cases h : e = 2047
  · simp (implicitDefEqProofs := false) only [↓reduceIte, go_sem, oread, owrite, Nat.reduceAdd, Nat.reduceSub, Nat.reduceMul, Nat.reduceLT, Nat.reduceLeDiff, Nat.reduceEqDiff, Nat.reduceBEq, Int.reduceLE, Int.reduceLT, Int.reduceEq, Int.reduceNe, Int.reduceAdd, Int.reduceSub, Int.reduceMul, Int.reduceNeg, Int.reduceToNat, Int.reduceNatCast, reduceCtorEq, eq_self, e1, e2, h]
    refine AEnd.ret0 ?_
    simp (implicitDefEqProofs := false) only [↓reduceIte, go_sem, oread, owrite, Nat.reduceAdd, Nat.reduceSub, Nat.reduceMul, Nat.reduceLT, Nat.reduceLeDiff, Nat.reduceEqDiff, Nat.reduceBEq, Int.reduceLE, Int.reduceLT, Int.reduceEq, Int.reduceNe, Int.reduceAdd, Int.reduceSub, Int.reduceMul, Int.reduceNeg, Int.reduceToNat, Int.reduceNatCast, reduceCtorEq, eq_self, h]
  · simp (implicitDefEqProofs := false) only [↓reduceIte, go_sem, oread, owrite, Nat.reduceAdd, Nat.reduceSub, Nat.reduceMul, Nat.reduceLT, Nat.reduceLeDiff, Nat.reduceEqDiff, Nat.reduceBEq, Int.reduceLE, Int.reduceLT, Int.reduceEq, Int.reduceNe, Int.reduceAdd, Int.reduceSub, Int.reduceMul, Int.reduceNeg, Int.reduceToNat, Int.reduceNatCast, reduceCtorEq, eq_self, e1, e2, h]
    refine AEnd.ret0 ?_
    simp (implicitDefEqProofs := false) only [↓reduceIte, go_sem, oread, owrite, Nat.reduceAdd, Nat.reduceSub, Nat.reduceMul, Nat.reduceLT, Nat.reduceLeDiff, Nat.reduceEqDiff, Nat.reduceBEq, Int.reduceLE, Int.reduceLT, Int.reduceEq, Int.reduceNe, Int.reduceAdd, Int.reduceSub, Int.reduceMul, Int.reduceNeg, Int.reduceToNat, Int.reduceNatCast, reduceCtorEq, eq_self, h]
set_option maxRecDepth 10000 in
theorem clean04_does (b : Nat) (hb : b < 18446744073709551616) (H : AHeap) : Does Try.prog 70 [du b] H (.ok (du (cleanN b))) H := by
  unfold cleanN
  refine Does.of_awp (hint := (fun _ => false)) Try.func70 (by kernel_rfl) rfl [2] (by kernel_rfl) (by decide) (by simp [Try.ntmps70]) ?_
  rw [Try.ntmps70]
  simp (implicitDefEqProofs := false) only [↓reduceIte, go_sem, oread, owrite, Nat.reduceAdd, Nat.reduceSub, Nat.reduceMul, Nat.reduceLT, Nat.reduceLeDiff, Nat.reduceEqDiff, Nat.reduceBEq, Int.reduceLE, Int.reduceLT, Int.reduceEq, Int.reduceNe, Int.reduceAdd, Int.reduceSub, Int.reduceMul, Int.reduceNeg, Int.reduceToNat, Int.reduceNatCast, reduceCtorEq, eq_self]
  refine KCall.ok (nan04_does b hb _) ?_
  cases h : nanN b with
  | true =>
    simp (implicitDefEqProofs := false) only [↓reduceIte, go_sem, oread, owrite, Nat.reduceAdd, Nat.reduceSub, Nat.reduceMul, Nat.reduceLT, Nat.reduceLeDiff, Nat.reduceEqDiff, Nat.reduceBEq, Int.reduceLE, Int.reduceLT, Int.reduceEq, Int.reduceNe, Int.reduceAdd, Int.reduceSub, Int.reduceMul, Int.reduceNeg, Int.reduceToNat, Int.reduceNatCast, reduceCtorEq, eq_self]
    refine AEnd.ret0 ?_
    simp (implicitDefEqProofs := false) only [↓reduceIte, go_sem, oread, owrite, Nat.reduceAdd, Nat.reduceSub, Nat.reduceMul, Nat.reduceLT, Nat.reduceLeDiff, Nat.reduceEqDiff, Nat.reduceBEq, Int.reduceLE, Int.reduceLT, Int.reduceEq, Int.reduceNe, Int.reduceAdd, Int.reduceSub, Int.reduceMul, Int.reduceNeg, Int.reduceToNat, Int.reduceNatCast, reduceCtorEq, eq_self, h]
    rfl
  | false =>
    simp (implicitDefEqProofs := false) only [↓reduceIte, go_sem, oread, owrite, Nat.reduceAdd, Nat.reduceSub, Nat.reduceMul, Nat.reduceLT, Nat.reduceLeDiff, Nat.reduceEqDiff, Nat.reduceBEq, Int.reduceLE, Int.reduceLT, Int.reduceEq, Int.reduceNe, Int.reduceAdd, Int.reduceSub, Int.reduceMul, Int.reduceNeg, Int.reduceToNat, Int.reduceNatCast, reduceCtorEq, eq_self]
    refine AEnd.ret0 ?_
    simp (implicitDefEqProofs := false) only [↓reduceIte, go_sem, oread, owrite, Nat.reduceAdd, Nat.reduceSub, Nat.reduceMul, Nat.reduceLT, Nat.reduceLeDiff, Nat.reduceEqDiff, Nat.reduceBEq, Int.reduceLE, Int.reduceLT, Int.reduceEq, Int.reduceNe, Int.reduceAdd, Int.reduceSub, Int.reduceMul, Int.reduceNeg, Int.reduceToNat, Int.reduceNatCast, reduceCtorEq, eq_self, h, Bool.false_eq_true]
set_option maxRecDepth 10000 in
theorem key04_does (b : Nat) (hb : b < 18446744073709551616) (H : AHeap) : Does Try.prog 53 [du b] H (.ok (du (keyN b))) H := by
  have hc := clean04_does b hb H
  have hlt := cleanN_lt b hb
  unfold keyN
  generalize cleanN b = c at hc hlt ⊢
  refine Does.of_awp (hint := (fun _ => false)) Try.func53 (by kernel_rfl) rfl [2] (by kernel_rfl) (by decide) (by simp [Try.ntmps53]) ?_
  rw [Try.ntmps53]
  simp (implicitDefEqProofs := false) only [↓reduceIte, go_sem, oread, owrite, Nat.reduceAdd, Nat.reduceSub, Nat.reduceMul, Nat.reduceLT, Nat.reduceLeDiff, Nat.reduceEqDiff, Nat.reduceBEq, Int.reduceLE, Int.reduceLT, Int.reduceEq, Int.reduceNe, Int.reduceAdd, Int.reduceSub, Int.reduceMul, Int.reduceNeg, Int.reduceToNat, Int.reduceNatCast, reduceCtorEq, eq_self]
  refine KCall.ok hc ?_
  simp (implicitDefEqProofs := false) only [↓reduceIte, go_sem, oread, owrite, Nat.reduceAdd, Nat.reduceSub, Nat.reduceMul, Nat.reduceLT, Nat.reduceLeDiff, Nat.reduceEqDiff, Nat.reduceBEq, Int.reduceLE, Int.reduceLT, Int.reduceEq, Int.reduceNe, Int.reduceAdd, Int.reduceSub, Int.reduceMul, Int.reduceNeg, Int.reduceToNat, Int.reduceNatCast, reduceCtorEq, eq_self]
  refine KCall.ok (parts04_does c hlt _) ?_
  simp (implicitDefEqProofs := false) only [↓reduceIte, go_sem, oread, owrite, Nat.reduceAdd, Nat.reduceSub, Nat.reduceMul, Nat.reduceLT, Nat.reduceLeDiff, Nat.reduceEqDiff, Nat.reduceBEq, Int.reduceLE, Int.reduceLT, Int.reduceEq, Int.reduceNe, Int.reduceAdd, Int.reduceSub, Int.reduceMul, Int.reduceNeg, Int.reduceToNat, Int.reduceNatCast, reduceCtorEq, eq_self]
  by_cases h : 9223372036854775808 ≤ c
  · have e1 : IntKind.u64.wrap ((18446744073709551615 : Int) - (c : Int)) = ((18446744073709551615 - c : Nat) : Int) := by rw [show (18446744073709551615 : Int) - (c : Int) = ((18446744073709551615 - c : Nat) : Int) from by omega]; exact u64_of _ (by omega)
    simp (implicitDefEqProofs := false) only [↓reduceIte, go_sem, oread, owrite, Nat.reduceAdd, Nat.reduceSub, Nat.reduceMul, Nat.reduceLT, Nat.reduceLeDiff, Nat.reduceEqDiff, Nat.reduceBEq, Int.reduceLE, Int.reduceLT, Int.reduceEq, Int.reduceNe, Int.reduceAdd, Int.reduceSub, Int.reduceMul, Int.reduceNeg, Int.reduceToNat, Int.reduceNatCast, reduceCtorEq, eq_self, h, e1]
    refine AEnd.ret0 ?_
    simp (implicitDefEqProofs := false) only [↓reduceIte, go_sem, oread, owrite, Nat.reduceAdd, Nat.reduceSub, Nat.reduceMul, Nat.reduceLT, Nat.reduceLeDiff, Nat.reduceEqDiff, Nat.reduceBEq, Int.reduceLE, Int.reduceLT, Int.reduceEq, Int.reduceNe, Int.reduceAdd, Int.reduceSub, Int.reduceMul, Int.reduceNeg, Int.reduceToNat, Int.reduceNatCast, reduceCtorEq, eq_self, h]
  · have e2 : (c : Int) + 9223372036854775808 = ((c + 9223372036854775808 : Nat) : Int) := by omega
    have e1 : IntKind.u64.wrap ((c : Int) + 9223372036854775808) = ((c + 9223372036854775808 : Nat) : Int) := by rw [show (c : Int) + 9223372036854775808 = ((c + 9223372036854775808 : Nat) : Int) from by omega]; exact u64_of _ (by omega)
    simp (implicitDefEqProofs := false) only [↓reduceIte, go_sem, oread, owrite, Nat.reduceAdd, Nat.reduceSub, Nat.reduceMul, Nat.reduceLT, Nat.reduceLeDiff, Nat.reduceEqDiff, Nat.reduceBEq, Int.reduceLE, Int.reduceLT, Int.reduceEq, Int.reduceNe, Int.reduceAdd, Int.reduceSub, Int.reduceMul, Int.reduceNeg, Int.reduceToNat, Int.reduceNatCast, reduceCtorEq, eq_self, h, e1]
    refine AEnd.ret0 ?_
    simp (implicitDefEqProofs := false) only [↓reduceIte, go_sem, oread, owrite, Nat.reduceAdd, Nat.reduceSub, Nat.reduceMul, Nat.reduceLT, Nat.reduceLeDiff, Nat.reduceEqDiff, Nat.reduceBEq, Int.reduceLE, Int.reduceLT, Int.reduceEq, Int.reduceNe, Int.reduceAdd, Int.reduceSub, Int.reduceMul, Int.reduceNeg, Int.reduceToNat, Int.reduceNatCast, reduceCtorEq, eq_self, h, du, Int.natCast_add]
    try rfl
set_option maxRecDepth 10000 in
theorem fcmp04_does (a b : Nat) (ha : a < 18446744073709551616) (hb : b < 18446744073709551616) (H : AHeap) : Does Try.prog 33 [du a, du b] H (.ok (iA (cmpF a b))) H := by
  have k1 := key04_does a ha H
  have k2 := key04_does b hb H
  unfold cmpF
  generalize keyN a = x at k1 ⊢
  generalize keyN b = y at k2 ⊢
  refine Does.of_awp (hint := (fun _ => false)) Try.func33 (by kernel_rfl) rfl [4] (by kernel_rfl) (by decide) (by simp [Try.ntmps33]) ?_
  rw [Try.ntmps33]
  simp (implicitDefEqProofs := false) only [↓reduceIte, go_sem, oread, owrite, Nat.reduceAdd, Nat.reduceSub, Nat.reduceMul, Nat.reduceLT, Nat.reduceLeDiff, Nat.reduceEqDiff, Nat.reduceBEq, Int.reduceLE, Int.reduceLT, Int.reduceEq, Int.reduceNe, Int.reduceAdd, Int.reduceSub, Int.reduceMul, Int.reduceNeg, Int.reduceToNat, Int.reduceNatCast, reduceCtorEq, eq_self]
  refine KCall.ok k1 ?_
  simp (implicitDefEqProofs := false) only [↓reduceIte, go_sem, oread, owrite, Nat.reduceAdd, Nat.reduceSub, Nat.reduceMul, Nat.reduceLT, Nat.reduceLeDiff, Nat.reduceEqDiff, Nat.reduceBEq, Int.reduceLE, Int.reduceLT, Int.reduceEq, Int.reduceNe, Int.reduceAdd, Int.reduceSub, Int.reduceMul, Int.reduceNeg, Int.reduceToNat, Int.reduceNatCast, reduceCtorEq, eq_self]
  refine KCall.ok k2 ?_
  simp (implicitDefEqProofs := false) only [↓reduceIte, go_sem, oread, owrite, Nat.reduceAdd, Nat.reduceSub, Nat.reduceMul, Nat.reduceLT, Nat.reduceLeDiff, Nat.reduceEqDiff, Nat.reduceBEq, Int.reduceLE, Int.reduceLT, Int.reduceEq, Int.reduceNe, Int.reduceAdd, Int.reduceSub, Int.reduceMul, Int.reduceNeg, Int.reduceToNat, Int.reduceNatCast, reduceCtorEq, eq_self]
  by_cases h : x < y
  · refine awp_T (by simp (implicitDefEqProofs := false) only [↓reduceIte, go_sem, oread, owrite, Nat.reduceAdd, Nat.reduceSub, Nat.reduceMul, Nat.reduceLT, Nat.reduceLeDiff, Nat.reduceEqDiff, Nat.reduceBEq, Int.reduceLE, Int.reduceLT, Int.reduceEq, Int.reduceNe, Int.reduceAdd, Int.reduceSub, Int.reduceMul, Int.reduceNeg, Int.reduceToNat, Int.reduceNatCast, reduceCtorEq, eq_self, h]) ?_
    simp (implicitDefEqProofs := false) only [↓reduceIte, go_sem, oread, owrite, Nat.reduceAdd, Nat.reduceSub, Nat.reduceMul, Nat.reduceLT, Nat.reduceLeDiff, Nat.reduceEqDiff, Nat.reduceBEq, Int.reduceLE, Int.reduceLT, Int.reduceEq, Int.reduceNe, Int.reduceAdd, Int.reduceSub, Int.reduceMul, Int.reduceNeg, Int.reduceToNat, Int.reduceNatCast, reduceCtorEq, eq_self]
    refine AEnd.ret0 ?_
    simp (implicitDefEqProofs := false) only [↓reduceIte, go_sem, oread, owrite, Nat.reduceAdd, Nat.reduceSub, Nat.reduceMul, Nat.reduceLT, Nat.reduceLeDiff, Nat.reduceEqDiff, Nat.reduceBEq, Int.reduceLE, Int.reduceLT, Int.reduceEq, Int.reduceNe, Int.reduceAdd, Int.reduceSub, Int.reduceMul, Int.reduceNeg, Int.reduceToNat, Int.reduceNatCast, reduceCtorEq, eq_self, ordI, h]
  · refine awp_F (by simp (implicitDefEqProofs := false) only [↓reduceIte, go_sem, oread, owrite, Nat.reduceAdd, Nat.reduceSub, Nat.reduceMul, Nat.reduceLT, Nat.reduceLeDiff, Nat.reduceEqDiff, Nat.reduceBEq, Int.reduceLE, Int.reduceLT, Int.reduceEq, Int.reduceNe, Int.reduceAdd, Int.reduceSub, Int.reduceMul, Int.reduceNeg, Int.reduceToNat, Int.reduceNatCast, reduceCtorEq, eq_self, h]) ?_
    simp (implicitDefEqProofs := false) only [↓reduceIte, go_sem, oread, owrite, Nat.reduceAdd, Nat.reduceSub, Nat.reduceMul, Nat.reduceLT, Nat.reduceLeDiff, Nat.reduceEqDiff, Nat.reduceBEq, Int.reduceLE, Int.reduceLT, Int.reduceEq, Int.reduceNe, Int.reduceAdd, Int.reduceSub, Int.reduceMul, Int.reduceNeg, Int.reduceToNat, Int.reduceNatCast, reduceCtorEq, eq_self]
    refine KCall.ok k1 ?_
    simp (implicitDefEqProofs := false) only [↓reduceIte, go_sem, oread, owrite, Nat.reduceAdd, Nat.reduceSub, Nat.reduceMul, Nat.reduceLT, Nat.reduceLeDiff, Nat.reduceEqDiff, Nat.reduceBEq, Int.reduceLE, Int.reduceLT, Int.reduceEq, Int.reduceNe, Int.reduceAdd, Int.reduceSub, Int.reduceMul, Int.reduceNeg, Int.reduceToNat, Int.reduceNatCast, reduceCtorEq, eq_self]
    refine KCall.ok k2 ?_
    simp (implicitDefEqProofs := false) only [↓reduceIte, go_sem, oread, owrite, Nat.reduceAdd, Nat.reduceSub, Nat.reduceMul, Nat.reduceLT, Nat.reduceLeDiff, Nat.reduceEqDiff, Nat.reduceBEq, Int.reduceLE, Int.reduceLT, Int.reduceEq, Int.reduceNe, Int.reduceAdd, Int.reduceSub, Int.reduceMul, Int.reduceNeg, Int.reduceToNat, Int.reduceNatCast, reduceCtorEq, eq_self]
    by_cases h2 : y < x
    · refine awp_T (by simp (implicitDefEqProofs := false) only [↓reduceIte, go_sem, oread, owrite, Nat.reduceAdd, Nat.reduceSub, Nat.reduceMul, Nat.reduceLT, Nat.reduceLeDiff, Nat.reduceEqDiff, Nat.reduceBEq, Int.reduceLE, Int.reduceLT, Int.reduceEq, Int.reduceNe, Int.reduceAdd, Int.reduceSub, Int.reduceMul, Int.reduceNeg, Int.reduceToNat, Int.reduceNatCast, reduceCtorEq, eq_self, h2]) ?_
      simp (implicitDefEqProofs := false) only [↓reduceIte, go_sem, oread, owrite, Nat.reduceAdd, Nat.reduceSub, Nat.reduceMul, Nat.reduceLT, Nat.reduceLeDiff, Nat.reduceEqDiff, Nat.reduceBEq, Int.reduceLE, Int.reduceLT, Int.reduceEq, Int.reduceNe, Int.reduceAdd, Int.reduceSub, Int.reduceMul, Int.reduceNeg, Int.reduceToNat, Int.reduceNatCast, reduceCtorEq, eq_self]
      refine AEnd.ret0 ?_
      simp (implicitDefEqProofs := false) only [↓reduceIte, go_sem, oread, owrite, Nat.reduceAdd, Nat.reduceSub, Nat.reduceMul, Nat.reduceLT, Nat.reduceLeDiff, Nat.reduceEqDiff, Nat.reduceBEq, Int.reduceLE, Int.reduceLT, Int.reduceEq, Int.reduceNe, Int.reduceAdd, Int.reduceSub, Int.reduceMul, Int.reduceNeg, Int.reduceToNat, Int.reduceNatCast, reduceCtorEq, eq_self, ordI, h, h2]
    · refine awp_F (by simp (implicitDefEqProofs := false) only [↓reduceIte, go_sem, oread, owrite, Nat.reduceAdd, Nat.reduceSub, Nat.reduceMul, Nat.reduceLT, Nat.reduceLeDiff, Nat.reduceEqDiff, Nat.reduceBEq, Int.reduceLE, Int.reduceLT, Int.reduceEq, Int.reduceNe, Int.reduceAdd, Int.reduceSub, Int.reduceMul, Int.reduceNeg, Int.reduceToNat, Int.reduceNatCast, reduceCtorEq, eq_self, h2]) ?_
      simp (implicitDefEqProofs := false) only [↓reduceIte, go_sem, oread, owrite, Nat.reduceAdd, Nat.reduceSub, Nat.reduceMul, Nat.reduceLT, Nat.reduceLeDiff, Nat.reduceEqDiff, Nat.reduceBEq, Int.reduceLE, Int.reduceLT, Int.reduceEq, Int.reduceNe, Int.reduceAdd, Int.reduceSub, Int.reduceMul, Int.reduceNeg, Int.reduceToNat, Int.reduceNatCast, reduceCtorEq, eq_self]
      refine AEnd.ret0 ?_
      simp (implicitDefEqProofs := false) only [↓reduceIte, go_sem, oread, owrite, Nat.reduceAdd, Nat.reduceSub, Nat.reduceMul, Nat.reduceLT, Nat.reduceLeDiff, Nat.reduceEqDiff, Nat.reduceBEq, Int.reduceLE, Int.reduceLT, Int.reduceEq, Int.reduceNe, Int.reduceAdd, Int.reduceSub, Int.reduceMul, Int.reduceNeg, Int.reduceToNat, Int.reduceNatCast, reduceCtorEq, eq_self, ordI, h, h2]
set_option maxRecDepth 10000 in
theorem order05_does (less more : Bool) (H : AHeap) : Does Try.prog 32 [bA less, bA more] H (.ok (iA (ordI less more))) H := by
  unfold ordI
  refine Does.of_awp (hint := (fun _ => false)) Try.func32 (by kernel_rfl) rfl [4] (by kernel_rfl) (by decide) (by simp [Try.ntmps32]) ?_
  rw [Try.ntmps32]
  cases less with
  | true =>
    simp (implicitDefEqProofs := false) only [↓reduceIte, go_sem, oread, owrite, Nat.reduceAdd, Nat.reduceSub, Nat.reduceMul, Nat.reduceLT, Nat.reduceLeDiff, Nat.reduceEqDiff, Nat.reduceBEq, Int.reduceLE, Int.reduceLT, Int.reduceEq, Int.reduceNe, Int.reduceAdd, Int.reduceSub, Int.reduceMul, Int.reduceNeg, Int.reduceToNat, Int.reduceNatCast, reduceCtorEq, eq_self]
    refine AEnd.ret0 ?_
    simp (implicitDefEqProofs := false) only [↓reduceIte, go_sem, oread, owrite, Nat.reduceAdd, Nat.reduceSub, Nat.reduceMul, Nat.reduceLT, Nat.reduceLeDiff, Nat.reduceEqDiff, Nat.reduceBEq, Int.reduceLE, Int.reduceLT, Int.reduceEq, Int.reduceNe, Int.reduceAdd, Int.reduceSub, Int.reduceMul, Int.reduceNeg, Int.reduceToNat, Int.reduceNatCast, reduceCtorEq, eq_self]
  | false =>
    cases more with
    | true =>
      simp (implicitDefEqProofs := false) only [↓reduceIte, go_sem, oread, owrite, Nat.reduceAdd, Nat.reduceSub, Nat.reduceMul, Nat.reduceLT, Nat.reduceLeDiff, Nat.reduceEqDiff, Nat.reduceBEq, Int.reduceLE, Int.reduceLT, Int.reduceEq, Int.reduceNe, Int.reduceAdd, Int.reduceSub, Int.reduceMul, Int.reduceNeg, Int.reduceToNat, Int.reduceNatCast, reduceCtorEq, eq_self]
      refine AEnd.ret0 ?_
      simp (implicitDefEqProofs := false) only [↓reduceIte, go_sem, oread, owrite, Nat.reduceAdd, Nat.reduceSub, Nat.reduceMul, Nat.reduceLT, Nat.reduceLeDiff, Nat.reduceEqDiff, Nat.reduceBEq, Int.reduceLE, Int.reduceLT, Int.reduceEq, Int.reduceNe, Int.reduceAdd, Int.reduceSub, Int.reduceMul, Int.reduceNeg, Int.reduceToNat, Int.reduceNatCast, reduceCtorEq, eq_self, Bool.false_eq_true]
    | false =>
      simp (implicitDefEqProofs := false) only [↓reduceIte, go_sem, oread, owrite, Nat.reduceAdd, Nat.reduceSub, Nat.reduceMul, Nat.reduceLT, Nat.reduceLeDiff, Nat.reduceEqDiff, Nat.reduceBEq, Int.reduceLE, Int.reduceLT, Int.reduceEq, Int.reduceNe, Int.reduceAdd, Int.reduceSub, Int.reduceMul, Int.reduceNeg, Int.reduceToNat, Int.reduceNatCast, reduceCtorEq, eq_self]
      refine AEnd.ret0 ?_
      simp (implicitDefEqProofs := false) only [↓reduceIte, go_sem, oread, owrite, Nat.reduceAdd, Nat.reduceSub, Nat.reduceMul, Nat.reduceLT, Nat.reduceLeDiff, Nat.reduceEqDiff, Nat.reduceBEq, Int.reduceLE, Int.reduceLT, Int.reduceEq, Int.reduceNe, Int.reduceAdd, Int.reduceSub, Int.reduceMul, Int.reduceNeg, Int.reduceToNat, Int.reduceNatCast, reduceCtorEq, eq_self, Bool.false_eq_true]
/-! ### Texts -/
def cmpL (a b : List UInt8) : Int := ordI (Op.bytesLess a b) (!(Op.bytesLess a b || a == b))
theorem cmpL_cons (x y : UInt8) (a b : List UInt8) : cmpL (x :: a) (y :: b) = if x.toNat < y.toNat then -1 else if y.toNat < x.toNat then 1 else cmpL a b := by
  unfold cmpL
  by_cases h : x < y
  · have h' : x.toNat < y.toNat := h
    simp [Op.bytesLess, h, h', ordI]
  · have h' : ¬ x.toNat < y.toNat := h
    by_cases h2 : y.toNat < x.toNat
    · have hne : (x == y) = false := by
        rw [beq_eq_false_iff_ne]; intro e; subst e; omega
      have hne' : ¬ x = y := by simpa using hne
      simp [Op.bytesLess, h, h', h2, ordI, hne']
    · have e : x = y := UInt8.toNat_inj.1 (by omega)
      subst e
      simp [Op.bytesLess, ordI]
theorem cmpL_nil_left (b : List UInt8) : cmpL [] b = ordI (decide (0 < b.length)) false := by
  cases b <;> simp [cmpL, Op.bytesLess, ordI]
theorem cmpL_nil_right (a : List UInt8) : cmpL a [] = ordI false (decide (0 < a.length)) := by
  cases a <;> simp [cmpL, Op.bytesLess, ordI]
theorem size_toList (a : ByteArray) : a.toList.length = a.size := by rw [ByteArray.toList_eq]; simp
theorem get_toList (a : ByteArray) (k : Nat) : a[k]? = a.toList[k]? := by
  rw [ByteArray.toList_eq]
  by_cases h : k < a.size
  · simp [h]
    rfl
  · simp [h]
theorem cmpL_drop (a b : List UInt8) : ∀ (k : Nat), k ≤ a.length → k ≤ b.length → (∀ i, i < k → a[i]? = b[i]?) → cmpL a b = cmpL (a.drop k) (b.drop k) := by
  intro k
  induction k with
  | zero => intros; rfl
  | succ k ih =>
    intro h1 h2 h
    rw [ih (by omega) (by omega) fun i hi => h i (by omega)]
    have e := h k (by omega)
    rw [List.getElem?_eq_getElem (by omega), List.getElem?_eq_getElem (by omega)] at e
    rw [List.drop_eq_getElem_cons (show k < a.length by omega), List.drop_eq_getElem_cons (show k < b.length by omega), cmpL_cons]
    have e : a[k] = b[k] := by simpa using e
    rw [e]
    simp
set_option maxRecDepth 10000 in
set_option maxHeartbeats 1000000 in
theorem texts05_does (a b : ByteArray) (ha : a.size ≤ 9223372036854775807) (H : AHeap) : Does Try.prog 34 [sA a, sA b] H (.ok (iA (cmpS a b))) H := by
  have hcmp : cmpS a b = cmpL a.toList b.toList := rfl
  have g1 : ∀ k, a[k]? = a.toList[k]? := get_toList a
  have g2 : ∀ k, b[k]? = b.toList[k]? := get_toList b
  have s1 := size_toList a
  have s2 := size_toList b
  have c1 : ∀ (x y : UInt8), (((x.toNat : Nat) : Int) < ((y.toNat : Nat) : Int)) = (x.toNat < y.toNat) := fun x y => by simp
  rw [hcmp]
  refine Does.of_awp (hint := (fun _ => false)) Try.func34 (by kernel_rfl) rfl [4] (by kernel_rfl) (by decide) (by simp [Try.ntmps34]) ?_
  rw [Try.ntmps34]
  simp (implicitDefEqProofs := false) only [↓reduceIte, go_sem, oread, owrite, Nat.reduceAdd, Nat.reduceSub, Nat.reduceMul, Nat.reduceLT, Nat.reduceLeDiff, Nat.reduceEqDiff, Nat.reduceBEq, Int.reduceLE, Int.reduceLT, Int.reduceEq, Int.reduceNe, Int.reduceAdd, Int.reduceSub, Int.reduceMul, Int.reduceNeg, Int.reduceToNat, Int.reduceNatCast, reduceCtorEq, eq_self]
  refine awp_for3 (fun k s H' => H' = H ∧ (∀ i, i < k → a.toList[i]? = b.toList[i]?) ∧ s 0 = sA a ∧ s 1 = sA b ∧ s 5 = iA k) (min a.size b.size) (by omega) (Weak.refl _ _) ?_ ?_ ?_
  · refine ⟨rfl, fun i hi => by omega, ?_⟩
    simp (implicitDefEqProofs := false) only [↓reduceIte, go_sem, oread, owrite, Nat.reduceAdd, Nat.reduceSub, Nat.reduceMul, Nat.reduceLT, Nat.reduceLeDiff, Nat.reduceEqDiff, Nat.reduceBEq, Int.reduceLE, Int.reduceLT, Int.reduceEq, Int.reduceNe, Int.reduceAdd, Int.reduceSub, Int.reduceMul, Int.reduceNeg, Int.reduceToNat, Int.reduceNatCast, reduceCtorEq, eq_self]
  · rintro k s H' hk hw ⟨rfl, hp, h0, h1, h5⟩
    have k1 : k < a.size := by omega
    have k2 : k < b.size := by omega
    have e1 : (k < a.size) = True := eq_true (by omega)
    have e2 : (k < b.size) = True := eq_true (by omega)
    simp (implicitDefEqProofs := false) only [↓reduceIte, go_sem, oread, owrite, Nat.reduceAdd, Nat.reduceSub, Nat.reduceMul, Nat.reduceLT, Nat.reduceLeDiff, Nat.reduceEqDiff, Nat.reduceBEq, Int.reduceLE, Int.reduceLT, Int.reduceEq, Int.reduceNe, Int.reduceAdd, Int.reduceSub, Int.reduceMul, Int.reduceNeg, Int.reduceToNat, Int.reduceNatCast, reduceCtorEq, eq_self, h0, h1, h5, e1, e2]
    have x1 : a[k]? = some a.toList[k] := by rw [g1]; exact List.getElem?_eq_getElem (by omega)
    have x2 : b[k]? = some b.toList[k] := by rw [g2]; exact List.getElem?_eq_getElem (by omega)
    have hd := cmpL_drop a.toList b.toList k (by omega) (by omega) hp
    rw [List.drop_eq_getElem_cons (show k < a.toList.length by omega), List.drop_eq_getElem_cons (show k < b.toList.length by omega), cmpL_cons] at hd
    have hp' : a.toList[k] = b.toList[k] → ∀ i, i < k + 1 → a.toList[i]? = b.toList[i]? := fun e i hi => by
      rcases Nat.lt_or_ge i k with h | h
      · exact hp i h
      · obtain rfl : i = k := by omega
        rw [List.getElem?_eq_getElem (by omega), List.getElem?_eq_getElem (by omega), e]
    generalize a.toList[k] = x at x1 hd hp'
    generalize b.toList[k] = y at x2 hd hp'
    refine awp_draw K.mixed (by kernel_rfl) ?_
    simp (implicitDefEqProofs := false) only [↓reduceIte, go_sem, oread, owrite, Nat.reduceAdd, Nat.reduceSub, Nat.reduceMul, Nat.reduceLT, Nat.reduceLeDiff, Nat.reduceEqDiff, Nat.reduceBEq, Int.reduceLE, Int.reduceLT, Int.reduceEq, Int.reduceNe, Int.reduceAdd, Int.reduceSub, Int.reduceMul, Int.reduceNeg, Int.reduceToNat, Int.reduceNatCast, reduceCtorEq, eq_self, h0, h1, h5, x1, x2, c1]
    by_cases hxy : x.toNat < y.toNat
    · refine awp_T (by simp (implicitDefEqProofs := false) only [↓reduceIte, go_sem, oread, owrite, Nat.reduceAdd, Nat.reduceSub, Nat.reduceMul, Nat.reduceLT, Nat.reduceLeDiff, Nat.reduceEqDiff, Nat.reduceBEq, Int.reduceLE, Int.reduceLT, Int.reduceEq, Int.reduceNe, Int.reduceAdd, Int.reduceSub, Int.reduceMul, Int.reduceNeg, Int.reduceToNat, Int.reduceNatCast, reduceCtorEq, eq_self, hxy]) ?_
      simp (implicitDefEqProofs := false) only [↓reduceIte, go_sem, oread, owrite, Nat.reduceAdd, Nat.reduceSub, Nat.reduceMul, Nat.reduceLT, Nat.reduceLeDiff, Nat.reduceEqDiff, Nat.reduceBEq, Int.reduceLE, Int.reduceLT, Int.reduceEq, Int.reduceNe, Int.reduceAdd, Int.reduceSub, Int.reduceMul, Int.reduceNeg, Int.reduceToNat, Int.reduceNatCast, reduceCtorEq, eq_self]
      refine AEnd.ret0 ?_
      rw [hd, if_pos hxy]
      simp (implicitDefEqProofs := false) only [↓reduceIte, go_sem, oread, owrite, Nat.reduceAdd, Nat.reduceSub, Nat.reduceMul, Nat.reduceLT, Nat.reduceLeDiff, Nat.reduceEqDiff, Nat.reduceBEq, Int.reduceLE, Int.reduceLT, Int.reduceEq, Int.reduceNe, Int.reduceAdd, Int.reduceSub, Int.reduceMul, Int.reduceNeg, Int.reduceToNat, Int.reduceNatCast, reduceCtorEq, eq_self]
    · refine awp_F (by simp (implicitDefEqProofs := false) only [↓reduceIte, go_sem, oread, owrite, Nat.reduceAdd, Nat.reduceSub, Nat.reduceMul, Nat.reduceLT, Nat.reduceLeDiff, Nat.reduceEqDiff, Nat.reduceBEq, Int.reduceLE, Int.reduceLT, Int.reduceEq, Int.reduceNe, Int.reduceAdd, Int.reduceSub, Int.reduceMul, Int.reduceNeg, Int.reduceToNat, Int.reduceNatCast, reduceCtorEq, eq_self, hxy]) ?_
      simp (implicitDefEqProofs := false) only [↓reduceIte, go_sem, oread, owrite, Nat.reduceAdd, Nat.reduceSub, Nat.reduceMul, Nat.reduceLT, Nat.reduceLeDiff, Nat.reduceEqDiff, Nat.reduceBEq, Int.reduceLE, Int.reduceLT, Int.reduceEq, Int.reduceNe, Int.reduceAdd, Int.reduceSub, Int.reduceMul, Int.reduceNeg, Int.reduceToNat, Int.reduceNatCast, reduceCtorEq, eq_self]
      refine awp_draw K.mixed (by kernel_rfl) ?_
      simp (implicitDefEqProofs := false) only [↓reduceIte, go_sem, oread, owrite, Nat.reduceAdd, Nat.reduceSub, Nat.reduceMul, Nat.reduceLT, Nat.reduceLeDiff, Nat.reduceEqDiff, Nat.reduceBEq, Int.reduceLE, Int.reduceLT, Int.reduceEq, Int.reduceNe, Int.reduceAdd, Int.reduceSub, Int.reduceMul, Int.reduceNeg, Int.reduceToNat, Int.reduceNatCast, reduceCtorEq, eq_self, h0, h1, h5, x1, x2, c1]
      by_cases hyx : y.toNat < x.toNat
      · refine awp_T (by simp (implicitDefEqProofs := false) only [↓reduceIte, go_sem, oread, owrite, Nat.reduceAdd, Nat.reduceSub, Nat.reduceMul, Nat.reduceLT, Nat.reduceLeDiff, Nat.reduceEqDiff, Nat.reduceBEq, Int.reduceLE, Int.reduceLT, Int.reduceEq, Int.reduceNe, Int.reduceAdd, Int.reduceSub, Int.reduceMul, Int.reduceNeg, Int.reduceToNat, Int.reduceNatCast, reduceCtorEq, eq_self, hyx]) ?_
        simp (implicitDefEqProofs := false) only [↓reduceIte, go_sem, oread, owrite, Nat.reduceAdd, Nat.reduceSub, Nat.reduceMul, Nat.reduceLT, Nat.reduceLeDiff, Nat.reduceEqDiff, Nat.reduceBEq, Int.reduceLE, Int.reduceLT, Int.reduceEq, Int.reduceNe, Int.reduceAdd, Int.reduceSub, Int.reduceMul, Int.reduceNeg, Int.reduceToNat, Int.reduceNatCast, reduceCtorEq, eq_self]
        refine AEnd.ret0 ?_
        rw [hd, if_neg hxy, if_pos hyx]
        simp (implicitDefEqProofs := false) only [↓reduceIte, go_sem, oread, owrite, Nat.reduceAdd, Nat.reduceSub, Nat.reduceMul, Nat.reduceLT, Nat.reduceLeDiff, Nat.reduceEqDiff, Nat.reduceBEq, Int.reduceLE, Int.reduceLT, Int.reduceEq, Int.reduceNe, Int.reduceAdd, Int.reduceSub, Int.reduceMul, Int.reduceNeg, Int.reduceToNat, Int.reduceNatCast, reduceCtorEq, eq_self]
      · refine awp_F (by simp (implicitDefEqProofs := false) only [↓reduceIte, go_sem, oread, owrite, Nat.reduceAdd, Nat.reduceSub, Nat.reduceMul, Nat.reduceLT, Nat.reduceLeDiff, Nat.reduceEqDiff, Nat.reduceBEq, Int.reduceLE, Int.reduceLT, Int.reduceEq, Int.reduceNe, Int.reduceAdd, Int.reduceSub, Int.reduceMul, Int.reduceNeg, Int.reduceToNat, Int.reduceNatCast, reduceCtorEq, eq_self, hyx]) ?_
        simp (implicitDefEqProofs := false) only [↓reduceIte, go_sem, oread, owrite, Nat.reduceAdd, Nat.reduceSub, Nat.reduceMul, Nat.reduceLT, Nat.reduceLeDiff, Nat.reduceEqDiff, Nat.reduceBEq, Int.reduceLE, Int.reduceLT, Int.reduceEq, Int.reduceNe, Int.reduceAdd, Int.reduceSub, Int.reduceMul, Int.reduceNeg, Int.reduceToNat, Int.reduceNatCast, reduceCtorEq, eq_self, h5]
        have e : x = y := UInt8.toNat_inj.1 (by omega)
        refine Rnd.same ⟨rfl, hp' e, ?_⟩
        simp (implicitDefEqProofs := false) only [↓reduceIte, go_sem, oread, owrite, Nat.reduceAdd, Nat.reduceSub, Nat.reduceMul, Nat.reduceLT, Nat.reduceLeDiff, Nat.reduceEqDiff, Nat.reduceBEq, Int.reduceLE, Int.reduceLT, Int.reduceEq, Int.reduceNe, Int.reduceAdd, Int.reduceSub, Int.reduceMul, Int.reduceNeg, Int.reduceToNat, Int.reduceNatCast, reduceCtorEq, eq_self, h0, h1, hw]
  · rintro s H' ⟨rfl, hp, h0, h1, h5⟩
    have hd := cmpL_drop a.toList b.toList (min a.size b.size) (by omega) (by omega) hp
    rcases Nat.lt_or_ge a.size b.size with hlt | hge
    · have e0 : min a.size b.size = a.size := by omega
      rw [e0] at h5 hd
      have e1 : (a.size < a.size) = False := eq_false (by omega)
      have e2 : (a.size < b.size) = True := eq_true (by omega)
      have e3 : (b.size < a.size) = False := eq_false (by omega)
      simp (implicitDefEqProofs := false) only [↓reduceIte, go_sem, oread, owrite, Nat.reduceAdd, Nat.reduceSub, Nat.reduceMul, Nat.reduceLT, Nat.reduceLeDiff, Nat.reduceEqDiff, Nat.reduceBEq, Int.reduceLE, Int.reduceLT, Int.reduceEq, Int.reduceNe, Int.reduceAdd, Int.reduceSub, Int.reduceMul, Int.reduceNeg, Int.reduceToNat, Int.reduceNatCast, reduceCtorEq, eq_self, h0, h1, h5, e1]
      refine KCall.ok (order05_does _ _ _) ?_
      simp (implicitDefEqProofs := false) only [↓reduceIte, go_sem, oread, owrite, Nat.reduceAdd, Nat.reduceSub, Nat.reduceMul, Nat.reduceLT, Nat.reduceLeDiff, Nat.reduceEqDiff, Nat.reduceBEq, Int.reduceLE, Int.reduceLT, Int.reduceEq, Int.reduceNe, Int.reduceAdd, Int.reduceSub, Int.reduceMul, Int.reduceNeg, Int.reduceToNat, Int.reduceNatCast, reduceCtorEq, eq_self]
      refine AEnd.ret0 ?_
      rw [hd, List.drop_of_length_le (Nat.le_of_eq s1), cmpL_nil_left, List.length_drop]
      simp (implicitDefEqProofs := false) only [↓reduceIte, go_sem, oread, owrite, Nat.reduceAdd, Nat.reduceSub, Nat.reduceMul, Nat.reduceLT, Nat.reduceLeDiff, Nat.reduceEqDiff, Nat.reduceBEq, Int.reduceLE, Int.reduceLT, Int.reduceEq, Int.reduceNe, Int.reduceAdd, Int.reduceSub, Int.reduceMul, Int.reduceNeg, Int.reduceToNat, Int.reduceNatCast, reduceCtorEq, eq_self, e2, e3, show (0 < b.toList.length - a.size) = True from eq_true (by omega)]
    · have e0 : min a.size b.size = b.size := by omega
      rw [e0] at h5 hd
      have e1 : (b.size < b.size) = False := eq_false (by omega)
      have e2 : (a.size < b.size) = False := eq_false (by omega)
      by_cases hlt : b.size < a.size
      · have e3 : (b.size < a.size) = True := eq_true (by omega)
        simp (implicitDefEqProofs := false) only [↓reduceIte, go_sem, oread, owrite, Nat.reduceAdd, Nat.reduceSub, Nat.reduceMul, Nat.reduceLT, Nat.reduceLeDiff, Nat.reduceEqDiff, Nat.reduceBEq, Int.reduceLE, Int.reduceLT, Int.reduceEq, Int.reduceNe, Int.reduceAdd, Int.reduceSub, Int.reduceMul, Int.reduceNeg, Int.reduceToNat, Int.reduceNatCast, reduceCtorEq, eq_self, h0, h1, h5, e1, e3]
        refine KCall.ok (order05_does _ _ _) ?_
        simp (implicitDefEqProofs := false) only [↓reduceIte, go_sem, oread, owrite, Nat.reduceAdd, Nat.reduceSub, Nat.reduceMul, Nat.reduceLT, Nat.reduceLeDiff, Nat.reduceEqDiff, Nat.reduceBEq, Int.reduceLE, Int.reduceLT, Int.reduceEq, Int.reduceNe, Int.reduceAdd, Int.reduceSub, Int.reduceMul, Int.reduceNeg, Int.reduceToNat, Int.reduceNatCast, reduceCtorEq, eq_self]
        refine AEnd.ret0 ?_
        rw [hd, List.drop_of_length_le (Nat.le_of_eq s2), cmpL_nil_right, List.length_drop]
        simp (implicitDefEqProofs := false) only [↓reduceIte, go_sem, oread, owrite, Nat.reduceAdd, Nat.reduceSub, Nat.reduceMul, Nat.reduceLT, Nat.reduceLeDiff, Nat.reduceEqDiff, Nat.reduceBEq, Int.reduceLE, Int.reduceLT, Int.reduceEq, Int.reduceNe, Int.reduceAdd, Int.reduceSub, Int.reduceMul, Int.reduceNeg, Int.reduceToNat, Int.reduceNatCast, reduceCtorEq, eq_self, e2, e3, show (0 < a.toList.length - b.size) = True from eq_true (by omega)]
      · have e3 : (b.size < a.size) = False := eq_false (by omega)
        simp (implicitDefEqProofs := false) only [↓reduceIte, go_sem, oread, owrite, Nat.reduceAdd, Nat.reduceSub, Nat.reduceMul, Nat.reduceLT, Nat.reduceLeDiff, Nat.reduceEqDiff, Nat.reduceBEq, Int.reduceLE, Int.reduceLT, Int.reduceEq, Int.reduceNe, Int.reduceAdd, Int.reduceSub, Int.reduceMul, Int.reduceNeg, Int.reduceToNat, Int.reduceNatCast, reduceCtorEq, eq_self, h0, h1, h5, e1, e3]
        refine KCall.ok (order05_does _ _ _) ?_
        simp (implicitDefEqProofs := false) only [↓reduceIte, go_sem, oread, owrite, Nat.reduceAdd, Nat.reduceSub, Nat.reduceMul, Nat.reduceLT, Nat.reduceLeDiff, Nat.reduceEqDiff, Nat.reduceBEq, Int.reduceLE, Int.reduceLT, Int.reduceEq, Int.reduceNe, Int.reduceAdd, Int.reduceSub, Int.reduceMul, Int.reduceNeg, Int.reduceToNat, Int.reduceNatCast, reduceCtorEq, eq_self]
        refine AEnd.ret0 ?_
        rw [hd, List.drop_of_length_le (Nat.le_of_eq s2), cmpL_nil_right, List.length_drop]
        simp (implicitDefEqProofs := false) only [↓reduceIte, go_sem, oread, owrite, Nat.reduceAdd, Nat.reduceSub, Nat.reduceMul, Nat.reduceLT, Nat.reduceLeDiff, Nat.reduceEqDiff, Nat.reduceBEq, Int.reduceLE, Int.reduceLT, Int.reduceEq, Int.reduceNe, Int.reduceAdd, Int.reduceSub, Int.reduceMul, Int.reduceNeg, Int.reduceToNat, Int.reduceNatCast, reduceCtorEq, eq_self, e2, e3, show (0 < a.toList.length - b.size) = False from eq_false (by omega)]
set_option maxRecDepth 10000 in
set_option maxHeartbeats 1000000 in
theorem vcmp05_does (a b : Val) (ha : a.s.size ≤ 9223372036854775807) (H : AHeap) : Does Try.prog 14 [a.av, b.av] H (.ok (iA (cmpV a b))) H := by
  unfold cmpV
  refine Does.of_awp (hint := (fun _ => false)) Try.func14 (by kernel_rfl) rfl [4] (by kernel_rfl) (by decide) (by simp [Try.ntmps14]) ?_
  rw [Try.ntmps14]
  simp (implicitDefEqProofs := false) only [↓reduceIte, go_sem, oread, owrite, Nat.reduceAdd, Nat.reduceSub, Nat.reduceMul, Nat.reduceLT, Nat.reduceLeDiff, Nat.reduceEqDiff, Nat.reduceBEq, Int.reduceLE, Int.reduceLT, Int.reduceEq, Int.reduceNe, Int.reduceAdd, Int.reduceSub, Int.reduceMul, Int.reduceNeg, Int.reduceToNat, Int.reduceNatCast, reduceCtorEq, eq_self]
  by_cases h : a.kind = b.kind
  · refine awp_F (by simp (implicitDefEqProofs := false) only [↓reduceIte, go_sem, oread, owrite, Nat.reduceAdd, Nat.reduceSub, Nat.reduceMul, Nat.reduceLT, Nat.reduceLeDiff, Nat.reduceEqDiff, Nat.reduceBEq, Int.reduceLE, Int.reduceLT, Int.reduceEq, Int.reduceNe, Int.reduceAdd, Int.reduceSub, Int.reduceMul, Int.reduceNeg, Int.reduceToNat, Int.reduceNatCast, reduceCtorEq, eq_self, h]) ?_
    simp (implicitDefEqProofs := false) only [↓reduceIte, go_sem, oread, owrite, Nat.reduceAdd, Nat.reduceSub, Nat.reduceMul, Nat.reduceLT, Nat.reduceLeDiff, Nat.reduceEqDiff, Nat.reduceBEq, Int.reduceLE, Int.reduceLT, Int.reduceEq, Int.reduceNe, Int.reduceAdd, Int.reduceSub, Int.reduceMul, Int.reduceNeg, Int.reduceToNat, Int.reduceNatCast, reduceCtorEq, eq_self]
    by_cases h1 : a.kind = 1
    · refine awp_T (by simp (implicitDefEqProofs := false) only [↓reduceIte, go_sem, oread, owrite, Nat.reduceAdd, Nat.reduceSub, Nat.reduceMul, Nat.reduceLT, Nat.reduceLeDiff, Nat.reduceEqDiff, Nat.reduceBEq, Int.reduceLE, Int.reduceLT, Int.reduceEq, Int.reduceNe, Int.reduceAdd, Int.reduceSub, Int.reduceMul, Int.reduceNeg, Int.reduceToNat, Int.reduceNatCast, reduceCtorEq, eq_self, h1]) ?_
      simp (implicitDefEqProofs := false) only [↓reduceIte, go_sem, oread, owrite, Nat.reduceAdd, Nat.reduceSub, Nat.reduceMul, Nat.reduceLT, Nat.reduceLeDiff, Nat.reduceEqDiff, Nat.reduceBEq, Int.reduceLE, Int.reduceLT, Int.reduceEq, Int.reduceNe, Int.reduceAdd, Int.reduceSub, Int.reduceMul, Int.reduceNeg, Int.reduceToNat, Int.reduceNatCast, reduceCtorEq, eq_self]
      refine KCall.ok (order05_does _ _ _) ?_
      simp (implicitDefEqProofs := false) only [↓reduceIte, go_sem, oread, owrite, Nat.reduceAdd, Nat.reduceSub, Nat.reduceMul, Nat.reduceLT, Nat.reduceLeDiff, Nat.reduceEqDiff, Nat.reduceBEq, Int.reduceLE, Int.reduceLT, Int.reduceEq, Int.reduceNe, Int.reduceAdd, Int.reduceSub, Int.reduceMul, Int.reduceNeg, Int.reduceToNat, Int.reduceNatCast, reduceCtorEq, eq_self]
      refine AEnd.ret ?_
      simp (implicitDefEqProofs := false) only [↓reduceIte, go_sem, oread, owrite, Nat.reduceAdd, Nat.reduceSub, Nat.reduceMul, Nat.reduceLT, Nat.reduceLeDiff, Nat.reduceEqDiff, Nat.reduceBEq, Int.reduceLE, Int.reduceLT, Int.reduceEq, Int.reduceNe, Int.reduceAdd, Int.reduceSub, Int.reduceMul, Int.reduceNeg, Int.reduceToNat, Int.reduceNatCast, reduceCtorEq, eq_self, h1, ← h, cmpI]
    · refine awp_F (by simp (implicitDefEqProofs := false) only [↓reduceIte, go_sem, oread, owrite, Nat.reduceAdd, Nat.reduceSub, Nat.reduceMul, Nat.reduceLT, Nat.reduceLeDiff, Nat.reduceEqDiff, Nat.reduceBEq, Int.reduceLE, Int.reduceLT, Int.reduceEq, Int.reduceNe, Int.reduceAdd, Int.reduceSub, Int.reduceMul, Int.reduceNeg, Int.reduceToNat, Int.reduceNatCast, reduceCtorEq, eq_self, h1]) ?_
      simp (implicitDefEqProofs := false) only [↓reduceIte, go_sem, oread, owrite, Nat.reduceAdd, Nat.reduceSub, Nat.reduceMul, Nat.reduceLT, Nat.reduceLeDiff, Nat.reduceEqDiff, Nat.reduceBEq, Int.reduceLE, Int.reduceLT, Int.reduceEq, Int.reduceNe, Int.reduceAdd, Int.reduceSub, Int.reduceMul, Int.reduceNeg, Int.reduceToNat, Int.reduceNatCast, reduceCtorEq, eq_self]
      by_cases h2 : a.kind = 2
      · refine awp_T (by simp (implicitDefEqProofs := false) only [↓reduceIte, go_sem, oread, owrite, Nat.reduceAdd, Nat.reduceSub, Nat.reduceMul, Nat.reduceLT, Nat.reduceLeDiff, Nat.reduceEqDiff, Nat.reduceBEq, Int.reduceLE, Int.reduceLT, Int.reduceEq, Int.reduceNe, Int.reduceAdd, Int.reduceSub, Int.reduceMul, Int.reduceNeg, Int.reduceToNat, Int.reduceNatCast, reduceCtorEq, eq_self, h2]) ?_
        simp (implicitDefEqProofs := false) only [↓reduceIte, go_sem, oread, owrite, Nat.reduceAdd, Nat.reduceSub, Nat.reduceMul, Nat.reduceLT, Nat.reduceLeDiff, Nat.reduceEqDiff, Nat.reduceBEq, Int.reduceLE, Int.reduceLT, Int.reduceEq, Int.reduceNe, Int.reduceAdd, Int.reduceSub, Int.reduceMul, Int.reduceNeg, Int.reduceToNat, Int.reduceNatCast, reduceCtorEq, eq_self, wrap_toU]
        refine KCall.ok (fcmp04_does _ _ (toU_lt _) (toU_lt _) _) ?_
        simp (implicitDefEqProofs := false) only [↓reduceIte, go_sem, oread, owrite, Nat.reduceAdd, Nat.reduceSub, Nat.reduceMul, Nat.reduceLT, Nat.reduceLeDiff, Nat.reduceEqDiff, Nat.reduceBEq, Int.reduceLE, Int.reduceLT, Int.reduceEq, Int.reduceNe, Int.reduceAdd, Int.reduceSub, Int.reduceMul, Int.reduceNeg, Int.reduceToNat, Int.reduceNatCast, reduceCtorEq, eq_self]
        refine AEnd.ret ?_
        simp (implicitDefEqProofs := false) only [↓reduceIte, go_sem, oread, owrite, Nat.reduceAdd, Nat.reduceSub, Nat.reduceMul, Nat.reduceLT, Nat.reduceLeDiff, Nat.reduceEqDiff, Nat.reduceBEq, Int.reduceLE, Int.reduceLT, Int.reduceEq, Int.reduceNe, Int.reduceAdd, Int.reduceSub, Int.reduceMul, Int.reduceNeg, Int.reduceToNat, Int.reduceNatCast, reduceCtorEq, eq_self, h2, ← h]
      · refine awp_F (by simp (implicitDefEqProofs := false) only [↓reduceIte, go_sem, oread, owrite, Nat.reduceAdd, Nat.reduceSub, Nat.reduceMul, Nat.reduceLT, Nat.reduceLeDiff, Nat.reduceEqDiff, Nat.reduceBEq, Int.reduceLE, Int.reduceLT, Int.reduceEq, Int.reduceNe, Int.reduceAdd, Int.reduceSub, Int.reduceMul, Int.reduceNeg, Int.reduceToNat, Int.reduceNatCast, reduceCtorEq, eq_self, h2]) ?_
        simp (implicitDefEqProofs := false) only [↓reduceIte, go_sem, oread, owrite, Nat.reduceAdd, Nat.reduceSub, Nat.reduceMul, Nat.reduceLT, Nat.reduceLeDiff, Nat.reduceEqDiff, Nat.reduceBEq, Int.reduceLE, Int.reduceLT, Int.reduceEq, Int.reduceNe, Int.reduceAdd, Int.reduceSub, Int.reduceMul, Int.reduceNeg, Int.reduceToNat, Int.reduceNatCast, reduceCtorEq, eq_self]
        by_cases h3 : a.kind = 3
        · refine awp_T (by simp (implicitDefEqProofs := false) only [↓reduceIte, go_sem, oread, owrite, Nat.reduceAdd, Nat.reduceSub, Nat.reduceMul, Nat.reduceLT, Nat.reduceLeDiff, Nat.reduceEqDiff, Nat.reduceBEq, Int.reduceLE, Int.reduceLT, Int.reduceEq, Int.reduceNe, Int.reduceAdd, Int.reduceSub, Int.reduceMul, Int.reduceNeg, Int.reduceToNat, Int.reduceNatCast, reduceCtorEq, eq_self, h3]) ?_
          simp (implicitDefEqProofs := false) only [↓reduceIte, go_sem, oread, owrite, Nat.reduceAdd, Nat.reduceSub, Nat.reduceMul, Nat.reduceLT, Nat.reduceLeDiff, Nat.reduceEqDiff, Nat.reduceBEq, Int.reduceLE, Int.reduceLT, Int.reduceEq, Int.reduceNe, Int.reduceAdd, Int.reduceSub, Int.reduceMul, Int.reduceNeg, Int.reduceToNat, Int.reduceNatCast, reduceCtorEq, eq_self]
          refine KCall.ok (texts05_does _ _ ha _) ?_
          simp (implicitDefEqProofs := false) only [↓reduceIte, go_sem, oread, owrite, Nat.reduceAdd, Nat.reduceSub, Nat.reduceMul, Nat.reduceLT, Nat.reduceLeDiff, Nat.reduceEqDiff, Nat.reduceBEq, Int.reduceLE, Int.reduceLT, Int.reduceEq, Int.reduceNe, Int.reduceAdd, Int.reduceSub, Int.reduceMul, Int.reduceNeg, Int.reduceToNat, Int.reduceNatCast, reduceCtorEq, eq_self]
          refine AEnd.ret ?_
          simp (implicitDefEqProofs := false) only [↓reduceIte, go_sem, oread, owrite, Nat.reduceAdd, Nat.reduceSub, Nat.reduceMul, Nat.reduceLT, Nat.reduceLeDiff, Nat.reduceEqDiff, Nat.reduceBEq, Int.reduceLE, Int.reduceLT, Int.reduceEq, Int.reduceNe, Int.reduceAdd, Int.reduceSub, Int.reduceMul, Int.reduceNeg, Int.reduceToNat, Int.reduceNatCast, reduceCtorEq, eq_self, h3, ← h]
        · refine awp_F (by simp (implicitDefEqProofs := false) only [↓reduceIte, go_sem, oread, owrite, Nat.reduceAdd, Nat.reduceSub, Nat.reduceMul, Nat.reduceLT, Nat.reduceLeDiff, Nat.reduceEqDiff, Nat.reduceBEq, Int.reduceLE, Int.reduceLT, Int.reduceEq, Int.reduceNe, Int.reduceAdd, Int.reduceSub, Int.reduceMul, Int.reduceNeg, Int.reduceToNat, Int.reduceNatCast, reduceCtorEq, eq_self, h3]) ?_
          simp (implicitDefEqProofs := false) only [↓reduceIte, go_sem, oread, owrite, Nat.reduceAdd, Nat.reduceSub, Nat.reduceMul, Nat.reduceLT, Nat.reduceLeDiff, Nat.reduceEqDiff, Nat.reduceBEq, Int.reduceLE, Int.reduceLT, Int.reduceEq, Int.reduceNe, Int.reduceAdd, Int.reduceSub, Int.reduceMul, Int.reduceNeg, Int.reduceToNat, Int.reduceNatCast, reduceCtorEq, eq_self]
          refine AEnd.ret ?_
          simp (implicitDefEqProofs := false) only [↓reduceIte, go_sem, oread, owrite, Nat.reduceAdd, Nat.reduceSub, Nat.reduceMul, Nat.reduceLT, Nat.reduceLeDiff, Nat.reduceEqDiff, Nat.reduceBEq, Int.reduceLE, Int.reduceLT, Int.reduceEq, Int.reduceNe, Int.reduceAdd, Int.reduceSub, Int.reduceMul, Int.reduceNeg, Int.reduceToNat, Int.reduceNatCast, reduceCtorEq, eq_self, h1, h2, h3, ← h]
  · refine awp_T (by simp (implicitDefEqProofs := false) only [↓reduceIte, go_sem, oread, owrite, Nat.reduceAdd, Nat.reduceSub, Nat.reduceMul, Nat.reduceLT, Nat.reduceLeDiff, Nat.reduceEqDiff, Nat.reduceBEq, Int.reduceLE, Int.reduceLT, Int.reduceEq, Int.reduceNe, Int.reduceAdd, Int.reduceSub, Int.reduceMul, Int.reduceNeg, Int.reduceToNat, Int.reduceNatCast, reduceCtorEq, eq_self, h]) ?_
    simp (implicitDefEqProofs := false) only [↓reduceIte, go_sem, oread, owrite, Nat.reduceAdd, Nat.reduceSub, Nat.reduceMul, Nat.reduceLT, Nat.reduceLeDiff, Nat.reduceEqDiff, Nat.reduceBEq, Int.reduceLE, Int.reduceLT, Int.reduceEq, Int.reduceNe, Int.reduceAdd, Int.reduceSub, Int.reduceMul, Int.reduceNeg, Int.reduceToNat, Int.reduceNatCast, reduceCtorEq, eq_self]
    refine KCall.ok (order05_does _ _ _) ?_
    simp (implicitDefEqProofs := false) only [↓reduceIte, go_sem, oread, owrite, Nat.reduceAdd, Nat.reduceSub, Nat.reduceMul, Nat.reduceLT, Nat.reduceLeDiff, Nat.reduceEqDiff, Nat.reduceBEq, Int.reduceLE, Int.reduceLT, Int.reduceEq, Int.reduceNe, Int.reduceAdd, Int.reduceSub, Int.reduceMul, Int.reduceNeg, Int.reduceToNat, Int.reduceNatCast, reduceCtorEq, eq_self]
    refine AEnd.ret ?_
    simp (implicitDefEqProofs := false) only [↓reduceIte, go_sem, oread, owrite, Nat.reduceAdd, Nat.reduceSub, Nat.reduceMul, Nat.reduceLT, Nat.reduceLeDiff, Nat.reduceEqDiff, Nat.reduceBEq, Int.reduceLE, Int.reduceLT, Int.reduceEq, Int.reduceNe, Int.reduceAdd, Int.reduceSub, Int.reduceMul, Int.reduceNeg, Int.reduceToNat, Int.reduceNatCast, reduceCtorEq, eq_self, h, cmpI]
end Go.Proofs.Ytfmmemboakdeiaa
namespace Go.Proofs.YtfmmemboakdeiaaAw
open Go.RowKit
set_option linter.unusedVariables false
set_option linter.unusedSimpArgs false
theorem Rel.freeze {H : AHeap} {φ : Phi} {N : Addr → Prop} {w : World} {id k ver : Nat} {e : TypeId} {es : List (List D)} (hR : Rel H φ N w) (ho : H[id]? = some (.arr e k ver es)) :
    ∃ φ' N', Rel (H.set id (.arr e k (ver + 1) [])) φ' N' w ∧ Since H φ N w (H.set id (.arr e k (ver + 1) [])) φ' N' w ∧
      ∀ off len v, RA H φ N w (.sl id ver off len) v → RA (H.set id (.arr e k (ver + 1) [])) φ' N' w (.d (.list false ((es.drop off).take len))) v := by
  have hid : id < H.length := len_of_get ho
  have hobj := hR.obj id _ ho
  cases hobj with
  | arr _ _ _ _ hk hes hbl =>
  let φ' : Phi := fun j => if j = id then none else φ j
  let N' : Addr → Prop := fun a => N a ∨ ∃ B c, φ id = some (B, c) ∧ a.block = B ∧ a.spot = none ∧ a.off < es.length * k
  have hφ : ∀ j, j ≠ id → φ' j = φ j := fun j hj => if_neg hj
  have hφi : φ' id = none := if_pos rfl
  have hS : Since H φ N w (H.set id (.arr e k (ver + 1) [])) φ' N' w := by
    refine ⟨by simp, rfl, rfl, rfl, Nat.le_refl _, fun _ _ _ => rfl, fun j B c hj hp _ => ?_, fun _ h => .inl h, fun j o hj => ?_⟩
    · by_cases hji : j = id
      · subst hji; rw [hφi] at hp; cases hp
      · rw [hφ j hji] at hp
        exact ⟨j, c, by simpa using hj, hp⟩
    · by_cases hji : j = id
      · subst hji
        rw [ho] at hj; cases hj
        refine ⟨.arr e k (ver + 1) [], by simp [hid], rfl, Nat.le_succ _, fun h => ?_, fun kk es' h => by cases h⟩
        simp only [AObj.ver] at h
        omega
      · refine ⟨o, by rw [List.getElem?_set_ne (Ne.symm hji)]; exact hj, rfl, Nat.le_refl _, fun _ => ⟨hφ j hji, Nat.le_refl _⟩, fun kk es' h => ⟨hφ j hji, es', h⟩⟩
  refine ⟨φ', N', ⟨fun j o hj => ?_, fun i j B c c' hi hj hpi hpj => ?_, fun a ha => ?_, fun a j B c ha hj hp => ?_⟩, hS, fun off len v hv => ?_⟩
  · by_cases hji : j = id
    · subst hji
      simp [hid] at hj
      subst hj
      exact .arr e k (ver + 1) [] hk (fun c hc => by simp at hc) (.inl ⟨hφi, rfl⟩)
    · rw [List.getElem?_set_ne (Ne.symm hji)] at hj
      exact (hR.obj j o hj).keep hR hS (hφ j hji) fun _ _ _ => rfl
  · have hi' : i ≠ id := fun h => by subst h; rw [hφi] at hpi; cases hpi
    have hj' : j ≠ id := fun h => by subst h; rw [hφi] at hpj; cases hpj
    rw [hφ i hi'] at hpi
    rw [hφ j hj'] at hpj
    exact hR.inj i j B c c' (by simpa using hi) (by simpa using hj) hpi hpj
  · rcases ha with ha | ⟨B, c, hB, h1, h2, h3⟩
    · exact hR.live a ha
    · rcases hbl with ⟨g0, _⟩ | ⟨B', cap, cur, g1, g2, g3, g4, g5, g6⟩
      · rw [g0] at hB; cases hB
      · rw [g1] at hB; cases hB
        have hlt : a.off < cur.size := by have := Nat.mul_le_mul_right k g3; omega
        refine ⟨cur[a.off], ?_⟩
        simp [World.cell?, h1, g2, h2, hlt]
  · have hj' : j ≠ id := fun h => by subst h; rw [hφi] at hp; cases hp
    rw [hφ j hj'] at hp
    have hj2 : j < H.length := by simpa using hj
    rcases ha with ha | ⟨B0, c0, hB, h1, _⟩
    · exact hR.apart a j B c ha hj2 hp
    · intro hab
      have : B0 = B := h1.symm.trans hab
      subst this
      exact hj' (hR.inj j id B0 c c0 hj2 hid hp hB)
  · cases hv with
    | sl _ _ _ _ A l m' o ho' hv' hp =>
    rw [ho] at ho'; cases ho'
    obtain ⟨rfl, h1, h2⟩ := hp rfl
    simp only [AObj.len] at h1
    by_cases hl0 : l = 0
    · subst hl0
      simp only [List.take_zero]
      exact .d (.nil _ _ (by rcases h2 with ⟨_, _, _, rfl⟩ | ⟨B, c, _, _, rfl, _⟩; exact fun _ => rfl; exact fun h => by cases h))
    rcases h2 with ⟨_, h3, _⟩ | ⟨B, c, h3, h4, rfl, rfl⟩
    · omega
    rcases hbl with ⟨g0, _⟩ | ⟨B', cap, cur, g1, g2, g3, g4, g5, g6⟩
    · rw [g0] at h3; cases h3
    have hφ3 := h3
    obtain ⟨e1, e2⟩ := Prod.mk.inj (Option.some.inj (g1.symm.trans h3))
    subst e1 e2
    have hel : ((es.drop off).take l).length = l := by simp; omega
    have key := RD.list (N := N') (w := w) false ((es.drop off).take l) ⟨B', off * k, none⟩ (cap - off) k (fun i j => cur.getD ((off + i) * k + j) undef) (by rw [hel]; omega)
      (fun e he => hes e (List.mem_of_mem_drop (List.mem_of_mem_take he))) (fun i j hi hj => by
        rw [hel] at hi
        have hlt : (off + i) * k + j < es.length * k := place_lt hj (by omega)
        have hlt2 : (off + i) * k + j < cur.size := by have := Nat.mul_le_mul_right k g3; omega
        have hpos : off * k + (i * k + j) = (off + i) * k + j := by rw [Nat.add_mul]; omega
        rw [add_plain, hpos]
        refine ⟨.inr ⟨B', cap, hφ3, rfl, rfl, hlt⟩, ?_⟩
        simp [World.cell?, g2, Array.getD, hlt2]) (fun i hi j hj => by
        rw [hel] at hi
        simp only [List.getElem_take, List.getElem_drop] at hj ⊢
        obtain ⟨u, hu, hd⟩ := g6 (off + i) (by omega) j hj
        have hget : cur.getD ((off + i) * k + j) undef = u := by
          rw [Array.getD_eq_getD_getElem?, hu]; rfl
        simp only [hget]
        exact hd.since hR hS)
    rw [hel] at key
    exact .d key
/-- What is handed on never changes again: its owner has an empty array of a later version. -/
theorem Does.freeze {P : Program} {f : FuncId} (pre : List AV) {post : List AV} {id k ver off len : Nat} {e : TypeId} {es : List (List D)} {H H' : AHeap} {res : ARes} (ho : H[id]? = some (.arr e k ver es))
    (h : Does P f (pre ++ .d (.list false ((es.drop off).take len)) :: post) (H.set id (.arr e k (ver + 1) [])) res H') : Does P f (pre ++ .sl id ver off len :: post) H res H' := by
  intro φ N w vals hR hA
  obtain ⟨φ1, N1, hR1, hS1, hv⟩ := hR.freeze ho
  have hA1 : RAs (H.set id (.arr e k (ver + 1) [])) φ1 N1 w (pre ++ .d (.list false ((es.drop off).take len)) :: post) vals := by
    refine ⟨by rw [← hA.1]; simp, fun i h1 h2 => ?_⟩
    have h3 := hA.2 i (by simpa using h1) h2
    by_cases hi : i = pre.length
    · subst hi
      simp only [List.getElem_append_right (Nat.le_refl _), Nat.sub_self, List.getElem_cons_zero] at h3 ⊢
      exact hv off len _ h3
    · rcases Nat.lt_or_ge i pre.length with hlt | hge
      · rw [List.getElem_append_left hlt] at h3 ⊢
        exact h3.since hR hS1
      · rw [List.getElem_append_right hge] at h3 ⊢
        obtain ⟨j, hj⟩ : ∃ j, i - pre.length = j + 1 := ⟨i - pre.length - 1, by omega⟩
        simp only [hj, List.getElem_cons_succ] at h3 ⊢
        exact h3.since hR hS1
  have h4 := h φ1 N1 w vals hR1 hA1
  have go : ∀ e' w', (∃ φ' N', Rel H' φ' N' w' ∧ Since (H.set id (.arr e k (ver + 1) [])) φ1 N1 w H' φ' N' w' ∧ REnd H' φ' N' w' res e') → ∃ φ' N', Rel H' φ' N' w' ∧ Since H φ N w H' φ' N' w' ∧ REnd H' φ' N' w' res e' := by
    rintro e' w' ⟨φ', N', hR', hS', hE⟩
    exact ⟨φ', N', hR', hS1.trans hS', hE⟩
  rcases h4 with ⟨h5, h6⟩ | ⟨v, w', h5, h6⟩
  · exact .inl ⟨h5, h6.mono go⟩
  · exact .inr ⟨v, w', h5, go _ _ h6⟩
theorem KCall.frz {P : Program} {f : FuncId} (pre : List AV) {post : List AV} {id k ver off len : Nat} {e : TypeId} {es : List (List D)} {H H' : AHeap} {K : AV → AHeap → Prop} {KP : Value → AHeap → Prop} {r : AV} (ho : H[id]? = some (.arr e k ver es))
    (h : Does P f (pre ++ .d (.list false ((es.drop off).take len)) :: post) (H.set id (.arr e k (ver + 1) [])) (.ok r) H') (hk : K r H') : KCall P f (pre ++ .sl id ver off len :: post) H K KP := KCall.ok (Does.freeze pre ho h) hk
end Go.Proofs.YtfmmemboakdeiaaAw

/- Operations, part two: numbers, texts, parts, slices. -/
import Derived.Test.YtfmmemboakdeiaaAw4
namespace Go.Proofs.YtfmmemboakdeiaaAw
open Go.RowKit
set_option linter.unusedVariables false
set_option linter.unusedSimpArgs false

/-- A closed value. -/
def closedAll : List AV → Option (List Value)
  | [] => some []
  | .d (.v x) :: r => if x.oneCell' then (closedAll r).map (x :: ·) else none
  | _ :: _ => none
def closed : AV → Option Value
  | .d (.v x) => some x
  | .agg cs => (closedAll cs).map fun l => .agg l.toArray
  | _ => none
theorem closedAll_ok {H : AHeap} {φ : Phi} {N : Addr → Prop} {w : World} : ∀ {cs : List AV} {l : List Value} (vs : List Value), cs.length = vs.length → (∀ i (h1 : i < cs.length) (h2 : i < vs.length), RA H φ N w (cs[i]) (vs[i])) →
    closedAll cs = some l → vs = l
  | [], l, vs, hl, _, h => by cases h; exact List.eq_nil_of_length_eq_zero hl.symm
  | c :: cs, l, vs, hl, hh, h => by
    cases vs with
    | nil => cases hl
    | cons v vs =>
      cases c with
      | d x =>
        cases x with
        | v x =>
          simp only [closedAll] at h
          split at h
          · obtain ⟨l', hl', rfl⟩ := Option.map_eq_some_iff.1 h
            have h0 := hh 0 (by simp) (by simp)
            simp only [List.getElem_cons_zero] at h0
            rw [h0.closed, closedAll_ok vs (by simpa using hl) (fun i h1 h2 => by have := hh (i + 1) (by simpa using h1) (by simpa using h2); simpa using this) hl']
          · cases h
        | list _ _ => cases h
      | _ => cases h
theorem closed_ok {H : AHeap} {φ : Phi} {N : Addr → Prop} {w : World} {x : AV} {v u : Value} (h : RA H φ N w x v) (hc : closed x = some u) : v = u := by
  cases x with
  | d x =>
    cases x with
    | v x => cases hc; exact h.closed
    | list _ _ => cases hc
  | agg cs =>
    obtain ⟨l, hl, rfl⟩ := Option.map_eq_some_iff.1 hc
    cases h with
    | agg _ vs hs hh =>
    rw [← closedAll_ok vs.toList (by simpa using hs) (fun i h1 h2 => by simpa using hh i h1 (by simpa using h2)) hl]
  | _ => cases hc

section
variable {P : Program} {o : Oper} {a : Act} {w : World} {H : AHeap} {φ : Phi} {N : Addr → Prop} {s : Nat → AV}

/-! ### numbers and texts -/
def PureBin (P : Program) (op : BinOp) (t : TypeId) (u v r : Value) : Prop := ∀ (x y : Operand) (w : World), (do eqGuard op t x y u v; Go.binOp op t u v : Sem Value).run P w = .ok r w
theorem ok_bin (hR : Rel H φ N w) (hT : TRel H φ N w s a) (op : BinOp) (t ty : TypeId) (x y : Operand) (ho : o.op = .binOp op t x y ty) (u v r : Value) (hx : closed (aeval s x) = some u) (hy : closed (aeval s y) = some v)
    (h : PureBin P op t u v r) : OpOk P o a w H φ N (aconst r) H := by
  refine .same hR (aconst_ok r) ?_
  rw [← closed_ok (aeval_ok hT x) hx, ← closed_ok (aeval_ok hT y) hy] at h
  have := h x y w
  simp only [execOp, ho]
  rw [Sem.run_bind, this]
  rfl

/-- What a binary operation says of numbers, texts and bools. -/
def binK (P : Program) (op : BinOp) (t : TypeId) (u v : Value) (K : Value → Prop) : Prop :=
  match u, v with
  | .int k m, .int k' n =>
    match op with
    | .shl => 0 ≤ n ∧ K (.int k (k.wrap (m * 2 ^ (min n.toNat k.bits))))
    | .shr => 0 ≤ n ∧ K (.int k (m.fdiv (2 ^ (min n.toNat k.bits))))
    | .add => k = k' ∧ K (.int k (k.wrap (m + n)))
    | .sub => k = k' ∧ K (.int k (k.wrap (m - n)))
    | .mul => k = k' ∧ K (.int k (k.wrap (m * n)))
    | .quo => k = k' ∧ n ≠ 0 ∧ K (.int k (k.wrap (m.tdiv n)))
    | .rem => k = k' ∧ n ≠ 0 ∧ K (.int k (m.tmod n))
    | .and => k = k' ∧ K (.int k (k.wrap (BitVec.ofInt k.bits m &&& BitVec.ofInt k.bits n).toNat))
    | .or => k = k' ∧ K (.int k (k.wrap (BitVec.ofInt k.bits m ||| BitVec.ofInt k.bits n).toNat))
    | .xor => k = k' ∧ K (.int k (k.wrap (BitVec.ofInt k.bits m ^^^ BitVec.ofInt k.bits n).toNat))
    | .andNot => k = k' ∧ K (.int k (k.wrap (BitVec.ofInt k.bits m &&& ~~~BitVec.ofInt k.bits n).toNat))
    | .eql => k = k' ∧ K (.bool (m == n))
    | .neq => k = k' ∧ K (.bool (m != n))
    | .lss => k = k' ∧ K (.bool (decide (m < n)))
    | .leq => k = k' ∧ K (.bool (decide (m ≤ n)))
    | .gtr => k = k' ∧ K (.bool (decide (m > n)))
    | .geq => k = k' ∧ K (.bool (decide (m ≥ n)))
  | .string m, .string n =>
    match op with
    | .eql => K (.bool (m.toList == n.toList))
    | .neq => K (.bool (!(m.toList == n.toList)))
    | .lss => K (.bool (Op.bytesLess m.toList n.toList))
    | .leq => K (.bool (Op.bytesLess m.toList n.toList || m.toList == n.toList))
    | .gtr => K (.bool (!(Op.bytesLess m.toList n.toList || m.toList == n.toList)))
    | .geq => K (.bool (!Op.bytesLess m.toList n.toList))
    | _ => ∃ r, PureBin P op t u v r ∧ K r
  | _, _ => ∃ r, PureBin P op t u v r ∧ K r

theorem binK_ok {op : BinOp} {t : TypeId} {u v : Value} {K : Value → Prop} (h : binK P op t u v K) : ∃ r, PureBin P op t u v r ∧ K r := by
  unfold binK at h
  split at h
  · rename_i k m k' n
    split at h <;> first
      | (obtain ⟨h0, h⟩ := h
         refine ⟨_, fun x y w => ?_, h⟩
         simp [eqGuard, Go.binOp, Op.shift, Int.not_lt.2 h0]; done)
      | (obtain ⟨rfl, h0, h⟩ := h
         refine ⟨_, fun x y w => ?_, h⟩
         simp [eqGuard, Go.binOp, Op.intDiv, h0]; done)
      | (obtain ⟨rfl, h⟩ := h
         refine ⟨_, fun x y w => ?_, h⟩
         simp [eqGuard, Go.binOp, Op.intArith, Op.intBits, Op.intCmp]; done)
  · split at h <;> first
      | exact h
      | (refine ⟨_, fun x y w => ?_, h⟩
         simp [eqGuard, Go.binOp, Op.stringOp]; done)
  · exact h

def unK (op : UnOp) (u : Value) (K : Value → Prop) : Prop :=
  match op, u with
  | .not, .bool b => K (.bool !b)
  | .neg, .int k n => K (.int k (k.wrap (0 - n)))
  | .xor, .int k n => K (.int k (k.wrap (BitVec.ofInt k.bits (if k.signed then -1 else k.max) ^^^ BitVec.ofInt k.bits n).toNat))
  | _, _ => False
theorem ok_un (hR : Rel H φ N w) (hT : TRel H φ N w s a) (op : UnOp) (t : TypeId) (x : Operand) (ho : o.op = .unOp op t x) (u : Value) (hx : closed (aeval s x) = some u) (K : Value → Prop) (h : unK op u K) :
    ∃ r, K r ∧ OpOk P o a w H φ N (aconst r) H := by
  have hv := closed_ok (aeval_ok hT x) hx
  unfold unK at h
  split at h <;> first
    | exact h.elim
    | (refine ⟨_, h, .same hR (aconst_ok _) ?_⟩
       simp [execOp, ho, hv, Op.unary, Op.intArith, Op.intBits])

/-- Whole numbers of one kind as another kind's. -/
def UK (P : Program) (t : TypeId) : Option IntKind := match P.underlying t with | some (.int k) => some k | _ => none
theorem UK.get {t : TypeId} {k : IntKind} (h : UK P t = some k) : P.underlying t = some (.int k) := by
  unfold UK at h
  split at h
  · cases h; assumption
  · cases h
theorem ok_convert_int (hR : Rel H φ N w) (hT : TRel H φ N w s a) (src dst : TypeId) (x : Operand) (ho : o.op = .convert src dst x) (ks k' : IntKind) (n : Int) (hx : closed (aeval s x) = some (.int ks n))
    (h0 : UK P src = some k') (k : IntKind) (h : UK P dst = some k) : OpOk P o a w H φ N (.d (.v (.int k (k.wrap n)))) H := by
  have hv := closed_ok (aeval_ok hT x) hx
  refine .same hR (.d (.v _ rfl)) ?_
  simp [execOp, ho, hv, Go.convert, run_underlying (UK.get h), run_underlying (UK.get h0), Conv.intToInt]

theorem ok_extract (hR : Rel H φ N w) (hT : TRel H φ N w s a) (x : Operand) (i : Nat) (ho : o.op = .extract x i) (cs : List AV) (hx : aeval s x = .tup cs) (c : AV) (hc : cs[i]? = some c) : OpOk P o a w H φ N c H := by
  have h := aeval_ok hT x
  rw [hx] at h
  generalize hv : a.eval x = v at h
  cases h with
  | tup _ vs hl hh =>
  have hi : i < cs.length := by
    rcases Nat.lt_or_ge i cs.length with h' | h'
    · exact h'
    · simp [List.getElem?_eq_none h'] at hc
  rw [List.getElem?_eq_getElem hi] at hc
  refine .same hR (x := vs[i]'(by omega)) ?_ ?_
  · rw [← Option.some.inj hc]; exact hh i hi (by omega)
  · simp [execOp, ho, hv, Instr.extract, show i < vs.size by omega]

theorem ok_makeFunc (hR : Rel H φ N w) (hT : TRel H φ N w s a) (f : FuncId) (caps : Array Operand) (ho : o.op = .makeFunc (.func f) #[] caps) : OpOk P o a w H φ N (.fn f (caps.toList.map (aeval s))) H := by
  refine .same hR (x := .func (.func f) #[] (caps.map a.eval)) (.fn _ _ _ (by simp) fun i h1 h2 => ?_) ?_
  · simp only [List.getElem_map, Array.getElem_map, Array.getElem_toList]; exact aeval_ok hT _
  · simp [execOp, ho, Instr.makeFunc]

def nonNil (H : AHeap) : AV → Bool
  | .iptr _ => true
  | .fn _ _ => true
  | x => match x with | .ptr _ _ _ _ => fresh H x | _ => false
theorem ok_nilCheck (hR : Rel H φ N w) (hT : TRel H φ N w s a) (x : Operand) (ho : o.op = .nilCheck x) (h : nonNil H (aeval s x) = true) : OpOk P o a w H φ N (aeval s x) H := by
  have hx := aeval_ok hT x
  refine .same hR hx ?_
  cases e : aeval s x with
  | iptr cs =>
    rw [e] at hx
    generalize hv : a.eval x = v at hx
    cases hx
    simp [execOp, ho, hv]
  | fn f cs =>
    rw [e] at hx
    generalize hv : a.eval x = v at hx
    cases hx
    simp [execOp, ho, hv]
  | ptr id ver i j =>
    rw [e] at hx h
    obtain ⟨ad, hv⟩ := fresh_ok hx h id ver i j rfl
    simp [execOp, ho, hv]
  | _ => rw [e] at h; cases h

def isIface (P : Program) (t : TypeId) : Bool := match P.underlying t with | some (.interface _) => true | some _ => false | none => true
theorem ok_makeInterface (hR : Rel H φ N w) (hT : TRel H φ N w s a) (t : TypeId) (x : Operand) (ho : o.op = .makeInterface t x) (u : Value) (hx : closed (aeval s x) = some u) (h : isIface P t = false) :
    OpOk P o a w H φ N (.d (.v (.iface t u))) H := by
  have hv := closed_ok (aeval_ok hT x) hx
  refine .same hR (.d (.v _ rfl)) ?_
  unfold isIface at h
  split at h
  · cases h
  · rename_i d hd hu
    have : ∀ ms, d ≠ .interface ms := by rintro ms rfl; exact hd ms rfl
    cases d <;> first
      | exact absurd rfl (this _)
      | simp [execOp, ho, hv, Instr.makeInterface, run_underlying hu]
  · cases h

/-! ### bytes of a text -/
theorem ok_index_str (hR : Rel H φ N w) (hT : TRel H φ N w s a) (t : TypeId) (x ix : Operand) (ho : o.op = .index t x ix) (hu : P.underlying t = some .string) (b : ByteArray) (hx : closed (aeval s x) = some (.string b))
    (k : IntKind) (i : Int) (hi : closed (aeval s ix) = some (.int k i)) (h0 : 0 ≤ i) (u : UInt8) (h : b[i.toNat]? = some u) : OpOk P o a w H φ N (.d (.v (.int .u8 u.toNat))) H := by
  have hv := closed_ok (aeval_ok hT x) hx
  have hj := closed_ok (aeval_ok hT ix) hi
  refine .same hR (.d (.v _ rfl)) ?_
  simp [execOp, ho, hv, hj, Instr.index, asIntOf, run_underlying hu, h0, h]

/-! ### the number of elements -/
def alen (H : AHeap) : AV → Option Nat
  | .d (.list _ es) => some es.length
  | .d (.v (.slice _ n _)) => some n
  | .cap0 => some 0
  | .sl id ver _ len => match H[id]? with | some ob => if ob.ver = ver then some len else none | none => none
  | _ => none
theorem alen_ok {x : AV} {v : Value} (hx : RA H φ N w x v) {n : Nat} (h : alen H x = some n) : ∃ A c, v = .slice A n c := by
  cases x with
  | d x =>
    cases x with
    | v x =>
      have := hx.closed
      subst this
      unfold alen at h
      split at h
      · rename_i h'; cases h'
      · rename_i h'; cases h'; cases h; exact ⟨_, _, rfl⟩
      · rename_i h'; cases h'
      · rename_i h'; cases h'
      · cases h
    | list nn es =>
      cases h
      cases hx with
      | d hd =>
      cases hd with
      | nil => exact ⟨_, _, rfl⟩
      | list => exact ⟨_, _, rfl⟩
  | cap0 => cases h; cases hx; exact ⟨_, _, rfl⟩
  | sl id ver off len =>
    cases hx with
    | sl _ _ _ _ A l m ob ho hv hp =>
    simp only [alen, ho] at h
    split at h
    · rename_i he
      cases h
      obtain ⟨rfl, _⟩ := hp he.symm
      exact ⟨_, _, rfl⟩
    · cases h
  | _ => cases h
theorem ok_len (hR : Rel H φ N w) (hT : TRel H φ N w s a) (x : Operand) (t : TypeId) (ho : o.op = .call { callee := .builtin .len, args := #[x], argTypes := #[t] }) (e : TypeId) (ht : SE P t = some e) (n : Nat)
    (h : alen H (aeval s x) = some n) : OpOk P o a w H φ N (.d (.v (.int .i64 n))) H := by
  obtain ⟨A, c, hv⟩ := alen_ok (aeval_ok hT x) h
  refine .same hR (.d (.v _ rfl)) ?_
  simp [execOp, ho, resolve, invoke, Go.builtin, Builtin.len_, hv, run_underlying (SE.get ht), goInt]
theorem ok_len_str (hR : Rel H φ N w) (hT : TRel H φ N w s a) (x : Operand) (t : TypeId) (ho : o.op = .call { callee := .builtin .len, args := #[x], argTypes := #[t] }) (ht : P.underlying t = some .string) (b : ByteArray)
    (hx : closed (aeval s x) = some (.string b)) : OpOk P o a w H φ N (.d (.v (.int .i64 b.size))) H := by
  have hv := closed_ok (aeval_ok hT x) hx
  refine .same hR (.d (.v _ rfl)) ?_
  simp [execOp, ho, resolve, invoke, Go.builtin, Builtin.len_, hv, run_underlying ht, goInt]

/-! ### a field of a value -/
theorem ok_field (hR : Rel H φ N w) (hT : TRel H φ N w s a) (t : TypeId) (x : Operand) (f : Nat) (ho : o.op = .field t x f) (off : Nat) (ft : TypeId) (hf : FO P t f = some (off, ft)) (z : Value) (k b : Nat) (hi : TI P ft = some (z, k, b))
    (cs : List AV) (hx : aeval s x = .agg cs) (g : Bool) (hg : agB P ft = some g) (y : AV) (hy : if g then off + k ≤ cs.length ∧ y = .agg ((cs.drop off).take k) else cs[off]? = some y) : OpOk P o a w H φ N y H := by
  obtain ⟨fields, fd, hu, hfd, rfl, rfl⟩ := FO.get hf
  have h := aeval_ok hT x
  rw [hx] at h
  generalize hv : a.eval x = v at h
  cases h with
  | agg _ vs hl hh =>
  cases g with
  | true =>
    simp only [if_true] at hy
    obtain ⟨h1, rfl⟩ := hy
    refine .same hR (x := .agg (vs.extract fd.offset (fd.offset + k))) (.agg _ _ (by simp; omega) fun i h2 h3 => ?_) ?_
    · simp only [List.getElem_take, List.getElem_drop, Array.getElem_extract]
      simp at h2
      exact hh _ (by omega) (by omega)
    · simp [execOp, ho, hv, Instr.field, run_underlying hu, hfd, asAgg, part, agB.run hg, TI.sizeOf hi]
  | false =>
    simp only [Bool.false_eq_true, if_false] at hy
    have hi' : fd.offset < cs.length := by
      rcases Nat.lt_or_ge fd.offset cs.length with h' | h'
      · exact h'
      · simp [List.getElem?_eq_none h'] at hy
    rw [List.getElem?_eq_getElem hi'] at hy
    refine .same hR (x := vs[fd.offset]'(by omega)) ?_ ?_
    · rw [← Option.some.inj hy]; exact hh _ hi' (by omega)
    · simp [execOp, ho, hv, Instr.field, run_underlying hu, hfd, asAgg, part, agB.run hg, show fd.offset < vs.size by omega]
end
end Go.Proofs.YtfmmemboakdeiaaAw

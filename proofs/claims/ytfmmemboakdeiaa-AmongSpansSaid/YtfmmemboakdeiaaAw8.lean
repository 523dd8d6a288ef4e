/- The evaluator, and that it tells the truth. -/
import Derived.Test.YtfmmemboakdeiaaAwM
import Derived.Test.YtfmmemboakdeiaaAwBy
import Derived.Test.YtfmmemboakdeiaaAwK
namespace Go.Proofs.YtfmmemboakdeiaaAw
open Go.RowKit
set_option linter.unusedVariables false
set_option linter.unusedSimpArgs false

/-! ### Calls -/
inductive ARes where
  | ok (r : AV)
  | panic (v : Value)
def RAs (H : AHeap) (φ : Phi) (N : Addr → Prop) (w : World) (args : List AV) (vals : Array Value) : Prop :=
  args.length = vals.size ∧ ∀ i (h1 : i < args.length) (h2 : i < vals.size), RA H φ N w (args[i]) (vals[i])
def REnd (H : AHeap) (φ : Phi) (N : Addr → Prop) (w : World) : ARes → Ending → Prop
  | .ok r, .returned v => RA H φ N w r v
  | .panic x, .panicked [p] => p = { v := x, recovered := false }
  | _, _ => False
/-- A call by its number: of Go's text, or of what stands in for it. -/
def CallsV (P : Program) (f : FuncId) (vals : Array Value) (w : World) (R : Ending → World → Prop) : Prop :=
  ((callFunc f vals).run P w = .ok (.enter f vals) w ∧ Calls P f vals w R) ∨ ∃ v w', (callFunc f vals).run P w = .ok (.value v) w' ∧ R (.returned v) w'
def Does (P : Program) (f : FuncId) (args : List AV) (H : AHeap) (res : ARes) (H' : AHeap) : Prop :=
  ∀ (φ : Phi) (N : Addr → Prop) (w : World) (vals : Array Value), Rel H φ N w → RAs H φ N w args vals →
    CallsV P f vals w fun e w' => ∃ φ' N', Rel H' φ' N' w' ∧ Since H φ N w H' φ' N' w' ∧ REnd H' φ' N' w' res e

/-! ### One operation -/
def intArgs (s : Nat → AV) (k : IntKind) : List Operand → Option (List Int)
  | [] => some []
  | x :: xs => match closed (aeval s x), intArgs s k xs with
    | some (.int k' n), some ns => if k' = k then some (n :: ns) else none
    | _, _ => none
def abuiltin (P : Program) (s : Nat → AV) (H : AHeap) (b : Builtin) (args : List Operand) (tys : List TypeId) (K : AV → AHeap → Prop) : Prop :=
  match b, args, tys with
  | .len, [x], [t] =>
    match SE P t with
    | some _ => (match alen H (aeval s x) with | some n => K (.d (.v (.int .i64 n))) H | none => False)
    | none => (match MT P t with
      | some (kk, _, _) => (match aeval s x with | .mp id => (match H[id]? with | some (.mp kk' es) => kk' = kk ∧ K (.d (.v (.int .i64 es.length))) H | _ => False) | _ => False)
      | none => P.underlying t = some .string ∧ (match closed (aeval s x) with | some (.string b) => K (.d (.v (.int .i64 b.size))) H | _ => False))
  | .append, [x, y], [t, t'] => t' = t ∧
    match SE P t with
    | some e => (match TI P e with
      | some (z, k, b) => (z.cells.size = k ∧ 0 < k) ∧ (match asrc H (aeval s y) with
        | some news => (∀ c ∈ news, c.length = k) ∧
          (match aeval s x with
          | .sl id ver 0 len => (match H[id]? with
            | some (.arr e' k' ver' es) => (e' = e ∧ k' = k ∧ ver' = ver ∧ es.length = len) ∧ (es.length + news.length) * b ≤ 140737488355328 ∧ es.length + news.length ≤ 9223372036854775807 ∧
                K (.sl id (ver + 1) 0 (es.length + news.length)) (H.set id (.arr e k (ver + 1) (es ++ news)))
            | _ => False)
          | x => isNone x = true ∧ news.length * b ≤ 140737488355328 ∧ news.length ≤ 9223372036854775807 ∧ K (.sl H.length 1 0 news.length) (H ++ [.arr e k 1 news]))
        | none => False)
      | none => False)
    | none => False
  | .clear, [x], [t] => (match SE P t with
    | some e => (match TI P e with
      | some (z, k, _) => (z.cells.size = k ∧ z.cells.all Value.oneCell' = true) ∧ (match aeval s x with
        | .sl id ver off len => (match H[id]? with
          | some (.arr e' k' ver' es) => (e' = e ∧ k' = k ∧ ver' = ver) ∧ K (.tup []) (H.set id (.arr e k ver (setRows es off (zrows z len))))
          | _ => False)
        | _ => False)
      | none => False)
    | none => False)
  | .min, x :: xs, _ => (match closed (aeval s x) with
    | some (.int k n) => (match intArgs s k xs with | some ns => K (.d (.v (.int k (ns.foldl min n)))) H | none => False)
    | _ => False)
  | .max, x :: xs, _ => (match closed (aeval s x) with
    | some (.int k n) => (match intArgs s k xs with | some ns => K (.d (.v (.int k (ns.foldl max n)))) H | none => False)
    | _ => False)
  | _, _, _ => False

/-- A cut of a list, or of an owned array. -/
def aslice (H : AHeap) (k : Nat) (lo : Option Int) (hi : Nat → Option Int) (K : AV → AHeap → Prop) : AV → Prop
  | .d (.list _ es) => (∀ c ∈ es, c.length = k) ∧ (match lo, hi es.length with
    | some l, some h => 0 ≤ l ∧ l ≤ h ∧ h ≤ es.length ∧ K (.d (.list false ((es.take h.toNat).drop l.toNat))) H
    | _, _ => False)
  | .sl id ver off len => (match H[id]?, lo, hi len with
    | some o, some l, some h => (o.ver = ver ∧ o.k = k) ∧ 0 ≤ l ∧ l ≤ h ∧ h ≤ len ∧ (l = 0 ∨ l < h) ∧ K (.sl id ver (off + l.toNat) (h.toNat - l.toNat)) H
    | _, _, _ => False)
  | _ => False
def isAny (P : Program) (t : TypeId) : Bool := match P.underlying t with | some (.interface ms) => ms.isEmpty | _ => false
def aslice3 (H : AHeap) (k : Nat) (lo hi mx : Option Int) (K : AV → AHeap → Prop) : AV → Prop
  | .d (.list _ es) => (∀ c ∈ es, c.length = k) ∧ (match lo, hi, mx with
    | some l, some h, some m => 0 ≤ l ∧ l ≤ h ∧ h ≤ m ∧ m ≤ es.length ∧ K (.d (.list false ((es.take h.toNat).drop l.toNat))) H
    | _, _, _ => False)
  | _ => False
/-- What a thing behind an interface is, if it is asked for as a type's. -/
def assertNo (P : Program) (t : TypeId) (ok : Bool) : Option AV := if ok = true then (TI P t).map fun z => .tup [aconst z.1, .d (.v (.bool false))] else none
def assertR (P : Program) (t : TypeId) (ok : Bool) : Option Value → Option AV
  | some (.iface t' u) => if t' = t then some (if ok = true then .tup [aconst u, .d (.v (.bool true))] else aconst u) else assertNo P t ok
  | some .nilIface => assertNo P t ok
  | _ => none
def aassert (P : Program) (t : TypeId) (ok : Bool) (H : AHeap) (K : AV → AHeap → Prop) (v : Option Value) : Prop := isIface P t = false ∧ match assertR P t ok v with | some r => K r H | none => False
def aop (P : Program) (s : Nat → AV) (H : AHeap) (hint : Bool) (op : Op) (K : AV → AHeap → Prop) : Prop :=
  match op with
  | .move x => K (aeval s x) H
  | .assign x => K (aeval s x) H
  | .pick c x y => (match aeval s c with | .d (.v (.bool t)) => K (if t then aeval s x else aeval s y) H | _ => False)
  | .alloc e => (match TI P e with | some (z, k, _) => (0 < k ∧ z.cells.size = k ∧ z.cells.all Value.oneCell' = true) ∧ K (.ptr H.length 0 0 0) (H ++ [.box e k 0 1 (dcells z.cells)]) | none => False)
  | .box e x => (match cellsOf (aeval s x) with | some cs => 0 < cs.length ∧ K (.ptr H.length 0 0 0) (H ++ [.box e cs.length 0 1 cs]) | none => False)
  | .build t parts => (match TI P t with
    | some (z, _, _) => z.cells.all Value.oneCell' = true ∧ (match SP P t with
      | some places => (match afill (places.toArray[·]?) (dcells z.cells) (aparts s parts) with | some out => K (.agg out) H | none => False)
      | none => (match AE P t with
        | some (_, e) => (match TI P e with | some (_, ke, _) => (match afill (fun i => some (i * ke, ke)) (dcells z.cells) (aparts s parts) with | some out => K (.agg out) H | none => False) | none => False)
        | none => False))
    | none => False)
  | .buildSlice t n parts => (match SE P t with
    | some e => (match TI P e with
      | some (z, k, _) => if n = 0 then parts = #[] ∧ K .cap0 H else
          (z.cells.size = k ∧ z.cells.all Value.oneCell' = true ∧ n * k ≤ 16777216 ∧ 0 < n * k) ∧ (match afill (fun i => some (i * k, k)) (zcells z (n * k)) (aparts s parts) with
            | some out => (match toDs out with | some ds => if hint then K (.sl H.length 0 0 n) (H ++ [.arr e k 0 (chunk n k ds)]) else K (.d (.list true (chunk n k ds))) H | none => False)
            | none => False)
      | none => False)
    | none => False)
  | .load t x => (match agB P t with
    | some true => (match TI P t with | some (_, k, _) => (match aread H k (aeval s x) with | some cs => K (.agg cs) H | none => False) | none => False)
    | some false => (match aread H 1 (aeval s x) with | some [c] => K c H | _ => False)
    | none => False)
  | .store t x y => (match TI P t with
    | some (_, k, _) => (match cellsOf (aeval s y) with | some cs => cs.length = k ∧ (match awrite H cs (aeval s x) with | some H' => K .top H' | none => False) | none => False)
    | none => False)
  | .fieldAddr t x f => (match FO P t f with
    | some (off, ft) => (match TI P ft with | some (_, k, _) => 0 < k ∧ fresh H (aeval s x) = true ∧ (match amove off (aeval s x) with | some y => K y H | none => False) | none => False)
    | none => False)
  | .field t x f => (match FO P t f with
    | some (off, ft) => (match TI P ft with
      | some (_, k, _) => (match aeval s x with
        | .agg cs => (match agB P ft with
          | some true => off + k ≤ cs.length ∧ K (.agg ((cs.drop off).take k)) H
          | some false => (match cs[off]? with | some y => K y H | none => False)
          | none => False)
        | _ => False)
      | none => False)
    | none => False)
  | .indexAddr t x ix => (match aeval s ix with
    | .d (.v (.int _ i)) => (match SE P t with
      | some e => (match TI P e with | some (_, k, _) => (match aelem H k i (aeval s x) with | some y => K y H | none => False) | none => False)
      | none => (match AE P t with
        | some (n, e) => (match TI P e with | some (_, k, _) => 0 ≤ i ∧ i < n ∧ fresh H (aeval s x) = true ∧ (match amove (i.toNat * k) (aeval s x) with | some y => K y H | none => False) | none => False)
        | none => False))
    | _ => False)
  | .index t x ix => P.underlying t = some .string ∧ (match closed (aeval s x), closed (aeval s ix) with
    | some (.string b), some (.int _ i) => 0 ≤ i ∧ (match b[i.toNat]? with | some u => K (.d (.v (.int .u8 u.toNat))) H | none => False)
    | _, _ => False)
  | .slice t x lo hi none => (match SE P t with
    | some e => (match TI P e with
      | some (_, k, _) => aslice H k (sliceLo s lo) (fun n => sliceHi s n hi) K (aeval s x)
      | none => False)
    | none => P.underlying t = some .string ∧ (match closed (aeval s x) with
      | some (.string b) => (match sliceLo s lo, sliceHi s b.size hi with
        | some l, some h => 0 ≤ l ∧ l ≤ h ∧ h ≤ b.size ∧ K (.d (.v (.string (b.extract l.toNat h.toNat)))) H
        | _, _ => False)
      | _ => False))
  | .slice t x lo (some hi) (some mx) => (match SE P t with
    | some e => (match TI P e with
      | some (_, k, _) => aslice3 H k (sliceLo s lo) (sliceLo s (some hi)) (sliceLo s (some mx)) K (aeval s x)
      | none => False)
    | none => False)
  | .typeAssert x _ t ok => aassert P t ok H K (closed (aeval s x))
  | .binOp op t x y _ => (match closed (aeval s x), closed (aeval s y) with
    | some u, some v => binK P op t u v fun r => K (aconst r) H
    | _, _ => nilCmp P H op t (aeval s x) (aeval s y) = true ∧ K (.d (.v (.bool (isNeq op)))) H)
  | .unOp op _ x => (match closed (aeval s x) with | some u => unK op u fun r => K (aconst r) H | none => False)
  | .convert src dst x => (match SE P src with
    | some e => UK P e = some .u8 ∧ P.underlying dst = some .string ∧ (match aeval s x with | .d (.list _ es) => (match asBytes es with | some ns => K (.d (.v (.string (pushAll ns)))) H | none => False) | _ => False)
    | none => (match closed (aeval s x) with
      | some (.int _ n) => (match UK P src, UK P dst with | some _, some k => K (.d (.v (.int k (k.wrap n)))) H | _, _ => False)
      | _ => False))
  | .extract x i => (match aeval s x with | .tup cs => (match cs[i]? with | some c => K c H | none => False) | _ => False)
  | .makeFunc (.func f) first caps => first = #[] ∧ K (.fn f (caps.toList.map (aeval s))) H
  | .nilCheck x => nonNil H (aeval s x) = true ∧ K (aeval s x) H
  | .makeInterface t x => (match closed (aeval s x) with | some u => isIface P t = false ∧ K (.d (.v (.iface t u))) H | none => False)
  | .makeMap t none => (match MT P t with | some (kk, _, _) => K (.mp H.length) (H ++ [.mp kk []]) | none => False)
  | .lookup t x ix ok => (match MT P t with
    | some (kk, _, e) => (match TI P e with
      | some (z, _, _) => (match aeval s x with
        | .mp id => (match H[id]? with
          | some (.mp kk' es) => (match closed (aeval s ix) with
            | some (.int ki n) => (kk' = kk ∧ ki = kk) ∧ K (if ok then .tup [(mpGet n es).getD (aconst z), .d (.v (.bool (mpGet n es).isSome))] else (mpGet n es).getD (aconst z)) H
            | _ => False)
          | _ => False)
        | _ => False)
      | none => False)
    | none => False)
  | .mapUpdate t x ix y | .insert t x ix y => (match MT P t with
    | some (kk, _, _) => (match aeval s x with
      | .mp id => (match H[id]? with
        | some (.mp kk' es) => (match closed (aeval s ix) with
          | some (.int ki n) => (kk' = kk ∧ ki = kk) ∧ K .top (H.set id (.mp kk (mpPut n (aeval s y) es)))
          | _ => False)
        | _ => False)
      | _ => False)
    | none => False)
  | .call c => (match c.callee with | .builtin b => abuiltin P s H b c.args.toList c.argTypes.toList K | _ => False)
  | _ => False

section
variable {P : Program} {o : Oper} {a : Act} {w : World} {H : AHeap} {φ : Phi} {N : Addr → Prop} {s : Nat → AV}

theorem call_eta (c : Call) (b : Builtin) (xs : List Operand) (ts : List TypeId) (h1 : c.callee = .builtin b) (h2 : c.args.toList = xs) (h3 : c.argTypes.toList = ts) : c = { callee := .builtin b, args := xs.toArray, argTypes := ts.toArray } := by
  cases c
  simp only at h1 h2 h3
  subst h1 h2 h3
  simp

theorem intArgs_ok (hT : TRel H φ N w s a) {k : IntKind} : ∀ {xs : List Operand} {ns : List Int}, intArgs s k xs = some ns → xs.map a.eval = ns.map (Value.int k)
  | [], ns, h => by cases h; rfl
  | x :: xs, ns, h => by
    unfold intArgs at h
    split at h
    · rename_i k' n ns' hx hr
      split at h
      · rename_i hk
        subst hk
        cases h
        simp only [List.map_cons]
        rw [intArgs_ok hT hr, closed_ok (aeval_ok hT x) hx]
      · cases h
    · cases h
theorem min_fold (P : Program) (w : World) (k : IntKind) : ∀ (ns : List Int) (n : Int), ((ns.map (Value.int k)).foldlM Go.Builtin.min2 (Value.int k n)).run P w = .ok (.int k (ns.foldl min n)) w
  | [], n => rfl
  | m :: ns, n => by
    simp only [List.map_cons, List.foldlM_cons, List.foldl_cons, Sem.run_bind]
    have : (Go.Builtin.min2 (.int k n) (.int k m)).run P w = .ok (.int k (min n m)) w := by
      have e : (if m < n then m else n) = min n m := by split <;> omega
      show (pure (Value.int k (if m < n then m else n)) : Sem Value).run P w = _
      rw [e]; rfl
    rw [this]
    exact min_fold P w k ns (min n m)
theorem max_fold (P : Program) (w : World) (k : IntKind) : ∀ (ns : List Int) (n : Int), ((ns.map (Value.int k)).foldlM Go.Builtin.max2 (Value.int k n)).run P w = .ok (.int k (ns.foldl max n)) w
  | [], n => rfl
  | m :: ns, n => by
    simp only [List.map_cons, List.foldlM_cons, List.foldl_cons, Sem.run_bind]
    have : (Go.Builtin.max2 (.int k n) (.int k m)).run P w = .ok (.int k (max n m)) w := by
      have e : (if m > n then m else n) = max n m := by split <;> omega
      show (pure (Value.int k (if m > n then m else n)) : Sem Value).run P w = _
      rw [e]; rfl
    rw [this]
    exact max_fold P w k ns (max n m)
theorem ok_minmax (hR : Rel H φ N w) (hT : TRel H φ N w s a) {c : Call} (ho : o.op = .call c) (b : Builtin) (hb : b = .min ∨ b = .max) (hc : c.callee = .builtin b) (x : Operand) (xs : List Operand) (hxs : c.args.toList = x :: xs) (k : IntKind) (n : Int) (hx : closed (aeval s x) = some (.int k n)) (ns : List Int)
    (h : intArgs s k xs = some ns) : OpOk P o a w H φ N (.d (.v (.int k (if b = .min then ns.foldl min n else ns.foldl max n)))) H := by
  refine .same hR (.d (.v _ rfl)) ?_
  have e1 : c.args.map a.eval = (Value.int k n :: ns.map (Value.int k)).toArray := by
    apply Array.toList_inj.1
    rw [Array.toList_map, hxs, List.map_cons, intArgs_ok hT h, closed_ok (aeval_ok hT x) hx]
  rcases hb with rfl | rfl
  · simp [execOp, ho, resolve, invoke, hc, e1, Go.builtin, Go.Builtin.min_, min_fold]
  · simp [execOp, ho, resolve, invoke, hc, e1, Go.builtin, Go.Builtin.max_, max_fold]
theorem ok_assert (hR : Rel H φ N w) (hT : TRel H φ N w s a) (x : Operand) (xT t : TypeId) (ok : Bool) (ho : o.op = .typeAssert x xT t ok) (hi : isIface P t = false) (r : AV) (h : assertR P t ok (closed (aeval s x)) = some r) : OpOk P o a w H φ N r H := by
  obtain ⟨u, hu⟩ : ∃ u, P.underlying t = some u ∧ ∀ ms, u ≠ .interface ms := by
    unfold isIface at hi
    split at hi
    · cases hi
    · rename_i d hd hn
      exact ⟨_, hn, fun ms hms => hd ms (by rw [← hms])⟩
    · cases hi
  have no : ∀ v, (v = .nilIface ∨ ∃ t' u', v = .iface t' u' ∧ t' ≠ t) → assertNo P t ok = some r → a.eval x = v → OpOk P o a w H φ N r H := by
    intro v hv hn he
    unfold assertNo at hn
    split at hn
    · rename_i hok
      subst hok
      obtain ⟨⟨z, k, b⟩, hz, rfl⟩ := Option.map_eq_some_iff.1 hn
      refine .same hR (x := .tuple #[z, .bool false]) (.tup _ _ rfl fun i h1 h2 => ?_) ?_
      · match i, h1 with
        | 0, _ => exact aconst_ok z
        | 1, _ => exact .d (.v _ rfl)
      · simp only [execOp, ho, he, Instr.typeAssert, Sem.run_bind, run_underlying hu.1, Result.andThen_ok]
        rcases hv with rfl | ⟨t', u', rfl, hne⟩
        · cases u <;> first | (exact absurd rfl (hu.2 _)) | simp [TI.zero hz]
        · cases u <;> first | (exact absurd rfl (hu.2 _)) | simp [TI.zero hz, hne]
    · cases hn
  generalize hc : closed (aeval s x) = c at h
  unfold assertR at h
  split at h
  · rename_i t' u'
    have he := closed_ok (aeval_ok hT x) hc
    split at h
    · rename_i ht
      subst ht
      cases h
      cases ok with
      | true =>
        refine .same hR (x := .tuple #[u', .bool true]) (.tup _ _ rfl fun i h1 h2 => ?_) ?_
        · match i, h1 with
          | 0, _ => exact aconst_ok u'
          | 1, _ => exact .d (.v _ rfl)
        · simp only [execOp, ho, he, Instr.typeAssert, Sem.run_bind, run_underlying hu.1, Result.andThen_ok]
          cases u <;> first | (exact absurd rfl (hu.2 _)) | simp
      | false =>
        refine .same hR (x := u') (aconst_ok u') ?_
        simp only [execOp, ho, he, Instr.typeAssert, Sem.run_bind, run_underlying hu.1, Result.andThen_ok]
        cases u <;> first | (exact absurd rfl (hu.2 _)) | simp
    · rename_i ht
      exact no _ (.inr ⟨_, _, rfl, ht⟩) h he
  · exact no _ (.inl rfl) h (closed_ok (aeval_ok hT x) hc)
  · cases h
theorem abuiltin_ok (hR : Rel H φ N w) (hT : TRel H φ N w s a) {c : Call} (ho : o.op = .call c) {b : Builtin} (hc : c.callee = .builtin b) {K : AV → AHeap → Prop} (h : abuiltin P s H b c.args.toList c.argTypes.toList K) :
    ∃ r H', K r H' ∧ OpOk P o a w H φ N r H' := by
  generalize hxs : c.args.toList = xs at h
  generalize hts : c.argTypes.toList = ts at h
  unfold abuiltin at h
  split at h
  · rename_i x t
    have ho' := ho.trans (congrArg Op.call (call_eta c _ _ _ hc hxs hts))
    split at h
    · rename_i e he
      split at h
      · rename_i n hn
        exact ⟨_, _, h, ok_len hR hT x t ho' e he n hn⟩
      · exact h.elim
    · split at h
      · rename_i kk kt e hmt
        split at h
        · rename_i id hx
          split at h
          · rename_i kk' es hob
            obtain ⟨rfl, h⟩ := h
            exact ⟨_, _, h, ok_len_map hR hT x t ho' _ kt e hmt id es hx hob⟩
          · exact h.elim
        · exact h.elim
      · obtain ⟨hu, h⟩ := h
        split at h
        · rename_i b hb
          exact ⟨_, _, h, ok_len_str hR hT x t ho' hu b hb⟩
        · exact h.elim
  · rename_i x y t t'
    obtain ⟨rfl, h⟩ := h
    have ho' := ho.trans (congrArg Op.call (call_eta c _ _ _ hc hxs hts))
    split at h
    · rename_i e he
      split at h
      · rename_i z k b hi
        obtain ⟨⟨hz, hk0⟩, h⟩ := h
        split at h
        · rename_i news hy
          obtain ⟨hk, h⟩ := h
          split at h
          · rename_i id ver len hx
            split at h
            · rename_i e' k' ver' es hob
              obtain ⟨⟨rfl, rfl, rfl, rfl⟩, hb, hm, h⟩ := h
              exact ⟨_, _, h, ok_append hR hT x y _ ho' e' he z k' b hi hz id ver' es news hx hob hy hk hb hm⟩
            · exact h.elim
          · obtain ⟨hx, hb, hm, h⟩ := h
            exact ⟨_, _, h, ok_append_new hR hT x y _ ho' e he z k b hi hz hk0 news hx hy hk hb hm⟩
        · exact h.elim
      · exact h.elim
    · exact h.elim
  · rename_i x t
    have ho' := ho.trans (congrArg Op.call (call_eta c _ _ _ hc hxs hts))
    split at h
    · rename_i e he
      split at h
      · rename_i z k b hi
        obtain ⟨⟨hz, h1⟩, h⟩ := h
        split at h
        · rename_i id ver off len hx
          split at h
          · rename_i e' k' ver' es hob
            obtain ⟨⟨rfl, rfl, rfl⟩, h⟩ := h
            exact ⟨_, _, h, ok_clear hR hT x t ho' e' he z k' b hi hz h1 id ver' off len es hx hob⟩
          · exact h.elim
        · exact h.elim
      · exact h.elim
    · exact h.elim
  · rename_i x xs
    split at h
    · rename_i k n hx
      split at h
      · rename_i ns hns
        exact ⟨_, _, h, by simpa using ok_minmax (P := P) hR hT ho .min (.inl rfl) hc x xs hxs k n hx ns hns⟩
      · exact h.elim
    · exact h.elim
  · rename_i x xs
    split at h
    · rename_i k n hx
      split at h
      · rename_i ns hns
        exact ⟨_, _, h, by simpa using ok_minmax (P := P) hR hT ho .max (.inr rfl) hc x xs hxs k n hx ns hns⟩
      · exact h.elim
    · exact h.elim
  · exact h.elim

theorem aop_ok (hR : Rel H φ N w) (hT : TRel H φ N w s a) {hint : Bool} {K : AV → AHeap → Prop} (h : aop P s H hint o.op K) : ∃ r H', K r H' ∧ OpOk P o a w H φ N r H' := by
  generalize ho : o.op = op at h
  unfold aop at h
  split at h
  · exact ⟨_, _, h, ok_move hR hT _ (.inl ho)⟩
  · exact ⟨_, _, h, ok_move hR hT _ (.inr ho)⟩
  · split at h
    · rename_i t ht
      exact ⟨_, _, h, ok_pick hR hT _ _ _ ho t ht⟩
    · exact h.elim
  · split at h
    · rename_i z k b hi
      exact ⟨_, _, h.2, ok_alloc hR _ z k b ho hi h.1.1 h.1.2.1 h.1.2.2⟩
    · exact h.elim
  · split at h
    · rename_i cs hc
      exact ⟨_, _, h.2, ok_box hR hT _ _ ho cs hc h.1⟩
    · exact h.elim
  · split at h
    · rename_i z k b hi
      obtain ⟨hz, h⟩ := h
      split at h
      · rename_i places hp
        split at h
        · rename_i out hout
          exact ⟨_, _, h, ok_build_struct hR hT _ _ ho places hp z k b hi hz out hout⟩
        · exact h.elim
      · split at h
        · rename_i n e hp
          split at h
          · rename_i ze ke be hie
            split at h
            · rename_i out hout
              exact ⟨_, _, h, ok_build_array hR hT _ _ ho n e hp z ze k b ke be hi hie hz out hout⟩
            · exact h.elim
          · exact h.elim
        · exact h.elim
    · exact h.elim
  · split at h
    · rename_i e he
      split at h
      · rename_i z k b hi
        split at h
        · rename_i hn
          subst hn
          obtain ⟨rfl, h⟩ := h
          exact ⟨_, _, h, ok_buildSlice_zero hR _ ho e he z k b hi⟩
        · obtain ⟨⟨hz, h1, h24, hn⟩, h⟩ := h
          split at h
          · rename_i out hout
            split at h
            · rename_i ds hd
              split at h
              · exact ⟨_, _, h, ok_buildSlice_obj hR hT _ _ _ ho e he z k b hi hz h1 h24 hn out hout ds hd⟩
              · exact ⟨_, _, h, ok_buildSlice hR hT _ _ _ ho e he z k b hi hz h1 h24 hn out hout ds hd⟩
            · exact h.elim
          · exact h.elim
      · exact h.elim
    · exact h.elim
  · split at h
    · rename_i hg
      split at h
      · rename_i z k b hi
        split at h
        · rename_i cs hcs
          exact ⟨_, _, h, ok_load_agg hR hT _ _ ho hg z k b hi cs hcs⟩
        · exact h.elim
      · exact h.elim
    · rename_i hg
      split at h
      · rename_i c hcs
        exact ⟨_, _, h, ok_load_one hR hT _ _ ho hg c hcs⟩
      · exact h.elim
    · exact h.elim
  · split at h
    · rename_i z k b hi
      split at h
      · rename_i cs hcs
        obtain ⟨hk, h⟩ := h
        split at h
        · rename_i H' hw
          exact ⟨_, _, h, ok_store hR hT _ _ _ ho z k b hi cs hcs hk H' hw⟩
        · exact h.elim
      · exact h.elim
    · exact h.elim
  · split at h
    · rename_i off ft hf
      split at h
      · rename_i z k b hi
        obtain ⟨hk, hfr, h⟩ := h
        split at h
        · rename_i y hy
          exact ⟨_, _, h, ok_fieldAddr hR hT _ _ _ ho off ft hf z k b hi hk y hy hfr⟩
        · exact h.elim
      · exact h.elim
    · exact h.elim
  · split at h
    · rename_i off ft hf
      split at h
      · rename_i z k b hi
        split at h
        · rename_i cs hcs
          split at h
          · rename_i hg
            exact ⟨_, _, h.2, ok_field hR hT _ _ _ ho off ft hf z k b hi cs hcs true hg _ (by simpa using h.1)⟩
          · rename_i hg
            split at h
            · rename_i y hy
              exact ⟨_, _, h, ok_field hR hT _ _ _ ho off ft hf z k b hi cs hcs false hg y (by simpa using hy)⟩
            · exact h.elim
          · exact h.elim
        · exact h.elim
      · exact h.elim
    · exact h.elim
  · split at h
    · rename_i ik i hix
      split at h
      · rename_i e he
        split at h
        · rename_i z k b hi
          split at h
          · rename_i y hy
            exact ⟨_, _, h, ok_indexAddr hR hT _ _ _ ho e he z k b hi ik i hix y hy⟩
          · exact h.elim
        · exact h.elim
      · split at h
        · rename_i n e he
          split at h
          · rename_i z k b hi
            obtain ⟨h0, h1, hfr, h⟩ := h
            split at h
            · rename_i y hy
              exact ⟨_, _, h, ok_indexAddr_arr hR hT _ _ _ ho n e he z k b hi ik i hix h0 h1 y hy hfr⟩
            · exact h.elim
          · exact h.elim
        · exact h.elim
    · exact h.elim
  · obtain ⟨hu, h⟩ := h
    split at h
    · rename_i b k i hx hi
      obtain ⟨h0, h⟩ := h
      split at h
      · rename_i u hb
        exact ⟨_, _, h, ok_index_str hR hT _ _ _ ho hu b hx k i hi h0 u hb⟩
      · exact h.elim
    · exact h.elim
  · split at h
    · rename_i e he
      split at h
      · rename_i z k b hi
        unfold aslice at h
        split at h
        · rename_i nn es hx
          obtain ⟨hes, h⟩ := h
          split at h
          · rename_i l hh hl hhh
            obtain ⟨h0, h1, h2, h⟩ := h
            exact ⟨_, _, h, ok_slice_list hR hT _ _ _ _ ho e he z k b hi nn es hx hes l hh hl hhh h0 h1 h2⟩
          · exact h.elim
        · rename_i id ver off len hx
          split at h
          · rename_i ob l hh hob hl hhh
            obtain ⟨⟨h00, h01⟩, h0, h1, h2, h3, h⟩ := h
            exact ⟨_, _, h, ok_slice_sl hR hT _ _ _ _ ho e he z k b hi id ver off len hx ob hob h00 h01 l hh hl hhh h0 h1 h2 h3⟩
          · exact h.elim
        · exact h.elim
      · exact h.elim
    · obtain ⟨hu, h⟩ := h
      split at h
      · rename_i b hx
        split at h
        · rename_i l hh hl hhh
          obtain ⟨h0, h1, h2, h⟩ := h
          exact ⟨_, _, h, ok_slice_str hR hT _ _ _ _ ho hu b hx l hh hl hhh h0 h1 h2⟩
        · exact h.elim
      · exact h.elim
  · split at h
    · rename_i e he
      split at h
      · rename_i z k b hi
        unfold aslice3 at h
        split at h
        · rename_i nn es hx
          obtain ⟨hes, h⟩ := h
          split at h
          · rename_i l hh m hl hhh hmm
            obtain ⟨h0, h1, h2, h3, h⟩ := h
            exact ⟨_, _, h, ok_slice3_list hR hT _ _ _ _ _ ho e he z k b hi nn es hx hes l hh m hl hhh hmm h0 h1 h2 h3⟩
          · exact h.elim
        · exact h.elim
      · exact h.elim
    · exact h.elim
  · obtain ⟨hi, h⟩ := h
    split at h
    · rename_i r hr
      exact ⟨_, _, h, ok_assert hR hT _ _ _ _ ho hi r hr⟩
    · exact h.elim
  · split at h
    · rename_i u v hx hy
      obtain ⟨r, hr, h⟩ := binK_ok h
      exact ⟨_, _, h, ok_bin hR hT _ _ _ _ _ ho u v r hx hy hr⟩
    · exact ⟨_, _, h.2, ok_nilCmp hR hT _ _ _ _ _ ho h.1⟩
  · split at h
    · rename_i u hx
      obtain ⟨r, h, hok⟩ := ok_un hR hT _ _ _ ho u hx _ h
      exact ⟨_, _, h, hok⟩
    · exact h.elim
  · split at h
    · rename_i e he
      obtain ⟨h1, h2, h⟩ := h
      split at h
      · rename_i nn es hx
        split at h
        · rename_i ns hn
          exact ⟨_, _, h, ok_convert_bytes hR hT _ _ _ _ ho he h1 h2 nn es ns hx hn⟩
        · exact h.elim
      · exact h.elim
    · split at h
      · rename_i ks n hx
        split at h
        · rename_i k' k hk' hk
          exact ⟨_, _, h, ok_convert_int hR hT _ _ _ ho ks k' n hx hk' k hk⟩
        · exact h.elim
      · exact h.elim
  · split at h
    · rename_i cs hx
      split at h
      · rename_i c hc
        exact ⟨_, _, h, ok_extract hR hT _ _ ho cs hx c hc⟩
      · exact h.elim
    · exact h.elim
  · obtain ⟨rfl, h⟩ := h
    exact ⟨_, _, h, ok_makeFunc hR hT _ _ ho⟩
  · exact ⟨_, _, h.2, ok_nilCheck hR hT _ ho h.1⟩
  · split at h
    · rename_i u hx
      exact ⟨_, _, h.2, ok_makeInterface hR hT _ _ ho u hx h.1⟩
    · exact h.elim
  · split at h
    · rename_i kk kt e hmt
      exact ⟨_, _, h, ok_makeMap hR _ ho kk kt e hmt⟩
    · exact h.elim
  · split at h
    · rename_i kk kt e hmt
      split at h
      · rename_i z k b hi
        split at h
        · rename_i id hx
          split at h
          · rename_i kk' es hob
            split at h
            · rename_i ki n hix
              obtain ⟨⟨rfl, rfl⟩, h⟩ := h
              exact ⟨_, _, h, ok_lookup hR hT _ _ _ _ ho _ kt e hmt z k b hi id es hx hob n hix⟩
            · exact h.elim
          · exact h.elim
        · exact h.elim
      · exact h.elim
    · exact h.elim
  · split at h
    · rename_i kk kt e hmt
      split at h
      · rename_i id hx
        split at h
        · rename_i kk' es hob
          split at h
          · rename_i ki n hix
            obtain ⟨⟨rfl, rfl⟩, h⟩ := h
            exact ⟨_, _, h, ok_mapUpdate hR hT _ _ _ _ (.inl ho) _ kt e hmt id es hx hob n hix⟩
          · exact h.elim
        · exact h.elim
      · exact h.elim
    · exact h.elim
  · split at h
    · rename_i kk kt e hmt
      split at h
      · rename_i id hx
        split at h
        · rename_i kk' es hob
          split at h
          · rename_i ki n hix
            obtain ⟨⟨rfl, rfl⟩, h⟩ := h
            exact ⟨_, _, h, ok_mapUpdate hR hT _ _ _ _ (.inr ho) _ kt e hmt id es hx hob n hix⟩
          · exact h.elim
        · exact h.elim
      · exact h.elim
    · exact h.elim
  · split at h
    · rename_i c b hb
      exact abuiltin_ok hR hT ho hb h
    · exact h.elim
  · exact h.elim
end
end Go.Proofs.YtfmmemboakdeiaaAw

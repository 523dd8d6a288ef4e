/- The evaluator, and that it tells the truth. Code: the evaluator over whole bodies, loops, calls; its soundness; the contract of a function out of its body. What the program says of its types. Printed by a small program of this session. The words by which the evaluator is unfolded. From Does to the walk that a row asks for. -/
import Derived.RangeFuncRecord
import Derived.OrdersIn
import Derived.LoopNIn
import Derived.Test.YtmbagpfmfiegkaaGreatProg
import Derived.KernelRfl
import Derived.Test.YtmbagpfmfiegkaaGreatM01
namespace Go.Proofs.YtmbagpfmfiegkaaGreatAw
open Go.RowKit
set_option linter.unusedVariables false
set_option linter.unusedSimpArgs false

inductive ARes where
  | ok (r : AV)
  | panic (v : Value)
def RAs (H : AHeap) (φ : Phi) (N : Addr → Prop) (w : World) (args : List AV) (vals : Array Value) : Prop :=
  args.length = vals.size ∧ ∀ i (h1 : i < args.length) (h2 : i < vals.size), RA H φ N w (args[i]) (vals[i])
def REnd (H : AHeap) (φ : Phi) (N : Addr → Prop) (w : World) : ARes → Ending → Prop
  | .ok r, .returned v => RA H φ N w r v
  | .panic x, .panicked [p] => p = { v := x, recovered := false }
  | _, _ => False
/-- A call by its number: of Go's text, or of what stands in for it. -/
def CallsV (P : Program) (f : FuncId) (vals : Array Value) (w : World) (R : Ending → World → Prop) : Prop :=
  ((callFunc f vals).run P w = .ok (.enter f vals) w ∧ Calls P f vals w R) ∨ ∃ v w', (callFunc f vals).run P w = .ok (.value v) w' ∧ R (.returned v) w'
def Does (P : Program) (f : FuncId) (args : List AV) (H : AHeap) (res : ARes) (H' : AHeap) : Prop :=
  ∀ (φ : Phi) (N : Addr → Prop) (w : World) (vals : Array Value), Rel H φ N w → RAs H φ N w args vals →
    CallsV P f vals w fun e w' => ∃ φ' N', Rel H' φ' N' w' ∧ Since H φ N w H' φ' N' w' ∧ REnd H' φ' N' w' res e

def intArgs (s : Nat → AV) (k : IntKind) : List Operand → Option (List Int)
  | [] => some []
  | x :: xs => match closed (aeval s x), intArgs s k xs with
    | some (.int k' n), some ns => if k' = k then some (n :: ns) else none
    | _, _ => none
def abuiltin (P : Program) (s : Nat → AV) (H : AHeap) (b : Builtin) (args : List Operand) (tys : List TypeId) (K : AV → AHeap → Prop) : Prop :=
  match b, args, tys with
  | .len, [x], [t] =>
    match SE P t with
    | some _ => (match alen H (aeval s x) with | some n => K (.d (.v (.int .i64 n))) H | none => False)
    | none => (match MT P t with
      | some (kk, _, _) => (match aeval s x with | .mp id => (match H[id]? with | some (.mp kk' es) => kk' = kk ∧ K (.d (.v (.int .i64 es.length))) H | _ => False) | _ => False)
      | none => P.underlying t = some .string ∧ (match closed (aeval s x) with | some (.string b) => K (.d (.v (.int .i64 b.size))) H | _ => False))
  | .append, [x, y], [t, t'] =>
    match SE P t with
    | some e => (match TI P e with
      | some (z, k, b) => (z.cells.size = k ∧ 0 < k) ∧ (match asrc2 P t t' k H (aeval s y) with
        | some news => (∀ c ∈ news, c.length = k) ∧
          (match aeval s x with
          | .sl id ver 0 len => (match H[id]? with
            | some (.arr e' k' ver' es) => (e' = e ∧ k' = k ∧ ver' = ver ∧ es.length = len) ∧ (es.length + news.length) * b ≤ 140737488355328 ∧ es.length + news.length ≤ 9223372036854775807 ∧
                K (.sl id (ver + 1) 0 (es.length + news.length)) (H.set id (.arr e k (ver + 1) (es ++ news)))
            | _ => False)
          | x => isNone x = true ∧ news.length * b ≤ 140737488355328 ∧ news.length ≤ 9223372036854775807 ∧ K (.sl H.length 1 0 news.length) (H ++ [.arr e k 1 news]))
        | none => False)
      | none => False)
    | none => False
  | .clear, [x], [t] => (match SE P t with
    | some e => (match TI P e with
      | some (z, k, _) => (z.cells.size = k ∧ z.cells.all Value.oneCell' = true) ∧ (match aeval s x with
        | .sl id ver off len => (match H[id]? with
          | some (.arr e' k' ver' es) => (e' = e ∧ k' = k ∧ ver' = ver) ∧ K (.tup []) (H.set id (.arr e k ver (setRows es off (zrows z len))))
          | _ => False)
        | _ => False)
      | none => False)
    | none => False)
  | .copy, [x, y], [t, _] => (match SE P t with
    | some e => (match TI P e with
      | some (_, k, _) => (match asrc H (aeval s y) with
        | some news => (∀ c ∈ news, c.length = k) ∧ (match aeval s x with
          | .sl id ver off len => (match H[id]? with
            | some (.arr e' k' ver' es) => (e' = e ∧ k' = k ∧ ver' = ver) ∧ K (.d (.v (.int .i64 ((min news.length len : Nat) : Int)))) (H.set id (.arr e k ver (setRows es off (news.take (min news.length len)))))
            | _ => False)
          | _ => False)
        | none => False)
      | none => False)
    | none => False)
  | .min, x :: xs, _ => (match closed (aeval s x) with
    | some (.int k n) => (match intArgs s k xs with | some ns => K (.d (.v (.int k (ns.foldl min n)))) H | none => False)
    | _ => False)
  | .max, x :: xs, _ => (match closed (aeval s x) with
    | some (.int k n) => (match intArgs s k xs with | some ns => K (.d (.v (.int k (ns.foldl max n)))) H | none => False)
    | _ => False)
  | _, _, _ => False

/-- A cut of a list, or of an owned array. -/
def aslice (H : AHeap) (k : Nat) (lo : Option Int) (hi : Nat → Option Int) (K : AV → AHeap → Prop) : AV → Prop
  | .d (.list _ es) => (∀ c ∈ es, c.length = k) ∧ (match lo, hi es.length with
    | some l, some h => 0 ≤ l ∧ l ≤ h ∧ h ≤ es.length ∧ K (.d (.list false ((es.take h.toNat).drop l.toNat))) H
    | _, _ => False)
  | .sl id ver off len => (match H[id]?, lo, hi len with
    | some o, some l, some h => (o.ver = ver ∧ o.k = k ∧ o.live = true) ∧ 0 ≤ l ∧ l ≤ h ∧ h ≤ len ∧ (l = 0 ∨ l < h) ∧ K (.sl id ver (off + l.toNat) (h.toNat - l.toNat)) H
    | _, _, _ => False)
  | _ => False
/-- An array that never changes again, sliced whole. -/
def aslB (H : AHeap) (n : Nat) (K : AV → AHeap → Prop) : AV → Prop
  | .iptr ds => ds.length = n ∧ K (.d (.list true (ds.map fun d => [d]))) H
  | _ => False
def isAny (P : Program) (t : TypeId) : Bool := match P.underlying t with | some (.interface ms) => ms.isEmpty | _ => false
def aslice3 (H : AHeap) (k : Nat) (lo hi mx : Option Int) (K : AV → AHeap → Prop) : AV → Prop
  | .d (.list _ es) => (∀ c ∈ es, c.length = k) ∧ (match lo, hi, mx with
    | some l, some h, some m => 0 ≤ l ∧ l ≤ h ∧ h ≤ m ∧ m ≤ es.length ∧ K (.d (.list false ((es.take h.toNat).drop l.toNat))) H
    | _, _, _ => False)
  | _ => False
/-- What a thing behind an interface is, if it is asked for as a type's. -/
def assertNo (P : Program) (t : TypeId) (ok : Bool) : Option AV := if ok = true then (TI P t).map fun z => .tup [aconst z.1, .d (.v (.bool false))] else none
def assertR (P : Program) (t : TypeId) (ok : Bool) : Option Value → Option AV
  | some (.iface t' u) => if t' = t then some (if ok = true then .tup [aconst u, .d (.v (.bool true))] else aconst u) else assertNo P t ok
  | some .nilIface => assertNo P t ok
  | _ => none
def aassert (P : Program) (t : TypeId) (ok : Bool) (H : AHeap) (K : AV → AHeap → Prop) (v : Option Value) : Prop := isIface P t = false ∧ match assertR P t ok v with | some r => K r H | none => False
def aop (P : Program) (s : Nat → AV) (H : AHeap) (hint : Bool) (op : Op) (K : AV → AHeap → Prop) : Prop :=
  match op with
  | .move x => K (aeval s x) H
  | .assign x => K (aeval s x) H
  | .pick c x y => (match aeval s c with | .d (.v (.bool t)) => K (if t then aeval s x else aeval s y) H | _ => False)
  | .alloc e => (match TI P e with | some (z, k, _) => (0 < k ∧ z.cells.size = k ∧ z.cells.all Value.oneCell' = true) ∧ (if hint then ∃ id e', H[id]? = some (.arr e' k 0 []) ∧ K (.ptr id 1 0 0) (H.set id (.box e k 1 1 (dcells z.cells))) else K (.ptr H.length 0 0 0) (H ++ [.box e k 0 1 (dcells z.cells)])) | none => False)
  | .box e x => (match cellsOf (aeval s x) with | some cs => 0 < cs.length ∧ K (.ptr H.length 0 0 0) (H ++ [.box e cs.length 0 1 cs]) | none => False)
  | .build t parts => (match TI P t with
    | some (z, _, _) => z.cells.all Value.oneCell' = true ∧ (match SP P t with
      | some places => (match afill (places.toArray[·]?) (dcells z.cells) (aparts s parts) with | some out => K (.agg out) H | none => False)
      | none => (match AE P t with
        | some (_, e) => (match TI P e with | some (_, ke, _) => (match afill (fun i => some (i * ke, ke)) (dcells z.cells) (aparts s parts) with | some out => K (.agg out) H | none => False) | none => False)
        | none => False))
    | none => False)
  | .buildSlice t n parts => (match SE P t with
    | some e => (match TI P e with
      | some (z, k, _) => if n = 0 then parts = #[] ∧ K .cap0 H else
          (z.cells.size = k ∧ z.cells.all Value.oneCell' = true ∧ n * k ≤ 16777216 ∧ 0 < n * k) ∧ (match afill (fun i => some (i * k, k)) (zcells z (n * k)) (aparts s parts) with
            | some out => (match toDs out with | some ds => if hint then K (.sl H.length 0 0 n) (H ++ [.arr e k 0 (chunk n k ds)]) else K (.d (.list true (chunk n k ds))) H | none => False)
            | none => False)
      | none => False)
    | none => False)
  | .load t x => (match agB P t with
    | some true => (match TI P t with | some (_, k, _) => (match aread H k (aeval s x) with | some cs => K (.agg cs) H | none => False) | none => False)
    | some false => (match aread H 1 (aeval s x) with | some [c] => K c H | _ => False)
    | none => False)
  | .store t x y => (match TI P t with
    | some (_, k, _) => (match cellsOf (aeval s y) with | some cs => cs.length = k ∧ (match awrite H cs (aeval s x) with | some H' => K .top H' | none => False) | none => False)
    | none => False)
  | .fieldAddr t x f => (match FO P t f with
    | some (off, ft) => (match TI P ft with | some (_, k, _) => 0 < k ∧ fresh H (aeval s x) = true ∧ (match amove off (aeval s x) with | some y => K y H | none => False) | none => False)
    | none => False)
  | .field t x f => (match FO P t f with
    | some (off, ft) => (match TI P ft with
      | some (_, k, _) => (match aeval s x with
        | .agg cs => (match agB P ft with
          | some true => off + k ≤ cs.length ∧ K (.agg ((cs.drop off).take k)) H
          | some false => (match cs[off]? with | some y => K y H | none => False)
          | none => False)
        | _ => False)
      | none => False)
    | none => False)
  | .indexAddr t x ix => (match aeval s ix with
    | .d (.v (.int _ i)) => (match SE P t with
      | some e => (match TI P e with | some (_, k, _) => (match aelem H k i (aeval s x) with | some y => K y H | none => False) | none => False)
      | none => (match AE P t with
        | some (n, e) => (match TI P e with | some (_, k, _) => 0 ≤ i ∧ i < n ∧ fresh H (aeval s x) = true ∧ (match amove (i.toNat * k) (aeval s x) with | some y => K y H | none => False) | none => False)
        | none => False))
    | _ => False)
  | .index t x ix => P.underlying t = some .string ∧ (match closed (aeval s x), closed (aeval s ix) with
    | some (.string b), some (.int _ i) => 0 ≤ i ∧ (match b[i.toNat]? with | some u => K (.d (.v (.int .u8 u.toNat))) H | none => False)
    | _, _ => False)
  | .slice t x lo hi none => (match SE P t with
    | some e => (match TI P e with
      | some (_, k, _) => aslice H k (sliceLo s lo) (fun n => sliceHi s n hi) K (aeval s x)
      | none => False)
    | none => (match AE P t with
      | some (n, e) => (lo.isNone = true ∧ hi.isNone = true) ∧ (match TI P e with | some (_, k, _) => k = 1 ∧ aslB H n K (aeval s x) | none => False)
      | none => P.underlying t = some .string ∧ (match closed (aeval s x) with
        | some (.string b) => (match sliceLo s lo, sliceHi s b.size hi with
          | some l, some h => 0 ≤ l ∧ l ≤ h ∧ h ≤ b.size ∧ K (.d (.v (.string (b.extract l.toNat h.toNat)))) H
          | _, _ => False)
        | _ => False)))
  | .slice t x lo (some hi) (some mx) => (match SE P t with
    | some e => (match TI P e with
      | some (_, k, _) => aslice3 H k (sliceLo s lo) (sliceLo s (some hi)) (sliceLo s (some mx)) K (aeval s x)
      | none => False)
    | none => False)
  | .sliceToArrayPointer t x => (match AE P t, aeval s x with
    | some (n, _), .d (.list _ es) => (match ones es with
      | some ds => (0 < n ∧ n ≤ ds.length) ∧ K (.iptr (ds.take n)) H
      | none => False)
    | _, _ => False)
  | .typeAssert x _ t ok => aassert P t ok H K (closed (aeval s x))
  | .binOp op t x y _ => (match closed (aeval s x), closed (aeval s y) with
    | some u, some v => binK P op t u v fun r => K (aconst r) H
    | _, _ => nilCmp P H op t (aeval s x) (aeval s y) = true ∧ K (.d (.v (.bool (isNeq op)))) H)
  | .unOp op _ x => (match closed (aeval s x) with | some u => unK op u fun r => K (aconst r) H | none => False)
  | .convert src dst x => (match SE P src with
    | some e => UK P e = some .u8 ∧ P.underlying dst = some .string ∧ (match aeval s x with | .d (.list _ es) => (match asBytes es with | some ns => K (.d (.v (.string (pushAll ns)))) H | none => False) | _ => False)
    | none => (match closed (aeval s x) with
      | some (.int _ n) => (match UK P src, UK P dst with | some _, some k => K (.d (.v (.int k (k.wrap n)))) H | _, _ => False)
      | _ => False))
  | .extract x i => (match aeval s x with | .tup cs => (match cs[i]? with | some c => K c H | none => False) | _ => False)
  | .makeFunc (.func f) first caps => first = #[] ∧ K (.fn f (caps.toList.map (aeval s))) H
  | .nilCheck x => nonNil H (aeval s x) = true ∧ K (aeval s x) H
  | .makeInterface t x => (match closed (aeval s x) with | some u => isIface P t = false ∧ K (.d (.v (.iface t u))) H | none => False)
  | .makeMap t none => (match MT P t with | some (kk, _, _) => K (.mp H.length) (H ++ [.mp kk []]) | none => False)
  | .makeSlice t l c => (match SE P t with
    | some e => (match TI P e with
      | some (z, k, b) => (match closed (aeval s l), closed (aeval s c) with
        | some (.int _ n), some (.int _ m) => (0 < k ∧ z.cells.size = k ∧ z.cells.all Value.oneCell' = true ∧ m = n ∧ 0 ≤ n ∧ n ≤ 1000000000000 ∧ n * (b : Int) ≤ 140737488355328) ∧ K (.sl H.length 0 0 n.toNat) (H ++ [.arr e k 0 (List.replicate n.toNat (z.cells.toList.map D.v))])
        | _, _ => False)
      | none => False)
    | none => False)
  | .range t x => (match MT P t with
    | some (kk, _, _) => (match aeval s x with
      | .mp id => (match H[id]? with
        | some (.mp kk' es) => kk' = kk ∧ K (.ptr H.length 0 0 0) (H ++ [.iter id es.length []])
        | _ => False)
      | _ => False)
    | none => False)
  | .entry x => (match aeval s x with
    | .ptr id 0 0 0 => (match H[id]? with
      | some (.iter m since seen) => (match H[m]?, seen.getLast? with
        | some (.mp kk es), some j => (match es[j]? with
          | some e => since = es.length ∧ K (.tup [.d (.v (.int kk e.1)), e.2]) H
          | none => False)
        | _, _ => False)
      | _ => False)
    | _ => False)
  | .next x false => (match aeval s x with
    | .ptr id 0 0 0 => (match H[id]? with
      | some (.iter m since seen) => (match H[m]? with
        | some (.mp kk es) => since = es.length ∧ ((∀ j, j < es.length → j ∈ seen) → K (.tup [.d (.v (.bool false))]) H) ∧
            ∀ j e, es[j]? = some e → j ∉ seen → K (.tup [.d (.v (.bool true)), .d (.v (.int kk e.1)), e.2]) (H.set id (.iter m since (seen ++ [j])))
        | _ => False)
      | _ => False)
    | _ => False)
  | .lookup t x ix ok => (match MT P t with
    | some (kk, _, e) => (match TI P e with
      | some (z, _, _) => (match aeval s x with
        | .mp id => (match H[id]? with
          | some (.mp kk' es) => (match closed (aeval s ix) with
            | some (.int ki n) => (kk' = kk ∧ ki = kk) ∧ K (if ok then .tup [(mpGet n es).getD (aconst z), .d (.v (.bool (mpGet n es).isSome))] else (mpGet n es).getD (aconst z)) H
            | _ => False)
          | _ => False)
        | _ => False)
      | none => False)
    | none => False)
  | .mapUpdate t x ix y | .insert t x ix y => (match MT P t with
    | some (kk, _, _) => (match aeval s x with
      | .mp id => (match H[id]? with
        | some (.mp kk' es) => (match closed (aeval s ix) with
          | some (.int ki n) => (kk' = kk ∧ ki = kk) ∧ K .top (H.set id (.mp kk (mpPut n (aeval s y) es)))
          | _ => False)
        | _ => False)
      | _ => False)
    | none => False)
  | .call c => (match c.callee with | .builtin b => abuiltin P s H b c.args.toList c.argTypes.toList K | _ => False)
  | _ => False

section
variable {P : Program} {o : Oper} {a : Act} {w : World} {H : AHeap} {φ : Phi} {N : Addr → Prop} {s : Nat → AV}

theorem call_eta (c : Call) (b : Builtin) (xs : List Operand) (ts : List TypeId) (h1 : c.callee = .builtin b) (h2 : c.args.toList = xs) (h3 : c.argTypes.toList = ts) : c = { callee := .builtin b, args := xs.toArray, argTypes := ts.toArray } := by
  cases c
  simp only at h1 h2 h3
  subst h1 h2 h3
  simp

theorem intArgs_ok (hT : TRel H φ N w s a) {k : IntKind} : ∀ {xs : List Operand} {ns : List Int}, intArgs s k xs = some ns → xs.map a.eval = ns.map (Value.int k)
  | [], ns, h => by cases h; rfl
  | x :: xs, ns, h => by
    unfold intArgs at h
    split at h
    · rename_i k' n ns' hx hr
      split at h
      · rename_i hk
        subst hk
        cases h
        simp only [List.map_cons]
        rw [intArgs_ok hT hr, closed_ok (aeval_ok hT x) hx]
      · cases h
    · cases h
theorem min_fold (P : Program) (w : World) (k : IntKind) : ∀ (ns : List Int) (n : Int), ((ns.map (Value.int k)).foldlM Go.Builtin.min2 (Value.int k n)).run P w = .ok (.int k (ns.foldl min n)) w
  | [], n => rfl
  | m :: ns, n => by
    simp only [List.map_cons, List.foldlM_cons, List.foldl_cons, Sem.run_bind]
    have : (Go.Builtin.min2 (.int k n) (.int k m)).run P w = .ok (.int k (min n m)) w := by
      have e : (if m < n then m else n) = min n m := by split <;> omega
      show (pure (Value.int k (if m < n then m else n)) : Sem Value).run P w = _
      rw [e]; rfl
    rw [this]
    exact min_fold P w k ns (min n m)
theorem max_fold (P : Program) (w : World) (k : IntKind) : ∀ (ns : List Int) (n : Int), ((ns.map (Value.int k)).foldlM Go.Builtin.max2 (Value.int k n)).run P w = .ok (.int k (ns.foldl max n)) w
  | [], n => rfl
  | m :: ns, n => by
    simp only [List.map_cons, List.foldlM_cons, List.foldl_cons, Sem.run_bind]
    have : (Go.Builtin.max2 (.int k n) (.int k m)).run P w = .ok (.int k (max n m)) w := by
      have e : (if m > n then m else n) = max n m := by split <;> omega
      show (pure (Value.int k (if m > n then m else n)) : Sem Value).run P w = _
      rw [e]; rfl
    rw [this]
    exact max_fold P w k ns (max n m)
theorem ok_minmax (hR : Rel H φ N w) (hT : TRel H φ N w s a) {c : Call} (ho : o.op = .call c) (b : Builtin) (hb : b = .min ∨ b = .max) (hc : c.callee = .builtin b) (x : Operand) (xs : List Operand) (hxs : c.args.toList = x :: xs) (k : IntKind) (n : Int) (hx : closed (aeval s x) = some (.int k n)) (ns : List Int)
    (h : intArgs s k xs = some ns) : OpOk P o a w H φ N (.d (.v (.int k (if b = .min then ns.foldl min n else ns.foldl max n)))) H := by
  refine .same hR (.d (.v _ rfl)) ?_
  have e1 : c.args.map a.eval = (Value.int k n :: ns.map (Value.int k)).toArray := by
    apply Array.toList_inj.1
    rw [Array.toList_map, hxs, List.map_cons, intArgs_ok hT h, closed_ok (aeval_ok hT x) hx]
  rcases hb with rfl | rfl
  · simp [execOp, ho, resolve, invoke, hc, e1, Go.builtin, Go.Builtin.min_, min_fold]
  · simp [execOp, ho, resolve, invoke, hc, e1, Go.builtin, Go.Builtin.max_, max_fold]
theorem ok_assert (hR : Rel H φ N w) (hT : TRel H φ N w s a) (x : Operand) (xT t : TypeId) (ok : Bool) (ho : o.op = .typeAssert x xT t ok) (hi : isIface P t = false) (r : AV) (h : assertR P t ok (closed (aeval s x)) = some r) : OpOk P o a w H φ N r H := by
  obtain ⟨u, hu⟩ : ∃ u, P.underlying t = some u ∧ ∀ ms, u ≠ .interface ms := by
    unfold isIface at hi
    split at hi
    · cases hi
    · rename_i d hd hn
      exact ⟨_, hn, fun ms hms => hd ms (by rw [← hms])⟩
    · cases hi
  have no : ∀ v, (v = .nilIface ∨ ∃ t' u', v = .iface t' u' ∧ t' ≠ t) → assertNo P t ok = some r → a.eval x = v → OpOk P o a w H φ N r H := by
    intro v hv hn he
    unfold assertNo at hn
    split at hn
    · rename_i hok
      subst hok
      obtain ⟨⟨z, k, b⟩, hz, rfl⟩ := Option.map_eq_some_iff.1 hn
      refine .same hR (x := .tuple #[z, .bool false]) (.tup _ _ rfl fun i h1 h2 => ?_) ?_
      · match i, h1 with
        | 0, _ => exact aconst_ok z
        | 1, _ => exact .d (.v _ rfl)
      · simp only [execOp, ho, he, Instr.typeAssert, Sem.run_bind, run_underlying hu.1, Result.andThen_ok]
        rcases hv with rfl | ⟨t', u', rfl, hne⟩
        · cases u <;> first | (exact absurd rfl (hu.2 _)) | simp [TI.zero hz]
        · cases u <;> first | (exact absurd rfl (hu.2 _)) | simp [TI.zero hz, hne]
    · cases hn
  generalize hc : closed (aeval s x) = c at h
  unfold assertR at h
  split at h
  · rename_i t' u'
    have he := closed_ok (aeval_ok hT x) hc
    split at h
    · rename_i ht
      subst ht
      cases h
      cases ok with
      | true =>
        refine .same hR (x := .tuple #[u', .bool true]) (.tup _ _ rfl fun i h1 h2 => ?_) ?_
        · match i, h1 with
          | 0, _ => exact aconst_ok u'
          | 1, _ => exact .d (.v _ rfl)
        · simp only [execOp, ho, he, Instr.typeAssert, Sem.run_bind, run_underlying hu.1, Result.andThen_ok]
          cases u <;> first | (exact absurd rfl (hu.2 _)) | simp
      | false =>
        refine .same hR (x := u') (aconst_ok u') ?_
        simp only [execOp, ho, he, Instr.typeAssert, Sem.run_bind, run_underlying hu.1, Result.andThen_ok]
        cases u <;> first | (exact absurd rfl (hu.2 _)) | simp
    · rename_i ht
      exact no _ (.inr ⟨_, _, rfl, ht⟩) h he
  · exact no _ (.inl rfl) h (closed_ok (aeval_ok hT x) hc)
  · cases h
theorem abuiltin_ok (hR : Rel H φ N w) (hT : TRel H φ N w s a) {c : Call} (ho : o.op = .call c) {b : Builtin} (hc : c.callee = .builtin b) {K : AV → AHeap → Prop} (h : abuiltin P s H b c.args.toList c.argTypes.toList K) :
    ∃ r H', K r H' ∧ OpOk P o a w H φ N r H' := by
  generalize hxs : c.args.toList = xs at h
  generalize hts : c.argTypes.toList = ts at h
  unfold abuiltin at h
  split at h
  · rename_i x t
    have ho' := ho.trans (congrArg Op.call (call_eta c _ _ _ hc hxs hts))
    split at h
    · rename_i e he
      split at h
      · rename_i n hn
        exact ⟨_, _, h, ok_len hR hT x t ho' e he n hn⟩
      · exact h.elim
    · split at h
      · rename_i kk kt e hmt
        split at h
        · rename_i id hx
          split at h
          · rename_i kk' es hob
            obtain ⟨rfl, h⟩ := h
            exact ⟨_, _, h, ok_len_map hR hT x t ho' _ kt e hmt id es hx hob⟩
          · exact h.elim
        · exact h.elim
      · obtain ⟨hu, h⟩ := h
        split at h
        · rename_i b hb
          exact ⟨_, _, h, ok_len_str hR hT x t ho' hu b hb⟩
        · exact h.elim
  · rename_i x y t t'
    have ho' := ho.trans (congrArg Op.call (call_eta c _ _ _ hc hxs hts))
    split at h
    · rename_i e he
      split at h
      · rename_i z k b hi
        obtain ⟨⟨hz, hk0⟩, h⟩ := h
        split at h
        · rename_i news hy
          obtain ⟨hk, h⟩ := h
          unfold asrc2 at hy
          split at hy
          · rename_i htt
            have htt : t' = t ∨ ∃ e', SE P t' = some e' := htt.imp id fun h => Option.isSome_iff_exists.1 h
            split at h
            · rename_i id ver len hx
              split at h
              · rename_i e' k' ver' es hob
                obtain ⟨⟨rfl, rfl, rfl, rfl⟩, hb, hm, h⟩ := h
                exact ⟨_, _, h, ok_append hR hT x y _ _ htt ho' e' he z k' b hi hz id ver' es news hx hob hy hk hb hm⟩
              · exact h.elim
            · obtain ⟨hx, hb, hm, h⟩ := h
              exact ⟨_, _, h, ok_append_new hR hT x y _ _ htt ho' e he z k b hi hz hk0 news hx hy hk hb hm⟩
          · split at hy
            · rename_i sb hys
              split at hy
              · rename_i hst
                obtain ⟨hst, rfl⟩ := hst
                cases hy
                split at h
                · rename_i id ver len hx
                  split at h
                  · rename_i e' k' ver' es hob
                    obtain ⟨⟨rfl, rfl, rfl, rfl⟩, hb, hm, h⟩ := h
                    exact ⟨_, _, h, ok_append_str hR hT x y _ _ ho' e' he (strT.get hst) z b hi hz id ver' es sb hx hob hys hb hm⟩
                  · exact h.elim
                · obtain ⟨hx, hb, hm, h⟩ := h
                  exact ⟨_, _, h, ok_append_new_str hR hT x y _ _ ho' e he (strT.get hst) z b hi hz sb hx hys hb hm⟩
              · cases hy
            · cases hy
        · exact h.elim
      · exact h.elim
    · exact h.elim
  · rename_i x t
    have ho' := ho.trans (congrArg Op.call (call_eta c _ _ _ hc hxs hts))
    split at h
    · rename_i e he
      split at h
      · rename_i z k b hi
        obtain ⟨⟨hz, h1⟩, h⟩ := h
        split at h
        · rename_i id ver off len hx
          split at h
          · rename_i e' k' ver' es hob
            obtain ⟨⟨rfl, rfl, rfl⟩, h⟩ := h
            exact ⟨_, _, h, ok_clear hR hT x t ho' e' he z k' b hi hz h1 id ver' off len es hx hob⟩
          · exact h.elim
        · exact h.elim
      · exact h.elim
    · exact h.elim
  · rename_i x y t t'
    have ho' := ho.trans (congrArg Op.call (call_eta c _ _ _ hc hxs hts))
    split at h
    · rename_i e he
      split at h
      · rename_i z k b hi
        split at h
        · rename_i news hy
          obtain ⟨hk, h⟩ := h
          split at h
          · rename_i id ver off len hx
            split at h
            · rename_i e' k' ver' es hob
              obtain ⟨⟨rfl, rfl, rfl⟩, h⟩ := h
              exact ⟨_, _, h, ok_copy hR hT x y t t' ho' e' he z k' b hi id ver' off len es hx hob news (copy_src hR (aeval_ok hT y) hy hk) hk⟩
            · exact h.elim
          · exact h.elim
        · exact h.elim
      · exact h.elim
    · exact h.elim
  · rename_i x xs
    split at h
    · rename_i k n hx
      split at h
      · rename_i ns hns
        exact ⟨_, _, h, by simpa using ok_minmax (P := P) hR hT ho .min (.inl rfl) hc x xs hxs k n hx ns hns⟩
      · exact h.elim
    · exact h.elim
  · rename_i x xs
    split at h
    · rename_i k n hx
      split at h
      · rename_i ns hns
        exact ⟨_, _, h, by simpa using ok_minmax (P := P) hR hT ho .max (.inr rfl) hc x xs hxs k n hx ns hns⟩
      · exact h.elim
    · exact h.elim
  · exact h.elim

theorem aop_ok (hR : Rel H φ N w) (hT : TRel H φ N w s a) {hint : Bool} {K : AV → AHeap → Prop} (h : aop P s H hint o.op K) : ∃ r H', K r H' ∧ OpOk P o a w H φ N r H' := by
  generalize ho : o.op = op at h
  unfold aop at h
  split at h
  · exact ⟨_, _, h, ok_move hR hT _ (.inl ho)⟩
  · exact ⟨_, _, h, ok_move hR hT _ (.inr ho)⟩
  · split at h
    · rename_i t ht
      exact ⟨_, _, h, ok_pick hR hT _ _ _ ho t ht⟩
    · exact h.elim
  · split at h
    · rename_i z k b hi
      obtain ⟨g, h⟩ := h
      split at h
      · obtain ⟨id, e', hob, h⟩ := h
        exact ⟨_, _, h, ok_alloc_at hR _ z k b ho hi g.1 g.2.1 g.2.2 id e' hob⟩
      · exact ⟨_, _, h, ok_alloc hR _ z k b ho hi g.1 g.2.1 g.2.2⟩
    · exact h.elim
  · split at h
    · rename_i cs hc
      exact ⟨_, _, h.2, ok_box hR hT _ _ ho cs hc h.1⟩
    · exact h.elim
  · split at h
    · rename_i z k b hi
      obtain ⟨hz, h⟩ := h
      split at h
      · rename_i places hp
        split at h
        · rename_i out hout
          exact ⟨_, _, h, ok_build_struct hR hT _ _ ho places hp z k b hi hz out hout⟩
        · exact h.elim
      · split at h
        · rename_i n e hp
          split at h
          · rename_i ze ke be hie
            split at h
            · rename_i out hout
              exact ⟨_, _, h, ok_build_array hR hT _ _ ho n e hp z ze k b ke be hi hie hz out hout⟩
            · exact h.elim
          · exact h.elim
        · exact h.elim
    · exact h.elim
  · split at h
    · rename_i e he
      split at h
      · rename_i z k b hi
        split at h
        · rename_i hn
          subst hn
          obtain ⟨rfl, h⟩ := h
          exact ⟨_, _, h, ok_buildSlice_zero hR _ ho e he z k b hi⟩
        · obtain ⟨⟨hz, h1, h24, hn⟩, h⟩ := h
          split at h
          · rename_i out hout
            split at h
            · rename_i ds hd
              split at h
              · exact ⟨_, _, h, ok_buildSlice_obj hR hT _ _ _ ho e he z k b hi hz h1 h24 hn out hout ds hd⟩
              · exact ⟨_, _, h, ok_buildSlice hR hT _ _ _ ho e he z k b hi hz h1 h24 hn out hout ds hd⟩
            · exact h.elim
          · exact h.elim
      · exact h.elim
    · exact h.elim
  · split at h
    · rename_i hg
      split at h
      · rename_i z k b hi
        split at h
        · rename_i cs hcs
          exact ⟨_, _, h, ok_load_agg hR hT _ _ ho hg z k b hi cs hcs⟩
        · exact h.elim
      · exact h.elim
    · rename_i hg
      split at h
      · rename_i c hcs
        exact ⟨_, _, h, ok_load_one hR hT _ _ ho hg c hcs⟩
      · exact h.elim
    · exact h.elim
  · split at h
    · rename_i z k b hi
      split at h
      · rename_i cs hcs
        obtain ⟨hk, h⟩ := h
        split at h
        · rename_i H' hw
          exact ⟨_, _, h, ok_store hR hT _ _ _ ho z k b hi cs hcs hk H' hw⟩
        · exact h.elim
      · exact h.elim
    · exact h.elim
  · split at h
    · rename_i off ft hf
      split at h
      · rename_i z k b hi
        obtain ⟨hk, hfr, h⟩ := h
        split at h
        · rename_i y hy
          exact ⟨_, _, h, ok_fieldAddr hR hT _ _ _ ho off ft hf z k b hi hk y hy hfr⟩
        · exact h.elim
      · exact h.elim
    · exact h.elim
  · split at h
    · rename_i off ft hf
      split at h
      · rename_i z k b hi
        split at h
        · rename_i cs hcs
          split at h
          · rename_i hg
            exact ⟨_, _, h.2, ok_field hR hT _ _ _ ho off ft hf z k b hi cs hcs true hg _ (by simpa using h.1)⟩
          · rename_i hg
            split at h
            · rename_i y hy
              exact ⟨_, _, h, ok_field hR hT _ _ _ ho off ft hf z k b hi cs hcs false hg y (by simpa using hy)⟩
            · exact h.elim
          · exact h.elim
        · exact h.elim
      · exact h.elim
    · exact h.elim
  · split at h
    · rename_i ik i hix
      split at h
      · rename_i e he
        split at h
        · rename_i z k b hi
          split at h
          · rename_i y hy
            exact ⟨_, _, h, ok_indexAddr hR hT _ _ _ ho e he z k b hi ik i hix y hy⟩
          · exact h.elim
        · exact h.elim
      · split at h
        · rename_i n e he
          split at h
          · rename_i z k b hi
            obtain ⟨h0, h1, hfr, h⟩ := h
            split at h
            · rename_i y hy
              exact ⟨_, _, h, ok_indexAddr_arr hR hT _ _ _ ho n e he z k b hi ik i hix h0 h1 y hy hfr⟩
            · exact h.elim
          · exact h.elim
        · exact h.elim
    · exact h.elim
  · obtain ⟨hu, h⟩ := h
    split at h
    · rename_i b k i hx hi
      obtain ⟨h0, h⟩ := h
      split at h
      · rename_i u hb
        exact ⟨_, _, h, ok_index_str hR hT _ _ _ ho hu b hx k i hi h0 u hb⟩
      · exact h.elim
    · exact h.elim
  · split at h
    · rename_i e he
      split at h
      · rename_i z k b hi
        unfold aslice at h
        split at h
        · rename_i nn es hx
          obtain ⟨hes, h⟩ := h
          split at h
          · rename_i l hh hl hhh
            obtain ⟨h0, h1, h2, h⟩ := h
            exact ⟨_, _, h, ok_slice_list hR hT _ _ _ _ ho e he z k b hi nn es hx hes l hh hl hhh h0 h1 h2⟩
          · exact h.elim
        · rename_i id ver off len hx
          split at h
          · rename_i ob l hh hob hl hhh
            obtain ⟨⟨h00, h01, _⟩, h0, h1, h2, h3, h⟩ := h
            exact ⟨_, _, h, ok_slice_sl hR hT _ _ _ _ ho e he z k b hi id ver off len hx ob hob h00 h01 l hh hl hhh h0 h1 h2 h3⟩
          · exact h.elim
        · exact h.elim
      · exact h.elim
    · split at h
      · rename_i n e hae
        obtain ⟨⟨hlo, hhi⟩, h⟩ := h
        split at h
        · rename_i z k b hi
          obtain ⟨rfl, h⟩ := h
          unfold aslB at h
          split at h
          · rename_i ds hx
            exact ⟨_, _, h.2, ok_slice_iptr hR hT _ _ _ _ ho hlo hhi e n hae z b hi ds hx h.1⟩
          · exact h.elim
        · exact h.elim
      · obtain ⟨hu, h⟩ := h
        split at h
        · rename_i b hx
          split at h
          · rename_i l hh hl hhh
            obtain ⟨h0, h1, h2, h⟩ := h
            exact ⟨_, _, h, ok_slice_str hR hT _ _ _ _ ho hu b hx l hh hl hhh h0 h1 h2⟩
          · exact h.elim
        · exact h.elim
  · split at h
    · rename_i e he
      split at h
      · rename_i z k b hi
        unfold aslice3 at h
        split at h
        · rename_i nn es hx
          obtain ⟨hes, h⟩ := h
          split at h
          · rename_i l hh m hl hhh hmm
            obtain ⟨h0, h1, h2, h3, h⟩ := h
            exact ⟨_, _, h, ok_slice3_list hR hT _ _ _ _ _ ho e he z k b hi nn es hx hes l hh m hl hhh hmm h0 h1 h2 h3⟩
          · exact h.elim
        · exact h.elim
      · exact h.elim
    · exact h.elim
  · split at h
    · rename_i n e nn es hae hx
      split at h
      · rename_i ds hds
        obtain ⟨⟨h0, h1⟩, h⟩ := h
        rw [ones_eq hds] at hx
        exact ⟨_, _, h, ok_arrayAt hR hT _ _ ho e n hae nn ds hx h0 h1⟩
      · exact h.elim
    · exact h.elim
  · obtain ⟨hi, h⟩ := h
    split at h
    · rename_i r hr
      exact ⟨_, _, h, ok_assert hR hT _ _ _ _ ho hi r hr⟩
    · exact h.elim
  · split at h
    · rename_i u v hx hy
      obtain ⟨r, hr, h⟩ := binK_ok h
      exact ⟨_, _, h, ok_bin hR hT _ _ _ _ _ ho u v r hx hy hr⟩
    · exact ⟨_, _, h.2, ok_nilCmp hR hT _ _ _ _ _ ho h.1⟩
  · split at h
    · rename_i u hx
      obtain ⟨r, h, hok⟩ := ok_un hR hT _ _ _ ho u hx _ h
      exact ⟨_, _, h, hok⟩
    · exact h.elim
  · split at h
    · rename_i e he
      obtain ⟨h1, h2, h⟩ := h
      split at h
      · rename_i nn es hx
        split at h
        · rename_i ns hn
          exact ⟨_, _, h, ok_convert_bytes hR hT _ _ _ _ ho he h1 h2 nn es ns hx hn⟩
        · exact h.elim
      · exact h.elim
    · split at h
      · rename_i ks n hx
        split at h
        · rename_i k' k hk' hk
          exact ⟨_, _, h, ok_convert_int hR hT _ _ _ ho ks k' n hx hk' k hk⟩
        · exact h.elim
      · exact h.elim
  · split at h
    · rename_i cs hx
      split at h
      · rename_i c hc
        exact ⟨_, _, h, ok_extract hR hT _ _ ho cs hx c hc⟩
      · exact h.elim
    · exact h.elim
  · obtain ⟨rfl, h⟩ := h
    exact ⟨_, _, h, ok_makeFunc hR hT _ _ ho⟩
  · exact ⟨_, _, h.2, ok_nilCheck hR hT _ ho h.1⟩
  · split at h
    · rename_i u hx
      exact ⟨_, _, h.2, ok_makeInterface hR hT _ _ ho u hx h.1⟩
    · exact h.elim
  · split at h
    · rename_i kk kt e hmt
      exact ⟨_, _, h, ok_makeMap hR _ ho kk kt e hmt⟩
    · exact h.elim
  · split at h
    · rename_i e he
      split at h
      · rename_i z k b hi
        split at h
        · rename_i kl n kc m hl hc
          obtain ⟨⟨h1, h2, h3, rfl, h5, h6, h7⟩, h⟩ := h
          exact ⟨_, _, h, ok_makeSlice hR hT _ _ _ ho e he z k b hi h1 h2 h3 kl kc m hl hc h5 h6 h7⟩
        · exact h.elim
      · exact h.elim
    · exact h.elim
  · split at h
    · rename_i kk kt e hmt
      split at h
      · rename_i id hx
        split at h
        · rename_i kk' es hob
          obtain ⟨rfl, h⟩ := h
          exact ⟨_, _, h, ok_range hR hT _ _ ho _ kt e hmt id es hx hob⟩
        · exact h.elim
      · exact h.elim
    · exact h.elim
  · split at h
    · rename_i id hx
      split at h
      · rename_i m since seen hob
        split at h
        · rename_i kk es j hm hj
          split at h
          · rename_i e he
            obtain ⟨rfl, h⟩ := h
            exact ⟨_, _, h, ok_entry hR hT _ ho id m seen kk es hx hob hm j hj e he⟩
          · exact h.elim
        · exact h.elim
      · exact h.elim
    · exact h.elim
  · split at h
    · rename_i id hx
      split at h
      · rename_i m since seen hob
        split at h
        · rename_i kk es hm
          obtain ⟨rfl, h1, h2⟩ := h
          rcases ok_next hR hT _ ho id m seen kk es hx hob hm with ⟨g1, g2⟩ | ⟨j, e, g1, g2, g3⟩
          · exact ⟨_, _, h1 g1, g2⟩
          · exact ⟨_, _, h2 j e g1 g2, g3⟩
        · exact h.elim
      · exact h.elim
    · exact h.elim
  · split at h
    · rename_i kk kt e hmt
      split at h
      · rename_i z k b hi
        split at h
        · rename_i id hx
          split at h
          · rename_i kk' es hob
            split at h
            · rename_i ki n hix
              obtain ⟨⟨rfl, rfl⟩, h⟩ := h
              exact ⟨_, _, h, ok_lookup hR hT _ _ _ _ ho _ kt e hmt z k b hi id es hx hob n hix⟩
            · exact h.elim
          · exact h.elim
        · exact h.elim
      · exact h.elim
    · exact h.elim
  · split at h
    · rename_i kk kt e hmt
      split at h
      · rename_i id hx
        split at h
        · rename_i kk' es hob
          split at h
          · rename_i ki n hix
            obtain ⟨⟨rfl, rfl⟩, h⟩ := h
            exact ⟨_, _, h, ok_mapUpdate hR hT _ _ _ _ (.inl ho) _ kt e hmt id es hx hob n hix⟩
          · exact h.elim
        · exact h.elim
      · exact h.elim
    · exact h.elim
  · split at h
    · rename_i kk kt e hmt
      split at h
      · rename_i id hx
        split at h
        · rename_i kk' es hob
          split at h
          · rename_i ki n hix
            obtain ⟨⟨rfl, rfl⟩, h⟩ := h
            exact ⟨_, _, h, ok_mapUpdate hR hT _ _ _ _ (.inr ho) _ kt e hmt id es hx hob n hix⟩
          · exact h.elim
        · exact h.elim
      · exact h.elim
    · exact h.elim
  · split at h
    · rename_i c b hb
      exact abuiltin_ok hR hT ho hb h
    · exact h.elim
  · exact h.elim
end
end Go.Proofs.YtmbagpfmfiegkaaGreatAw
namespace Go.Proofs.YtmbagpfmfiegkaaGreatAw
open Go.RowKit
set_option linter.unusedVariables false
set_option linter.unusedSimpArgs false

inductive AX where
  | normal
  | exit (id : Nat)
  | ret
  | panic (v : Value)
def AX.exitOf : AX → Exit
  | .normal => .normal
  | .exit id => .exit id
  | .ret => .ret
  | .panic v => .panic [{ v := v, recovered := false }]

abbrev Post := AX → (Nat → AV) → AHeap → Prop
def AX.jump : AX → Option Code
  | .ret => some .ret
  | .exit id => some (.exit id)
  | _ => none
inductive Bel (m : Nat) : AV → Prop
  | top : Bel m .top
  | d (x : D) : Bel m (.d x)
  | cap0 : Bel m .cap0
  | ptr (id ver i j : Nat) (h : id < m) : Bel m (.ptr id ver i j)
  | iptr (cs : List D) : Bel m (.iptr cs)
  | sl (id ver off len : Nat) (h : id < m) : Bel m (.sl id ver off len)
  | agg (cs : List AV) (h : ∀ i (hi : i < cs.length), Bel m (cs[i])) : Bel m (.agg cs)
  | tup (cs : List AV) (h : ∀ i (hi : i < cs.length), Bel m (cs[i])) : Bel m (.tup cs)
  | fn (f : FuncId) (cs : List AV) (h : ∀ i (hi : i < cs.length), Bel m (cs[i])) : Bel m (.fn f cs)
  | mp (id : Nat) (h : id < m) : Bel m (.mp id)
  | yld (id : Nat) (h : id < m) : Bel m (.yld id)
abbrev OBel (m : Nat) (o : AObj) : Prop := (∀ e k ver n cs, o = .box e k ver n cs → ∀ c ∈ cs, Bel m c) ∧ (∀ kk es, o = .mp kk es → ∀ e ∈ es, Bel m e.2) ∧ (∀ m' since seen, o = .iter m' since seen → m' < m) ∧ ∀ r s, o = .lp r s → ∀ t, Bel m (s t)
def HBel (m : Nat) (H : AHeap) : Prop := ∀ (i : Nat) (o : AObj), H[i]? = some o → OBel m o
/-- A round of a range over a function, as its iterator calls for it. -/
def YDoes (P : Program) (G : AHeap) (id : Nat) (args : List AV) (R : Bool → AHeap → Prop) : Prop :=
  (∃ r s, G[id]? = some (.lp r s)) ∧ ∀ (φ : Phi) (N : Addr → Prop) (w : World) (vals : Array Value) (B c : Nat), Rel G φ N w → RAs G φ N w args vals → φ id = some (B, c) →
    ∃ fn tmps assign body, (Instr.yield B vals).run P w = .ok (.round B fn tmps assign body) w ∧ RoundIn Fence.wide 0 P B fn tmps assign body w fun e w' =>
      ∃ b H' φ' N', e = .returned (.bool b) ∧ R b H' ∧ Rel H' φ' N' w' ∧ Since G φ N w H' φ' N' w'
/-- A contract whose end is told by a predicate. -/
def DoesR (P : Program) (f : FuncId) (args : List AV) (H : AHeap) (R : ARes → AHeap → Prop) : Prop :=
  ∀ (φ : Phi) (N : Addr → Prop) (w : World) (vals : Array Value), Rel H φ N w → RAs H φ N w args vals →
    (callFunc f vals).run P w = .ok (.enter f vals) w ∧ Calls P f vals w fun e w' => ∃ res H' φ' N', R res H' ∧ Rel H' φ' N' w' ∧ Since H φ N w H' φ' N' w' ∧ REnd H' φ' N' w' res e
def lstop (r : Loop) (c : Code) : Loop := { r with state := .done, pending := some c }
/-- An iterator's contract: what it hands out, one by one; C is what it reads of the heap. -/
def SeqD (P : Program) (gf : FuncId) (caps : List AV) (C : AHeap → Prop) (xs : List (List AV)) : Prop :=
  ∀ (r : Loop) (s : Nat → AV) (J : Nat → AHeap → Prop) (Jx : Code → AHeap → Prop) (m : Nat) (Hs : AHeap), J 0 Hs → (∀ t, Bel m (s t)) → (∀ k Hk, J k Hk → C Hk ∧ HBel m Hk ∧ Hk.length = m) →
    (∀ k (hk : k < xs.length) Hk T, J k Hk → YDoes P (Hk ++ .lp r s :: T) m (xs[k]) fun b G => if b = true then ∃ Hk', J (k + 1) Hk' ∧ G = Hk' ++ .lp r s :: T else ∃ Hk' c, Jx c Hk' ∧ HBel m Hk' ∧ Hk'.length = m ∧ G = Hk' ++ .lp (lstop r c) s :: T) →
    DoesR P gf (.yld m :: caps) (Hs ++ [.lp r s]) fun res G => res = .ok (.tup []) ∧ ((∃ Hn, J xs.length Hn ∧ G = Hn ++ [.lp r s]) ∨ ∃ Hx c, Jx c Hx ∧ Hx.length = m ∧ G = Hx ++ [.lp (lstop r c) s])

def aput (n : Nat) (s : Nat → AV) (d : Option Tmp) (v : AV) : Nat → AV :=
  match d with
  | some d => fun t => if t = d then (if d < n then v else .top) else s t
  | none => s

/-- A call, a panic, or an operation. -/
def astep (P : Program) (hint : Nat → Bool) (s : Nat → AV) (H : AHeap) (o : Oper) (K : AV → AHeap → Prop) (KP : Value → AHeap → Prop) : Prop :=
  match o.op with
  | .panic x => (match closed (aeval s x) with | some (.iface t u) => KP (.iface t u) H | _ => False)
  | .call c => (match c.callee with
    | .value f => (match aeval s f with
      | .fn g caps => ∃ res H', Does P g (c.args.toList.map (aeval s) ++ caps) H res H' ∧ (match res with | .ok r => K r H' | .panic v => KP v H')
      | .yld id => hint 3000000 = true ∧ ∃ R, YDoes P H id (c.args.toList.map (aeval s)) R ∧ ∀ b H', R b H' → K (.d (.v (.bool b))) H'
      | _ => False)
    | .builtin b => abuiltin P s H b c.args.toList c.argTypes.toList K
    | _ => False)
  | op => aop P s H (match o.dst with | some d => hint d | none => false) op K

/-- Whether a guard's word is the wanted one; what was left out holds no word. -/
def asW (want : Bool) : AV → Option Bool
  | .d (.v (.bool b)) => some (b == want)
  | .tup [] => some false
  | _ => none
def ayield (ops : Array Oper) (s : Nat → AV) (n : Nat) (j : Nat) (want : Bool) : Option Bool :=
  match (ops[j]?).bind (·.dst) with
  | some d => if d < n then asW want (s d) else none
  | none => none

def awpOp (P : Program) (hint : Nat → Bool) (n : Nat) (ops : Array Oper) (Q : Post) (o : Oper) (K : (Nat → AV) → AHeap → Prop) (s : Nat → AV) (H : AHeap) : Prop :=
  match o.guard with
  | none => astep P hint s H o (fun r H' => K (aput n s o.dst r) H') fun v H' => Q (.panic v) s H'
  | some (j, want) => (match ayield ops s n j want with
    | some b => if b = true then astep P hint s H o (fun r H' => K (aput n s o.dst r) H') (fun v H' => Q (.panic v) s H') else K (aput n s o.dst (.tup [])) H
    | none => False)

def awpList (P : Program) (hint : Nat → Bool) (n : Nat) (ops : Array Oper) (Q : Post) : List Oper → (Nat → AV) → AHeap → Prop
  | [], s, H => Q .normal s H
  | o :: rest, s, H => awpOp P hint n ops Q o (awpList P hint n ops Q rest) s H

/-- All orders of a region that draws. -/
def awpAny (P : Program) (hint : Nat → Bool) (n : Nat) (ops : Array Oper) (Q : Post) : Nat → Array Bool → (Nat → AV) → AHeap → Prop
  | 0, listed, s, H => Region.ready .any ops listed = [] ∧ Q .normal s H
  | fuel + 1, listed, s, H => (Region.ready .any ops listed = [] → Q .normal s H) ∧
      ∀ i ∈ Region.ready .any ops listed, match ops[i]? with
        | none => awpAny P hint n ops Q fuel (listed.setIfInBounds i true) s H
        | some o => awpOp P hint n ops Q o (awpAny P hint n ops Q fuel (listed.setIfInBounds i true)) s H

def frz0 (H : AHeap) (m : Nat) : AV → AV
  | .ptr id v i j => if id < m then .ptr id v i j else .top
  | .mp id => if id < m then .mp id else .top
  | .yld id => if id < m then .yld id else .top
  | .sl id v off len => if id < m then .sl id v off len else match H[id]? with
    | some (.arr _ _ ver es) => if ver = v then .d (.list false ((es.drop off).take len)) else .top
    | _ => .top
  | .agg _ => .top
  | .tup _ => .top
  | .fn f [] => .fn f []
  | .fn _ _ => .top
  | x => x
def frz1 (H : AHeap) (m : Nat) : AV → AV
  | .agg cs => .agg (cs.map (frz0 H m))
  | .fn f cs => .fn f (cs.map (frz0 H m))
  | x => frz0 H m x
def frz (H : AHeap) (m : Nat) : AV → AV
  | .tup cs => .tup (cs.map (frz1 H m))
  | x => frz1 H m x
def below0 (m : Nat) : AV → Bool
  | .ptr id _ _ _ => decide (id < m)
  | .mp id => decide (id < m)
  | .yld id => decide (id < m)
  | .sl id _ _ _ => decide (id < m)
  | .agg _ => false
  | .tup _ => false
  | .fn _ cs => cs.isEmpty
  | _ => true
def below1 (m : Nat) : AV → Bool
  | .agg cs => cs.all (below0 m)
  | .fn _ cs => cs.all (below0 m)
  | x => below0 m x
def AObj.below (m : Nat) : AObj → Bool
  | .arr _ _ _ _ => true
  | .box _ _ _ _ cs => cs.all (below1 m)
  | .mp _ es => es.all fun e => below1 m e.2
  | .dead _ => true
  | .iter m' _ _ => decide (m' < m)
  | .lp _ _ => false

inductive Weak (H0 : AHeap) : (Nat → AV) → AHeap → (Nat → AV) → AHeap → Prop
  | refl (s : Nat → AV) (H : AHeap) : Weak H0 s H s H
  | trunc (s : Nat → AV) (H : AHeap) (m : Nat) (hm : H0.length ≤ m) (hl : m ≤ H.length) (h : ∀ i o, i < m → H[i]? = some o → H0[i]? = some o ∨ o.below m = true) : Weak H0 s H (fun t => frz H m (s t)) (H.take m)
  | virt (s : Nat → AV) (H : AHeap) (t : Nat) (e : TypeId) (k : Nat) (hk : 0 < k) (h : isNone (s t) = true) : Weak H0 s H (fun u => if u = t then .sl H.length 0 0 0 else s u) (H ++ [.arr e k 0 []])
  | frzBox (s : Nat → AV) (H : AHeap) (t id : Nat) (e : TypeId) (k ver n : Nat) (ds : List D) (ho : H[id]? = some (.box e k ver n (ds.map AV.d))) (hs : s t = .ptr id ver 0 0) : Weak H0 s H (fun u => if u = t then .iptr ds else s u) (H.set id (.arr e k (ver + 1) []))
  | virtBox (s : Nat → AV) (H : AHeap) (id : Nat) (e0 : TypeId) (k0 ver m : Nat) (cs : List AV) (j : Nat) (x : AV) (e : TypeId) (k : Nat) (hk : 0 < k) (ho : H[id]? = some (.box e0 k0 ver m cs)) (hj : cs[j]? = some x) (hx : isNone x = true) :
      Weak H0 s H s (H.set id (.box e0 k0 ver m (cs.set j (.sl H.length 0 0 0))) ++ [.arr e k 0 []])
  | virtV (s : Nat → AV) (H : AHeap) (t : Nat) (e : TypeId) (k ver : Nat) (hk : 0 < k) (h : isNone (s t) = true) : Weak H0 s H (fun u => if u = t then .sl H.length ver 0 0 else s u) (H ++ [.arr e k ver []])
  | imp (s s' : Nat → AV) (H : AHeap) (h : ∀ φ N w u v, RA H φ N w (s u) v → RA H φ N w (s' u) v) : Weak H0 s H s' H
  | truncB (s : Nat → AV) (H : AHeap) (m : Nat) (hm : H0.length ≤ m) (hl : m ≤ H.length) (h : ∀ i o, i < m → H[i]? = some o → H0[i]? = some o ∨ OBel m o) : Weak H0 s H (fun t => frz H m (s t)) (H.take m)
  | trans {s1 s2 s3 : Nat → AV} {H1 H2 H3 : AHeap} (h : Weak H0 s1 H1 s2 H2) (g : Weak H0 s2 H2 s3 H3) : Weak H0 s1 H1 s3 H3

/-- Where a walk may forget: ahead of a region that the hint names (1000000 + its number). -/
def firstR : Code → Option Nat
  | .region id _ _ => some id
  | .seq x _ => firstR x
  | _ => none
def hintAt (hint : Nat → Bool) (c : Code) : Bool := match firstR c with | some r => hint (r + 1000000) | none => false
def aparams (n : Nat) (s : Nat → AV) (ps : List Tmp) (xs : List AV) : Nat → AV := (ps.zip xs).foldl (fun s p => aput n s (some p.1) p.2) s
def awp (P : Program) : (Nat → Bool) → Nat → AHeap → Code → Post → (Nat → AV) → AHeap → Prop
  | _, _, _, .skip, Q, s, H => Q .normal s H
  | _, _, _, .label _, Q, s, H => Q .normal s H
  | hint, n, H0, .scope x, Q, s, H => awp P hint n H0 x Q s H
  | hint, n, _, .region _ ops draw, Q, s, H => if draw then P.follows .mixedOrders = true ∧ awpAny P hint n ops Q ops.size (Array.replicate ops.size false) s H else awpList P hint n ops Q ops.toList s H
  | hint, n, H0, .seq x y, Q, s, H => awp P hint n H0 x (fun e s' H' => match e with | .normal => (if hintAt hint y = true then ∃ s'' H'', Weak H0 s' H' s'' H'' ∧ awp P hint n H0 y Q s'' H'' else awp P hint n H0 y Q s' H') | e => Q e s' H') s H
  | hint, n, H0, .cond c x y, Q, s, H => (match aeval s c with | .d (.v (.bool b)) => if b = true then awp P hint n H0 x Q s H else awp P hint n H0 y Q s H | _ => False)
  | hint, n, H0, .block id x, Q, s, H => awp P hint n H0 x (fun e s' H' => match e with | .exit i => if i = id then Q .normal s' H' else Q (.exit i) s' H' | e => Q e s' H') s H
  | hint, n, H0, .loop x, Q, s, H => ∃ (I : Nat → (Nat → AV) → AHeap → Prop) (m : Nat), (∃ s' H', Weak H0 s H s' H' ∧ I m s' H') ∧
      ∀ m s H, I m s H → awp P hint n H0 x (fun e s' H' => match e with | .normal => ∃ s'' H'' m', Weak H0 s' H' s'' H'' ∧ I m' s'' H'' ∧ m' < m | e => Q e s' H') s H
  | _, _, _, .exit id, Q, s, H => Q (.exit id) s H
  | _, _, _, .ret, Q, s, H => Q .ret s H
  | hint, n, H0, .rangeFunc g ps x y, Q, s, H => hint 2000000 = true ∧ ∃ (hint' : Nat → Bool) (gf : FuncId) (caps : List AV) (xs : List (List AV)) (C : AHeap → Prop) (I : Nat → AHeap → Prop) (Ix : AX → AHeap → Prop) (s0 : Nat → AV) (H1 : AHeap),
      hint' 2000000 = false ∧ Weak H0 s H s0 H1 ∧ aeval s0 g = .fn gf caps ∧ SeqD P gf caps C xs ∧ (∀ v ∈ xs, v.length = ps.size ∧ ∀ u ∈ v, Bel H1.length u) ∧ I 0 H1 ∧ (∀ k Hk, I k Hk → C Hk ∧ Hk.length = H1.length) ∧
      (∀ k (hk : k < xs.length) Hk, I k Hk → awp P hint' n Hk x (fun e s1 H2 => match e with
        | .normal => awp P hint' n Hk y (fun e s2 H3 => ∃ s3 H4, Weak Hk s2 H3 s3 H4 ∧ H4.length = H1.length ∧ (match e with | .normal => I (k + 1) H4 | .panic _ => False | e => Ix e H4)) s1 H2
        | _ => False) (aparams n s0 ps.toList (xs[k])) Hk) ∧
      (∀ Hn, I xs.length Hn → Q .normal s0 Hn) ∧ ∀ e Hx, Ix e Hx → Q e s0 Hx
  | _, _, _, _, _, _, _ => False

/-- The deferred calls of an activation; 'mk': marks of ranges over functions may stand ahead of them. -/
structure DS where
  marks : Bool
  l : List Deferred
def Marks (b0 : Nat) (H : AHeap) (φ : Phi) (w : World) : List Deferred → Prop
  | [] => True
  | d :: ds => (∃ D, b0 ≤ D ∧ d = { target := .collected D, args := #[] } ∧ w.heap[D]? = some (.deferred (some [])) ∧ (∀ id c, id < H.length → φ id ≠ some (D, c)) ∧ ∀ d' ∈ ds, d' ≠ d) ∧ Marks b0 H φ w ds
theorem Marks.mono {b0 : Nat} {H H' : AHeap} {φ φ' : Phi} {w w' : World} (h : ∀ D, D < w.heap.size → b0 ≤ D → w.heap[D]? = some (.deferred (some [])) → (∀ id c, id < H.length → φ id ≠ some (D, c)) → w'.heap[D]? = w.heap[D]? ∧ ∀ id c, id < H'.length → φ' id ≠ some (D, c)) :
    ∀ {ds : List Deferred}, Marks b0 H φ w ds → Marks b0 H' φ' w' ds
  | [], _ => trivial
  | d :: ds, ⟨⟨D, h0, h1, h2, h3, h4⟩, h5⟩ => by
    obtain ⟨g1, g2⟩ := h D (Array.getElem?_eq_some_iff.1 h2).1 h0 h2 h3
    exact ⟨⟨D, h0, h1, g1.trans h2, g2, h4⟩, Marks.mono h h5⟩
def DefS (ds : DS) (b0 : Nat) (H : AHeap) (φ : Phi) (w : World) (l : List Deferred) : Prop := ∃ ms, l = ms ++ ds.l ∧ (ds.marks = false → ms = []) ∧ Marks b0 H φ w ms
theorem DefS.refl {ds : DS} {b0 : Nat} {H : AHeap} {φ : Phi} {w : World} : DefS ds b0 H φ w ds.l := ⟨[], rfl, fun _ => rfl, trivial⟩
theorem DefS.eq {l l' : List Deferred} {b0 : Nat} {H : AHeap} {φ : Phi} {w : World} (h : DefS ⟨false, l⟩ b0 H φ w l') : l' = l := by
  obtain ⟨ms, h1, h2, _⟩ := h
  rw [h1, h2 rfl]; rfl
theorem DefS.mono {ds : DS} {b0 : Nat} {H H' : AHeap} {φ φ' : Phi} {w w' : World} (h : ∀ D, D < w.heap.size → b0 ≤ D → w.heap[D]? = some (.deferred (some [])) → (∀ id c, id < H.length → φ id ≠ some (D, c)) → w'.heap[D]? = w.heap[D]? ∧ ∀ id c, id < H'.length → φ' id ≠ some (D, c))
    {l : List Deferred} (hl : DefS ds b0 H φ w l) : DefS ds b0 H' φ' w' l := by
  obtain ⟨ms, h1, h2, h3⟩ := hl
  exact ⟨ms, h1, h2, h3.mono h⟩
theorem DefS.since {ds : DS} {b0 : Nat} {H H' : AHeap} {φ φ' : Phi} {N N' : Addr → Prop} {w w' : World} (hS : Since H φ N w H' φ' N' w') {l : List Deferred} (hl : DefS ds b0 H φ w l) : DefS ds b0 H' φ' w' l :=
  hl.mono fun D hD _ _ hn => ⟨hS.keep D hD hn, fun id c hid hp => by
    obtain ⟨id0, c0, h1, h2⟩ := hS.own id D c hid hp hD
    exact hn id0 c0 h1 h2⟩
structure Inv (H0 : AHeap) (φ0 : Phi) (N0 : Addr → Prop) (w0 : World) (n : Nat) (ds : DS) (s : Nat → AV) (H : AHeap) (φ : Phi) (N : Addr → Prop) (a : Act) (w : World) : Prop where
  rel : Rel H φ N w
  tmps : TRel H φ N w s a
  since : Since H0 φ0 N0 w0 H φ N w
  size : a.tmps.size = n
  defers : DefS ds w0.heap.size H φ w a.defers

section
variable {P : Program} {H0 : AHeap} {φ0 : Phi} {N0 : Addr → Prop} {w0 : World} {n : Nat} {ds : DS} {hint : Nat → Bool}

def CPost (H0 : AHeap) (φ0 : Phi) (N0 : Addr → Prop) (w0 : World) (n : Nat) (ds : DS) (Q : Post) : Exit → Act → World → Prop := fun e a w =>
  ∃ x s H φ N, e = AX.exitOf x ∧ Q x s H ∧ Inv H0 φ0 N0 w0 n ds s H φ N a w

theorem TRel.put {H : AHeap} {φ : Phi} {N : Addr → Prop} {w : World} {s : Nat → AV} {a : Act} (hT : TRel H φ N w s a) {d : Option Tmp} {r : AV} {x : Value} (hr : RA H φ N w r x) (hs : a.tmps.size = n) :
    TRel H φ N w (aput n s d r) (a.put d x) := by
  intro t
  cases d with
  | none => exact hT t
  | some d =>
    simp only [aput, Act.put]
    by_cases h1 : t = d
    · subst h1
      rw [if_pos rfl]
      by_cases h2 : t < n
      · rw [if_pos h2]
        simpa [Array.getD, Array.size_setIfInBounds, hs, h2] using hr
      · rw [if_neg h2]; exact .top _
    · rw [if_neg h1]
      have := hT t
      by_cases h2 : t < a.tmps.size
      · simpa [Array.getD, Array.size_setIfInBounds, h2, Array.getElem_setIfInBounds_ne _ (Ne.symm h1)] using this
      · simpa [Array.getD, Array.size_setIfInBounds, h2] using this
theorem put_size (a : Act) (d : Option Tmp) (v : Value) : (a.put d v).tmps.size = a.tmps.size := by cases d <;> simp [Act.put]
theorem put_defers (a : Act) (d : Option Tmp) (v : Value) : (a.put d v).defers = a.defers := by cases d <;> rfl

theorem Inv.put {s : Nat → AV} {H H' : AHeap} {φ φ' : Phi} {N N' : Addr → Prop} {a : Act} {w w' : World} (h : Inv H0 φ0 N0 w0 n ds s H φ N a w) (hR : Rel H' φ' N' w') (hS : Since H φ N w H' φ' N' w') {r : AV} {x : Value} (hr : RA H' φ' N' w' r x) (d : Option Tmp) :
    Inv H0 φ0 N0 w0 n ds (aput n s d r) H' φ' N' (a.put d x) w' where
  rel := hR
  tmps := TRel.put (fun t => (h.tmps t).since h.rel hS) hr h.size
  since := h.since.trans hS
  size := (put_size _ _ _).trans h.size
  defers := by rw [put_defers]; exact h.defers.since hS

def FenceOk (F : Fence) : Prop := F = Fence.wide ∨ ∃ l, F = Fence.wide.inRound l
theorem FenceOk.fn {F : Fence} (h : FenceOk F) (f : FuncId) : F.fn f := by
  rcases h with rfl | ⟨l, rfl⟩ <;> exact trivial
theorem FenceOk.none {F : Fence} (h : FenceOk F) : ¬ F.depth.isSome = true := by
  rcases h with rfl | ⟨l, rfl⟩ <;> (intro h; cases h)
theorem FenceOk.calls {F : Fence} (h : FenceOk F) {n : Nat} {f : FuncId} {args : Array Value} {w : World} {R : Ending → World → Prop} (hc : Calls P f args w R) : CallsIn F n P f args w R := by
  rcases h with rfl | ⟨l, rfl⟩ <;> exact callsIn_wide.2 hc
theorem FenceOk.roundIn {F : Fence} (h : FenceOk F) {n : Nat} {l : Nat} {f : FuncId} {tmps : Array Value} {x y : Code} {w : World} {R : Ending → World → Prop} (hc : RoundIn Fence.wide 0 P l f tmps x y w R) : RoundIn F n P l f tmps x y w R := by
  have : RoundIn Fence.wide n P l f tmps x y w R := ⟨hc.1, fun c cs _ => hc.2 c cs (room_wide _)⟩
  rcases h with rfl | ⟨l, rfl⟩ <;> exact this
variable {F : Fence}
theorem astep_ok (hF : FenceOk F) {s : Nat → AV} {H : AHeap} {φ : Phi} {N : Addr → Prop} {a : Act} {w : World} {o : Oper} (hI : Inv H0 φ0 N0 w0 n ds s H φ N a w) {K : AV → AHeap → Prop} {KP : Value → AHeap → Prop} (h : astep P hint s H o K KP)
    {next : Act → World → Prop} {Q : Exit → Act → World → Prop}
    (hn : ∀ r H' φ' N' x w', K r H' → Rel H' φ' N' w' → Since H φ N w H' φ' N' w' → RA H' φ' N' w' r x → next (a.put o.dst x) w')
    (hp : ∀ v H' φ' N' w', KP v H' → Rel H' φ' N' w' → Since H φ N w H' φ' N' w' → Q (.panic [{ v := v, recovered := false }]) a w') : o.wpIn F 0 P a w next Q := by
  have plain : (∀ c, o.op ≠ .defer c) → ∀ r H', K r H' ∧ OpOk P o a w H φ N r H' → o.wpIn F 0 P a w next Q := by
    rintro hd r H' ⟨hK, x, w', φ', N', hrun, hR, hS, hr⟩
    refine ⟨fun f _ => hF.fn f, ?_⟩
    rw [Oper.semAt_eq _ _ _ hd]
    rcases hrun with hrun | ⟨hrun, rfl⟩
    · rw [hrun]; exact hn r H' φ' N' x w' hK hR hS hr
    · rw [hrun]; exact hn r H' φ' N' undef w' hK hR hS hr
  unfold astep at h
  split at h
  · rename_i x ho
    split at h
    · rename_i t u hx
      have hv := closed_ok (aeval_ok hI.tmps x) hx
      refine ⟨fun f _ => hF.fn f, ?_⟩
      rw [Oper.semAt_eq _ _ _ fun c e => by rw [ho] at e; cases e]
      have hrun : (execOp a.eval o).run P w = .halt (.panic (.iface t u)) w := by simp [execOp, ho, hv, Instr.panic, goPanic]
      rw [hrun]
      exact hp _ H φ N w h hI.rel Since.refl
    · exact h.elim
  · rename_i c ho
    split at h
    · rename_i f hc
      split at h
      · rename_i g caps hf
        obtain ⟨res, H', hD, h⟩ := h
        have hfv := aeval_ok hI.tmps f
        rw [hf] at hfv
        generalize hfe : a.eval f = fv at hfv
        cases hfv with
        | fn _ _ vs hl hh =>
        have hargs : RAs H φ N w (c.args.toList.map (aeval s) ++ caps) (c.args.map a.eval ++ vs) := by
          refine ⟨by simp [hl], fun i h1 h2 => ?_⟩
          by_cases hi : i < c.args.size
          · rw [List.getElem_append_left (by simpa using hi), Array.getElem_append_left (by simpa using hi)]
            simp only [List.getElem_map, Array.getElem_map, Array.getElem_toList]
            exact aeval_ok hI.tmps _
          · rw [List.getElem_append_right (by simpa using hi), Array.getElem_append_right (by simpa using hi)]
            simp only [List.length_map, Array.length_toList, Array.size_map]
            exact hh _ (by simp at h1; omega) (by simp at h2; omega)
        have hcall := hD φ N w _ hI.rel hargs
        have hex : ∀ r, (callFunc g (c.args.map a.eval ++ vs)).run P w = r → (execOp a.eval o).run P w = r := by
          intro r hr
          simp [execOp, ho, resolve, hc, hfe, Deferred.ofValue, invoke, hr]
        refine ⟨fun f _ => hF.fn f, ?_⟩
        rw [Oper.semAt_eq _ _ _ fun c e => by rw [ho] at e; cases e]
        rcases hcall with ⟨hrun, hC⟩ | ⟨v, w', hrun, φ', N', hR, hS, hE⟩
        · rw [hex _ hrun]
          refine ⟨fun h => absurd h hF.none, hF.calls (Calls.mono hC ?_)⟩
          rintro e w' ⟨φ', N', hR, hS, hE⟩
          cases res with
          | ok r =>
            cases e with
            | returned v => exact hn r H' φ' N' v w' h hR hS hE
            | panicked ch => exact hE.elim
            | outgrown => exact hE.elim
          | panic v =>
            cases e with
            | returned _ => exact hE.elim
            | panicked ch =>
              cases ch with
              | nil => exact hE.elim
              | cons p ps =>
                cases ps with
                | nil =>
                  have : p = { v := v, recovered := false } := hE
                  subst this
                  exact hp v H' φ' N' w' h hR hS
                | cons _ _ => exact hE.elim
            | outgrown => exact hE.elim
        · rw [hex _ hrun]
          cases res with
          | ok r => exact hn r H' φ' N' v w' h hR hS hE
          | panic _ => exact hE.elim
      · rename_i id hf
        obtain ⟨_, R, ⟨⟨r0, s0, hlp⟩, hY⟩, hK⟩ := h
        have hfv := aeval_ok hI.tmps f
        rw [hf] at hfv
        generalize hfe : a.eval f = fv at hfv
        cases hfv with
        | yld _ B o' ho' hp' =>
        rw [hlp] at ho'; cases ho'
        obtain ⟨c0, hp0⟩ := hp' rfl
        have hargs : RAs H φ N w (c.args.toList.map (aeval s)) (c.args.map a.eval) := by
          refine ⟨by simp, fun i h1 h2 => ?_⟩
          simp only [List.getElem_map, Array.getElem_map, Array.getElem_toList]
          exact aeval_ok hI.tmps _
        obtain ⟨fn, tmps, x, y, hrun, hRd⟩ := hY φ N w _ B c0 hI.rel hargs hp0
        refine ⟨fun f _ => hF.fn f, ?_⟩
        rw [Oper.semAt_eq _ _ _ fun c e => by rw [ho] at e; cases e]
        have hex : (execOp a.eval o).run P w = .ok (.round B fn tmps x y) w := by
          simp [execOp, ho, resolve, hc, hfe, Deferred.ofValue, invoke, hrun]
        rw [hex]
        refine ⟨fun h => absurd h hF.none, hF.roundIn (RoundIn.mono hRd ?_)⟩
        rintro e w' ⟨b, H', φ', N', rfl, hb, hR, hS⟩
        exact hn _ H' φ' N' _ w' (hK b H' hb) hR hS (.d (.v _ rfl))
      · exact h.elim
    · rename_i b hc
      obtain ⟨r, H', hK, hok⟩ := abuiltin_ok hI.rel hI.tmps ho hc h
      exact plain (fun c e => by rw [ho] at e; cases e) r H' ⟨hK, hok⟩
    · exact h.elim
  · have hd : ∀ c, o.op ≠ .defer c := fun c e => by
      rw [e] at h
      exact h
    obtain ⟨r, H', hK, hok⟩ := aop_ok hI.rel hI.tmps h
    exact plain hd r H' ⟨hK, hok⟩

theorem awpOp_ok (hF : FenceOk F) {ops : Array Oper} {Q : Post} {s : Nat → AV} {H : AHeap} {φ : Phi} {N : Addr → Prop} {a : Act} {w : World} {o : Oper} (hI : Inv H0 φ0 N0 w0 n ds s H φ N a w) {K : (Nat → AV) → AHeap → Prop} (h : awpOp P hint n ops Q o K s H)
    {next : Act → World → Prop} (hn : ∀ s' H' φ' N' a' w', K s' H' → Inv H0 φ0 N0 w0 n ds s' H' φ' N' a' w' → next a' w') :
    if Region.wanted o (yielded ops a.tmps) then o.wpIn F 0 P a w next (CPost H0 φ0 N0 w0 n ds Q) else (∀ f, o.about P w a.eval = some f → F.fn f) ∧ next (a.put o.dst undef) w := by
  have step : astep P hint s H o (fun r H' => K (aput n s o.dst r) H') (fun v H' => Q (.panic v) s H') → o.wpIn F 0 P a w next (CPost H0 φ0 N0 w0 n ds Q) := fun h =>
    astep_ok hF hI h (fun r H' φ' N' x w' hK hR hS hr => hn _ _ φ' N' _ _ hK (hI.put hR hS hr _))
      (fun v H' φ' N' w' hq hR hS => ⟨.panic v, s, H', φ', N', rfl, hq, hR, fun t => (hI.tmps t).since hI.rel hS, hI.since.trans hS, hI.size, hI.defers.since hS⟩)
  unfold awpOp at h
  split at h
  · rename_i hg
    have : Region.wanted o (yielded ops a.tmps) = true := by simp [Region.wanted, hg]
    rw [if_pos this]
    exact step h
  · rename_i j want hg
    split at h
    · rename_i b hb
      have hw : Region.wanted o (yielded ops a.tmps) = b := by
        unfold ayield at hb
        split at hb
        · rename_i d hd
          split at hb
          · rename_i hdn
            have := hI.tmps d
            have hlt : d < a.tmps.size := by rw [hI.size]; exact hdn
            simp only [Array.getD, hlt, dif_pos] at this
            have this : RA H φ N w (s d) a.tmps[d] := this
            unfold asW at hb
            split at hb
            · rename_i b' hs
              cases hb
              rw [hs] at this
              have hv := this.closed
              have hv' : a.tmps[d] = .bool b' := hv
              simp [Region.wanted, hg, yielded, hd, hlt, hv']
            · rename_i hs
              cases hb
              rw [hs] at this
              generalize hx : a.tmps[d] = x at this
              cases this with
              | tup cs vs hl h =>
                simp [Region.wanted, hg, yielded, hd, hlt, hx]
            · cases hb
          · cases hb
        · cases hb
      cases b with
      | true =>
        rw [if_pos rfl] at h
        rw [if_pos hw]
        exact step h
      | false =>
        rw [if_neg (by simp)] at h
        rw [if_neg (by simp [hw])]
        exact ⟨fun f _ => hF.fn f, hn _ _ φ N _ _ h (hI.put hI.rel Since.refl (.tup [] #[] rfl fun i h => by simp at h) _)⟩
    · exact h.elim

theorem awpList_ok (hF : FenceOk F) {ops : Array Oper} {Q : Post} : ∀ (l : List Oper) (k : Nat), (∀ j, l[j]? = ops[k + j]?) → ∀ {s : Nat → AV} {H : AHeap} {φ : Phi} {N : Addr → Prop} {a : Act} {w : World}, Inv H0 φ0 N0 w0 n ds s H φ N a w →
    awpList P hint n ops Q l s H → wpOpsIn F 0 P ops (CPost H0 φ0 N0 w0 n ds Q) (List.range' k l.length) a w
  | [], k, hl, s, H, φ, N, a, w, hI, h => ⟨.normal, s, H, φ, N, rfl, h, hI⟩
  | o :: rest, k, hl, s, H, φ, N, a, w, hI, h => by
    have h0 : ops[k]? = some o := by simpa using (hl 0).symm
    simp only [List.length_cons, List.range'_succ]
    rw [wpOpsIn_cons]
    unfold wpOpIn
    simp only [h0]
    exact awpOp_ok hF hI h fun s' H' φ' N' a' w' hK hI' => awpList_ok hF rest (k + 1) (fun j => by have := hl (j + 1); rw [List.getElem?_cons_succ] at this; rw [this]; congr 1; omega) hI' hK

theorem awpAny_ok (hF : FenceOk F) {ops : Array Oper} {Q : Post} : ∀ (fuel : Nat) (listed : Array Bool) {s : Nat → AV} {H : AHeap} {φ : Phi} {N : Addr → Prop} {a : Act} {w : World}, Inv H0 φ0 N0 w0 n ds s H φ N a w →
    awpAny P hint n ops Q fuel listed s H → wpAnyIn F 0 P .any ops (CPost H0 φ0 N0 w0 n ds Q) fuel listed a w
  | 0, listed, s, H, φ, N, a, w, hI, h => ⟨h.1, .normal, s, H, φ, N, rfl, h.2, hI⟩
  | fuel + 1, listed, s, H, φ, N, a, w, hI, h => by
    refine ⟨fun hr => ⟨.normal, s, H, φ, N, rfl, h.1 hr, hI⟩, fun i hi => ?_⟩
    have hi' := h.2 i hi
    unfold wpOpIn
    split at hi'
    · rename_i hop
      simp only [hop]
      exact awpAny_ok hF fuel _ hI hi'
    · rename_i o hop
      simp only [hop]
      exact awpOp_ok hF hI hi' fun s' H' φ' N' a' w' hK hI' => awpAny_ok hF fuel _ hI' hK

theorem Bel.mono {m m' : Nat} {x : AV} (h : Bel m x) (hm : m ≤ m') : Bel m' x := by
  induction h with
  | top => exact .top
  | d => exact .d _
  | cap0 => exact .cap0
  | ptr _ _ _ _ h => exact .ptr _ _ _ _ (by omega)
  | iptr => exact .iptr _
  | sl _ _ _ _ h => exact .sl _ _ _ _ (by omega)
  | agg cs _ ih => exact .agg cs ih
  | tup cs _ ih => exact .tup cs ih
  | fn f cs _ ih => exact .fn f cs ih
  | mp _ h => exact .mp _ (by omega)
  | yld _ h => exact .yld _ (by omega)
theorem RA.bel {H : AHeap} {φ : Phi} {N : Addr → Prop} {w : World} {x : AV} {v : Value} (h : RA H φ N w x v) : Bel H.length x := by
  induction h with
  | top => exact .top
  | d => exact .d _
  | cap0 => exact .cap0
  | ptr id ver i j A o ho => exact .ptr _ _ _ _ (len_of_get ho)
  | iptr => exact .iptr _
  | sl id ver off len A l m o ho => exact .sl _ _ _ _ (len_of_get ho)
  | agg cs vs hl _ ih => exact .agg cs fun i hi => ih i hi (by omega)
  | tup cs vs hl _ ih => exact .tup cs fun i hi => ih i hi (by omega)
  | fn f cs vs hl _ ih => exact .fn f cs fun i hi => ih i hi (by omega)
  | mp id B c kk es ho => exact .mp _ (len_of_get ho)
  | yld id B o ho => exact .yld _ (len_of_get ho)
theorem bel0 {m : Nat} {x : AV} (h : below0 m x = true) : Bel m x := by
  cases x with
  | top => exact .top
  | d => exact .d _
  | cap0 => exact .cap0
  | ptr id _ _ _ => exact .ptr _ _ _ _ (by simpa [below0] using h)
  | iptr => exact .iptr _
  | sl id _ _ _ => exact .sl _ _ _ _ (by simpa [below0] using h)
  | agg => cases h
  | tup => cases h
  | fn f cs =>
    have : cs = [] := by simpa [below0] using h
    subst this
    exact .fn f [] fun i hi => by simp at hi
  | mp id => exact .mp _ (by simpa [below0] using h)
  | yld id => exact .yld _ (by simpa [below0] using h)
theorem bel1 {m : Nat} {x : AV} (h : below1 m x = true) : Bel m x := by
  cases x with
  | agg cs =>
    simp only [below1, List.all_eq_true] at h
    exact .agg cs fun i hi => bel0 (h _ (List.getElem_mem hi))
  | fn f cs =>
    simp only [below1, List.all_eq_true] at h
    exact .fn f cs fun i hi => bel0 (h _ (List.getElem_mem hi))
  | _ => exact bel0 h

def Frozen (H : AHeap) (φ : Phi) (m : Nat) (N : Addr → Prop) : Addr → Prop := fun a =>
  N a ∨ ∃ id B c e k ver es, m ≤ id ∧ H[id]? = some (.arr e k ver es) ∧ φ id = some (B, c) ∧ a.block = B ∧ a.spot = none ∧ a.off < es.length * k

theorem get_take {H : AHeap} {m id : Nat} (h : id < m) : (H.take m)[id]? = H[id]? := by rw [List.getElem?_take, if_pos h]
theorem RD.frozen {H : AHeap} {φ : Phi} {m : Nat} {N : Addr → Prop} {w : World} {x : D} {v : Value} (h : RD N w x v) : RD (Frozen H φ m N) w x v := h.mono (fun _ h => .inl h) fun _ _ _ h => h
theorem RA.take {H : AHeap} {φ : Phi} {N : Addr → Prop} {w : World} {x : AV} {v : Value} (h : RA H φ N w x v) {m : Nat} (hb : Bel m x) : RA (H.take m) φ (Frozen H φ m N) w x v := by
  induction h with
  | top => exact .top _
  | d hd => exact .d hd.frozen
  | cap0 => exact .cap0 _
  | ptr id ver i j A o ho hv hp => cases hb with | ptr _ _ _ _ h => exact .ptr _ _ _ _ _ o (by rw [get_take h]; exact ho) hv hp
  | iptr cs ad c hc hd => exact .iptr cs ad c (fun t ht => ⟨.inl (hc t ht).1, (hc t ht).2⟩) fun t ht => (hd t ht).frozen
  | sl id ver off len A l m' o ho hv hp => cases hb with | sl _ _ _ _ h => exact .sl _ _ _ _ _ _ _ o (by rw [get_take h]; exact ho) hv hp
  | agg cs vs hl _ ih => cases hb with | agg _ hb => exact .agg cs vs hl fun i h1 h2 => ih i h1 h2 (hb i h1)
  | tup cs vs hl _ ih => cases hb with | tup _ hb => exact .tup cs vs hl fun i h1 h2 => ih i h1 h2 (hb i h1)
  | fn f cs vs hl _ ih => cases hb with | fn _ _ hb => exact .fn f cs vs hl fun i h1 h2 => ih i h1 h2 (hb i h1)
  | mp id B c kk es ho hp => cases hb with | mp _ h => exact .mp id B c kk es (by rw [get_take h]; exact ho) hp
  | yld id B o ho hp => cases hb with | yld _ h => exact .yld id B o (by rw [get_take h]; exact ho) hp

theorem frz0_ok {H : AHeap} {φ : Phi} {N : Addr → Prop} {w : World} (hR : Rel H φ N w) (m : Nat) {x : AV} {v : Value} (h : RA H φ N w x v) : RA (H.take m) φ (Frozen H φ m N) w (frz0 H m x) v := by
  cases x with
  | ptr id ver i j =>
    simp only [frz0]
    split
    · rename_i hlt; exact h.take (.ptr _ _ _ _ hlt)
    · exact .top _
  | mp id =>
    simp only [frz0]
    split
    · rename_i hlt; exact h.take (.mp _ hlt)
    · exact .top _
  | yld id =>
    simp only [frz0]
    split
    · rename_i hlt; exact h.take (.yld _ hlt)
    · exact .top _
  | sl id ver off len =>
    simp only [frz0]
    split
    · rename_i hlt; exact h.take (.sl _ _ _ _ hlt)
    · rename_i hge
      split
      · rename_i e k v' es hob
        split
        · rename_i hv
          subst hv
          cases h with
          | sl _ _ _ _ A l m' o ho hv hp =>
          rw [hob] at ho; cases ho
          obtain ⟨rfl, h1, h2⟩ := hp rfl
          simp only [AObj.len] at h1
          by_cases hl0 : l = 0
          · subst hl0
            simp only [List.take_zero]
            exact .d (.nil _ _ (by rcases h2 with ⟨_, _, _, rfl⟩ | ⟨B, c, _, _, rfl, _⟩; exact fun _ => rfl; exact fun h => by cases h))
          rcases h2 with ⟨_, h3, _⟩ | ⟨B, c, h3, h4, rfl, rfl⟩
          · omega
          have hobj := hR.obj id _ hob
          cases hobj with
          | arr _ _ _ _ hk hes hbl =>
          rcases hbl with ⟨g0, _⟩ | ⟨B', cap, cur, g1, g2, g3, g4, g5, g6⟩
          · rw [g0] at h3; cases h3
          have hφ := h3
          obtain ⟨e1, e2⟩ := Prod.mk.inj (Option.some.inj (g1.symm.trans h3))
          subst e1 e2
          have hel : ((es.drop off).take l).length = l := by simp; omega
          have key := RD.list (N := Frozen H φ m N) (w := w) false ((es.drop off).take l) ⟨B', off * k, none⟩ (cap - off) k (fun i j => cur.getD ((off + i) * k + j) undef) (by rw [hel]; omega)
            (fun e he => hes e (List.mem_of_mem_drop (List.mem_of_mem_take he))) (fun i j hi hj => by
              rw [hel] at hi
              have hlt : (off + i) * k + j < es.length * k := place_lt hj (by omega)
              have hlt2 : (off + i) * k + j < cur.size := by have := Nat.mul_le_mul_right k g3; omega
              have hpos : off * k + (i * k + j) = (off + i) * k + j := by rw [Nat.add_mul]; omega
              rw [add_plain, hpos]
              refine ⟨.inr ⟨id, B', cap, e, k, v', es, by omega, hob, hφ, rfl, rfl, hlt⟩, ?_⟩
              simp [World.cell?, g2, Array.getD, hlt2]) (fun i hi j hj => by
              rw [hel] at hi
              simp only [List.getElem_take, List.getElem_drop] at hj ⊢
              obtain ⟨u, hu, hd⟩ := g6 (off + i) (by omega) j hj
              have hget : cur.getD ((off + i) * k + j) undef = u := by
                rw [Array.getD_eq_getD_getElem?, hu]; rfl
              simp only [hget]
              exact hd.frozen)
          rw [hel] at key
          exact .d key
        · exact .top _
      · exact .top _
  | agg => exact .top _
  | tup => exact .top _
  | fn f cs =>
    cases cs with
    | nil => exact h.take (.fn f [] fun i hi => by simp at hi)
    | cons _ _ => exact .top _
  | top => exact .top _
  | d => exact h.take (.d _)
  | cap0 => exact h.take .cap0
  | iptr => exact h.take (.iptr _)
theorem frz1_ok {H : AHeap} {φ : Phi} {N : Addr → Prop} {w : World} (hR : Rel H φ N w) (m : Nat) {x : AV} {v : Value} (h : RA H φ N w x v) : RA (H.take m) φ (Frozen H φ m N) w (frz1 H m x) v := by
  cases x with
  | agg cs =>
    cases h with
    | agg _ vs hl hh => exact .agg _ vs (by simpa using hl) fun i h1 h2 => by simpa using frz0_ok hR m (hh i (by simpa using h1) h2)
  | fn f cs =>
    cases h with
    | fn _ _ vs hl hh => exact .fn f _ vs (by simpa using hl) fun i h1 h2 => by simpa using frz0_ok hR m (hh i (by simpa using h1) h2)
  | _ => exact frz0_ok hR m h
theorem frz_ok {H : AHeap} {φ : Phi} {N : Addr → Prop} {w : World} (hR : Rel H φ N w) (m : Nat) {x : AV} {v : Value} (h : RA H φ N w x v) : RA (H.take m) φ (Frozen H φ m N) w (frz H m x) v := by
  cases x with
  | tup cs =>
    cases h with
    | tup _ vs hl hh => exact .tup _ vs (by simpa using hl) fun i h1 h2 => by simpa using frz1_ok hR m (hh i (by simpa using h1) h2)
  | _ => exact frz1_ok hR m h

theorem Rel.take {H : AHeap} {φ : Phi} {N : Addr → Prop} {w : World} (hR : Rel H φ N w) (m : Nat) (hb : ∀ i o, i < m → H[i]? = some o → (∀ e k ver n cs, o = .box e k ver n cs → ∀ c ∈ cs, Bel m c) ∧ (∀ kk es, o = .mp kk es → ∀ e ∈ es, Bel m e.2) ∧ (∀ m' since seen, o = .iter m' since seen → m' < m) ∧ ∀ r s, o = .lp r s → ∀ t, Bel m (s t)) :
    Rel (H.take m) φ (Frozen H φ m N) w where
  obj id o h := by
    have hlt : id < m := by have := len_of_get h; simp at this; omega
    rw [get_take hlt] at h
    obtain ⟨hb1, hb2, hb3, hb4⟩ := hb id o hlt h
    cases hR.obj id o h with
    | arr e k ver es hk hes hh =>
      refine .arr e k ver es hk hes ?_
      rcases hh with hh | ⟨B, cap, cur, g1, g2, g3, g4, g5, g6⟩
      · exact .inl hh
      · refine .inr ⟨B, cap, cur, g1, g2, g3, g4, g5, fun i hi j hj => ?_⟩
        obtain ⟨c, hc, hd⟩ := g6 i hi j hj
        exact ⟨c, hc, hd.frozen⟩
    | box e k ver n cs B cap cur hk hn hp hbk hc hm hs hh =>
      refine .box e k ver n cs B cap cur hk hn hp hbk hc hm hs fun j hj => ?_
      obtain ⟨c, hc, hd⟩ := hh j hj
      exact ⟨c, hc, hd.take (hb1 e k ver n cs rfl _ (List.getElem_mem hj))⟩
    | mp kk es B cap ents clock hp hbk hs hck hbn hh => exact .mp kk es B cap ents clock hp hbk hs hck hbn fun j hj hj2 => ⟨(hh j hj hj2).1, (hh j hj hj2).2.take (hb2 kk es rfl _ (List.getElem_mem hj))⟩
    | dead ver hp => exact .dead ver hp
    | iter m' since seen B cap bm cm kk es hp hbk hm hpm => exact .iter m' since seen B cap bm cm kk es hp hbk (by rw [get_take (hb3 m' since seen rfl)]; exact hm) hpm
    | lp r s B cap hp hbk hh => exact .lp r s B cap hp hbk fun t => (hh t).take (hb4 r s rfl t)
  inj i j B c c' hi hj h1 h2 := hR.inj i j B c c' (by simp at hi; omega) (by simp at hj; omega) h1 h2
  live a ha := by
    rcases ha with ha | ⟨id, B, c, e, k, ver, es, hid, ho, hp, h1, h2, h3⟩
    · exact hR.live a ha
    · cases hR.obj id _ ho with
      | arr _ _ _ _ hk hes hh =>
      rcases hh with ⟨g0, _⟩ | ⟨B', cap, cur, g1, g2, g3, g4, g5, g6⟩
      · rw [g0] at hp; cases hp
      · rw [g1] at hp; cases hp
        have hlt : a.off < cur.size := by have := Nat.mul_le_mul_right k g3; omega
        exact ⟨cur[a.off], by simp [World.cell?, h1, g2, h2, hlt]⟩
  apart a id B c ha hid hp := by
    simp at hid
    rcases ha with ha | ⟨id', B', c', e, k, ver, es, hid', ho, hp', h1, h2, h3⟩
    · exact hR.apart a id B c ha (by omega) hp
    · intro he
      have := hR.inj id id' B c c' (by omega) (len_of_get ho) hp (by rw [← he, h1]; exact hp')
      omega

theorem Since.take {H : AHeap} {φ : Phi} {N : Addr → Prop} {w : World} (h : Since H0 φ0 N0 w0 H φ N w) (m : Nat) (hm : H0.length ≤ m) (hl : m ≤ H.length) : Since H0 φ0 N0 w0 (H.take m) φ (Frozen H φ m N) w where
  len := by simp; omega
  os := h.os
  tape := h.tape
  output := h.output
  size := h.size
  keep := h.keep
  own id B c hid := h.own id B c (by simp at hid; omega)
  mono a ha := .inl (h.mono a ha)
  compat id o ho := by
    obtain ⟨o', h1, h2⟩ := h.compat id o ho
    exact ⟨o', by rw [get_take (by have := len_of_get ho; omega)]; exact h1, h2⟩
  got a ha := by
    rcases ha with ha | ⟨id, B, c, _, _, _, _, _, ho, hp, h1, _⟩
    · exact h.got a ha
    · rcases Nat.lt_or_ge B w0.heap.size with hl | hl
      · obtain ⟨id0, c0, h2, h3⟩ := h.own id B c (len_of_get ho) hp hl
        exact .inr (.inr ⟨id0, c0, h2, by rw [h1]; exact h3⟩)
      · exact .inr (.inl (by omega))

theorem Weak.ok {s s' : Nat → AV} {H H' : AHeap} (hW : Weak H0 s H s' H') (hR0 : Rel H0 φ0 N0 w0) : ∀ {φ : Phi} {N : Addr → Prop} {a : Act} {w : World}, Inv H0 φ0 N0 w0 n ds s H φ N a w → ∃ φ' N', Inv H0 φ0 N0 w0 n ds s' H' φ' N' a w := by
  induction hW with
  | refl => exact fun h => ⟨_, _, h⟩
  | trunc s H m hm hl hb =>
    intro φ N a w hI
    refine ⟨φ, Frozen H φ m N, hI.rel.take m fun i o hi ho => ?_, fun t => frz_ok hI.rel m (hI.tmps t), hI.since.take m hm hl, hI.size, hI.defers.mono fun D _ _ _ hn => ⟨rfl, fun id c hid => hn id c (by simp at hid; omega)⟩⟩
    rcases hb i o hi ho with h0 | h0
    · have hob := hR0.obj i o h0
      refine ⟨?_, ?_, ?_, ?_⟩
      · rintro e k ver n cs rfl c hc
        cases hob with
        | box _ _ _ _ _ B cap cur hk hn hp hbk hc' hm' hs hh =>
        obtain ⟨j, hj, rfl⟩ := List.mem_iff_getElem.1 hc
        obtain ⟨u, _, hu⟩ := hh j hj
        exact hu.bel.mono hm
      · rintro kk es rfl e he
        cases hob with
        | mp _ _ B cap ents clock hp hbk hs hck hbn hh =>
        obtain ⟨j, hj, rfl⟩ := List.mem_iff_getElem.1 he
        exact (hh j hj (by omega)).2.bel.mono hm
      · rintro m' since seen rfl
        cases hob with
        | iter _ _ _ B cap bm cm kk es hp hbk hmm hpm => exact Nat.lt_of_lt_of_le (len_of_get hmm) hm
      · rintro r s rfl t
        cases hob with
        | lp _ _ B cap hp hbk hh => exact (hh t).bel.mono hm
    · refine ⟨?_, ?_, ?_, ?_⟩
      · rintro e k ver n cs rfl c hc
        simp only [AObj.below, List.all_eq_true] at h0
        exact bel1 (h0 c hc)
      · rintro kk es rfl e he
        simp only [AObj.below, List.all_eq_true] at h0
        exact bel1 (h0 e he)
      · rintro m' since seen rfl
        simpa [AObj.below] using h0
      · rintro r s rfl
        simp [AObj.below] at h0
  | truncB s H m hm hl hb =>
    intro φ N a w hI
    refine ⟨φ, Frozen H φ m N, hI.rel.take m fun i o hi ho => ?_, fun t => frz_ok hI.rel m (hI.tmps t), hI.since.take m hm hl, hI.size, hI.defers.mono fun D _ _ _ hn => ⟨rfl, fun id c hid => hn id c (by simp at hid; omega)⟩⟩
    rcases hb i o hi ho with h0 | h0
    · have hob := hR0.obj i o h0
      refine ⟨?_, ?_, ?_, ?_⟩
      · rintro e k ver n cs rfl c hc
        cases hob with
        | box _ _ _ _ _ B cap cur hk hn hp hbk hc' hm' hs hh =>
        obtain ⟨j, hj, rfl⟩ := List.mem_iff_getElem.1 hc
        obtain ⟨u, _, hu⟩ := hh j hj
        exact hu.bel.mono hm
      · rintro kk es rfl e he
        cases hob with
        | mp _ _ B cap ents clock hp hbk hs hck hbn hh =>
        obtain ⟨j, hj, rfl⟩ := List.mem_iff_getElem.1 he
        exact (hh j hj (by omega)).2.bel.mono hm
      · rintro m' since seen rfl
        cases hob with
        | iter _ _ _ B cap bm cm kk es hp hbk hmm hpm => exact Nat.lt_of_lt_of_le (len_of_get hmm) hm
      · rintro r s rfl t
        cases hob with
        | lp _ _ B cap hp hbk hh => exact (hh t).bel.mono hm
    · exact h0
  | frzBox s H t id e k ver n ds ho hs =>
    intro φ N a w hI
    obtain ⟨φ', N', hR', hS', hv⟩ := Rel.freezeBox hI.rel ho
    refine ⟨φ', N', hR', fun u => ?_, hI.since.trans hS', hI.size, hI.defers.since hS'⟩
    by_cases hu : u = t
    · subst hu
      simp only [if_pos]
      have h1 := hI.tmps u
      rw [hs] at h1
      obtain ⟨ad, h2, h3⟩ := hv _ h1
      rw [h2]
      exact iptr_of_list h3
    · simp only [if_neg hu]
      exact (hI.tmps u).since hI.rel hS'
  | virt s H t e k hk h =>
    intro φ N a w hI
    have hS := Since.virt hI.rel (.arr e k 0 [])
    refine ⟨φ.put H.length none, N, hI.rel.virt e k hk, fun u => ?_, hI.since.trans hS, hI.size, hI.defers.since hS⟩
    by_cases hu : u = t
    · subst hu
      simp only [if_pos]
      obtain ⟨A, hA⟩ := isNone_ok (hI.tmps u) h
      rw [hA]
      exact .sl _ _ _ _ _ _ _ (.arr e k 0 []) (by simp) (Nat.le_refl _) fun _ => ⟨rfl, by simp [AObj.len], .inl ⟨Phi.put_same _ _ _, rfl, rfl, rfl⟩⟩
    · simp only [if_neg hu]
      exact (hI.tmps u).since hI.rel hS
  | imp s s' H h => exact fun hI => ⟨_, _, hI.rel, fun u => h _ _ _ _ _ (hI.tmps u), hI.since, hI.size, hI.defers⟩
  | virtV s H t e k ver hk h =>
    intro φ N a w hI
    have hS := Since.virt hI.rel (.arr e k ver [])
    refine ⟨φ.put H.length none, N, hI.rel.virt e k hk ver, fun u => ?_, hI.since.trans hS, hI.size, hI.defers.since hS⟩
    by_cases hu : u = t
    · subst hu
      simp only [if_pos]
      obtain ⟨A, hA⟩ := isNone_ok (hI.tmps u) h
      rw [hA]
      exact .sl _ _ _ _ _ _ _ (.arr e k ver []) (by simp) (Nat.le_refl _) fun _ => ⟨rfl, by simp [AObj.len], .inl ⟨Phi.put_same _ _ _, rfl, rfl, rfl⟩⟩
    · simp only [if_neg hu]
      exact (hI.tmps u).since hI.rel hS
  | virtBox s H id e0 k0 ver m cs j x e k hk ho hj hx =>
    intro φ N a w hI
    have hS := Since.virt hI.rel (.arr e k 0 [])
    have hR := hI.rel.virt e k hk
    have ho' : (H ++ [AObj.arr e k 0 []])[id]? = some (.box e0 k0 ver m cs) := by rw [List.getElem?_append_left (len_of_get ho)]; exact ho
    have hob := hR.obj id _ ho'
    cases hob with
    | box _ _ _ _ _ B cap cur g1 g2 g3 g4 g5 g6 g7 g8 =>
    have hS2 : Since (H ++ [AObj.arr e k 0 []]) (φ.put H.length none) N w ((H ++ [AObj.arr e k 0 []]).set id (.box e0 k0 ver m (cs.set j (.sl H.length 0 0 0)))) (φ.put H.length none) N w :=
      Since.set ho' g3 rfl rfl rfl (fun kk es he => by cases he) rfl rfl rfl rfl fun _ _ => rfl
    have hset : (H ++ [AObj.arr e k 0 []]).set id (.box e0 k0 ver m (cs.set j (.sl H.length 0 0 0))) = H.set id (.box e0 k0 ver m (cs.set j (.sl H.length 0 0 0))) ++ [.arr e k 0 []] := List.set_append_left _ _ (len_of_get ho)
    rw [← hset]
    refine ⟨φ.put H.length none, N, hR.set ho' g3 hS2 (fun _ _ => rfl) ?_, fun u => ((hI.tmps u).since hI.rel hS).since hR hS2, (hI.since.trans hS).trans hS2, hI.size, (hI.defers.since hS).since hS2⟩
    refine .box e0 k0 ver m _ B cap cur g1 (by simpa using g2) g3 g4 g5 g6 g7 fun i hi => ?_
    simp only [List.length_set] at hi
    obtain ⟨c, hc, hd⟩ := g8 i hi
    refine ⟨c, hc, ?_⟩
    by_cases he : i = j
    · subst he
      simp only [List.getElem_set_self]
      rw [List.getElem?_eq_getElem (by simpa using hi)] at hj
      cases hj
      obtain ⟨A, hA⟩ := isNone_ok hd hx
      rw [hA]
      refine .sl _ _ _ _ _ _ _ (.arr e k 0 []) ?_ (Nat.le_refl _) fun _ => ⟨rfl, by simp [AObj.len], .inl ⟨Phi.put_same _ _ _, rfl, rfl, rfl⟩⟩
      rw [List.getElem?_set_ne (by have := len_of_get ho; omega)]
      simp
    · rw [List.getElem_set_ne (Ne.symm he)]
      exact hd.since hR hS2
  | trans _ _ ih1 ih2 =>
    intro φ N a w hI
    obtain ⟨φ1, N1, h1⟩ := ih1 hI
    exact ih2 h1

theorem Rel.obel {H : AHeap} {φ : Phi} {N : Addr → Prop} {w : World} (hR : Rel H φ N w) : HBel H.length H := by
  intro i o ho
  have hob := hR.obj i o ho
  refine ⟨?_, ?_, ?_, ?_⟩
  · rintro e k ver n cs rfl c hc
    cases hob with
    | box _ _ _ _ _ B cap cur hk hn hp hbk hc' hm' hs hh =>
    obtain ⟨j, hj, rfl⟩ := List.mem_iff_getElem.1 hc
    obtain ⟨u, _, hu⟩ := hh j hj
    exact hu.bel
  · rintro kk es rfl e he
    cases hob with
    | mp _ _ B cap ents clock hp hbk hs hck hbn hh =>
    obtain ⟨j, hj, rfl⟩ := List.mem_iff_getElem.1 he
    exact (hh j hj (by omega)).2.bel
  · rintro m' since seen rfl
    cases hob with
    | iter _ _ _ B cap bm cm kk es hp hbk hmm hpm => exact len_of_get hmm
  · rintro r s rfl t
    cases hob with
    | lp _ _ B cap hp hbk hh => exact (hh t).bel
/-- Only the part ahead is looked at. -/
theorem RA.pre {H T : AHeap} {φ : Phi} {N : Addr → Prop} {w : World} {x : AV} {v : Value} (h : RA (H ++ T) φ N w x v) (hb : Bel H.length x) : RA H φ N w x v := by
  have g : ∀ {id : Nat} {o : AObj}, id < H.length → (H ++ T)[id]? = some o → H[id]? = some o := fun hl h => by rwa [List.getElem?_append_left hl] at h
  induction h with
  | top => exact .top _
  | d hd => exact .d hd
  | cap0 => exact .cap0 _
  | ptr id ver i j A o ho hv hp => cases hb with | ptr _ _ _ _ h => exact .ptr _ _ _ _ _ o (g h ho) hv hp
  | iptr cs ad c hc hd => exact .iptr cs ad c hc hd
  | sl id ver off len A l m' o ho hv hp => cases hb with | sl _ _ _ _ h => exact .sl _ _ _ _ _ _ _ o (g h ho) hv hp
  | agg cs vs hl _ ih => cases hb with | agg _ hb => exact .agg cs vs hl fun i h1 h2 => ih i h1 h2 (hb i h1)
  | tup cs vs hl _ ih => cases hb with | tup _ hb => exact .tup cs vs hl fun i h1 h2 => ih i h1 h2 (hb i h1)
  | fn f cs vs hl _ ih => cases hb with | fn _ _ hb => exact .fn f cs vs hl fun i h1 h2 => ih i h1 h2 (hb i h1)
  | mp id B c kk es ho hp => cases hb with | mp _ h => exact .mp id B c kk es (g h ho) hp
  | yld id B o ho hp => cases hb with | yld _ h => exact .yld id B o (g h ho) hp
theorem Rel.pre {H T : AHeap} {φ : Phi} {N : Addr → Prop} {w : World} (hR : Rel (H ++ T) φ N w) (hb : HBel H.length H) : Rel H φ N w where
  obj id o h := by
    have h' : (H ++ T)[id]? = some o := by rw [List.getElem?_append_left (len_of_get h)]; exact h
    obtain ⟨hb1, hb2, hb3, hb4⟩ := hb id o h
    cases hR.obj id o h' with
    | arr e k ver es hk hes hh => exact .arr e k ver es hk hes hh
    | box e k ver n cs B cap cur hk hn hp hbk hc hm hs hh =>
      refine .box e k ver n cs B cap cur hk hn hp hbk hc hm hs fun j hj => ?_
      obtain ⟨c, hc, hd⟩ := hh j hj
      exact ⟨c, hc, hd.pre (hb1 e k ver n cs rfl _ (List.getElem_mem hj))⟩
    | mp kk es B cap ents clock hp hbk hs hck hbn hh => exact .mp kk es B cap ents clock hp hbk hs hck hbn fun j hj hj2 => ⟨(hh j hj hj2).1, (hh j hj hj2).2.pre (hb2 kk es rfl _ (List.getElem_mem hj))⟩
    | dead ver hp => exact .dead ver hp
    | iter m' since seen B cap bm cm kk es hp hbk hm hpm => exact .iter m' since seen B cap bm cm kk es hp hbk (by rwa [List.getElem?_append_left (hb3 m' since seen rfl)] at hm) hpm
    | lp r s B cap hp hbk hh => exact .lp r s B cap hp hbk fun t => (hh t).pre (hb4 r s rfl t)
  inj i j B c c' hi hj h1 h2 := hR.inj i j B c c' (by simp; omega) (by simp; omega) h1 h2
  live := hR.live
  apart a id B c ha hid hp := hR.apart a id B c ha (by simp; omega) hp
theorem RA.ext {H T : AHeap} {φ φ' : Phi} {N : Addr → Prop} {w : World} {x : AV} {v : Value} (h : RA H φ N w x v) (hp' : ∀ i, i < H.length → φ' i = φ i) : RA (H ++ T) φ' N w x v := by
  have g : ∀ {id : Nat} {o : AObj}, H[id]? = some o → (H ++ T)[id]? = some o := fun h => by rw [List.getElem?_append_left (len_of_get h)]; exact h
  induction h with
  | top => exact .top _
  | d hd => exact .d hd
  | cap0 => exact .cap0 _
  | ptr id ver i j A o ho hv hp => exact .ptr _ _ _ _ _ o (g ho) hv (by rw [hp' _ (len_of_get ho)]; exact hp)
  | iptr cs ad c hc hd => exact .iptr cs ad c hc hd
  | sl id ver off len A l m' o ho hv hp => exact .sl _ _ _ _ _ _ _ o (g ho) hv (by rw [hp' _ (len_of_get ho)]; exact hp)
  | agg cs vs hl _ ih => exact .agg cs vs hl ih
  | tup cs vs hl _ ih => exact .tup cs vs hl ih
  | fn f cs vs hl _ ih => exact .fn f cs vs hl ih
  | mp id B c kk es ho hp => exact .mp id B c kk es (g ho) (by rw [hp' _ (len_of_get ho)]; exact hp)
  | yld id B o ho hp => exact .yld id B o (g ho) (by rw [hp' _ (len_of_get ho)]; exact hp)
theorem RObj.ext {H T : AHeap} {φ φ' : Phi} {N : Addr → Prop} {w : World} {id : Nat} {o : AObj} (h : RObj H φ N w id o) (hid : id < H.length) (hp' : ∀ i, i < H.length → φ' i = φ i) : RObj (H ++ T) φ' N w id o := by
  have e := hp' id hid
  cases h with
  | arr e1 k ver es hk hes hh => exact .arr e1 k ver es hk hes (by rw [e]; exact hh)
  | box e1 k ver n cs B cap cur hk hn hp hbk hc hm hs hh =>
    refine .box e1 k ver n cs B cap cur hk hn (e.trans hp) hbk hc hm hs fun j hj => ?_
    obtain ⟨c, hc, hd⟩ := hh j hj
    exact ⟨c, hc, hd.ext hp'⟩
  | mp kk es B cap ents clock hp hbk hs hck hbn hh => exact .mp kk es B cap ents clock (e.trans hp) hbk hs hck hbn fun j hj hj2 => ⟨(hh j hj hj2).1, (hh j hj hj2).2.ext hp'⟩
  | dead ver hp => exact .dead ver (e.trans hp)
  | iter m' since seen B cap bm cm kk es hp hbk hm hpm => exact .iter m' since seen B cap bm cm kk es (e.trans hp) hbk (by rw [List.getElem?_append_left (len_of_get hm)]; exact hm) ((hp' _ (len_of_get hm)).trans hpm)
  | lp r s B cap hp hbk hh => exact .lp r s B cap (e.trans hp) hbk fun t => (hh t).ext hp'
/-- A block that is nobody's has turned. -/
theorem RA.off {H : AHeap} {φ : Phi} {N : Addr → Prop} {w w' : World} {x : AV} {v : Value} (h : RA H φ N w x v) (hc : ∀ a v, N a → w.cell? a = some v → w'.cell? a = some v) : RA H φ N w' x v := by
  induction h with
  | top => exact .top _
  | d hd => exact .d (hd.mono (fun _ h => h) hc)
  | cap0 => exact .cap0 _
  | ptr id ver i j A o ho hv hp => exact .ptr _ _ _ _ _ o ho hv hp
  | iptr cs ad c hn hd => exact .iptr cs ad c (fun t ht => ⟨(hn t ht).1, hc _ _ (hn t ht).1 (hn t ht).2⟩) fun t ht => (hd t ht).mono (fun _ h => h) hc
  | sl id ver off len A l m' o ho hv hp => exact .sl _ _ _ _ _ _ _ o ho hv hp
  | agg cs vs hl _ ih => exact .agg cs vs hl ih
  | tup cs vs hl _ ih => exact .tup cs vs hl ih
  | fn f cs vs hl _ ih => exact .fn f cs vs hl ih
  | mp id B c kk es ho hp => exact .mp id B c kk es ho hp
  | yld id B o ho hp => exact .yld id B o ho hp
theorem Rel.off {H : AHeap} {φ : Phi} {N : Addr → Prop} {w w' : World} (hR : Rel H φ N w) (hb : ∀ id B c, id < H.length → φ id = some (B, c) → w'.heap[B]? = w.heap[B]?) (hc : ∀ a v, N a → w.cell? a = some v → w'.cell? a = some v) : Rel H φ N w' where
  obj id o h := by
    have hl := len_of_get h
    cases hR.obj id o h with
    | arr e k ver es hk hes hh =>
      refine .arr e k ver es hk hes ?_
      rcases hh with hh | ⟨B, cap, cur, g1, g2, g3, g4, g5, g6⟩
      · exact .inl hh
      · refine .inr ⟨B, cap, cur, g1, (hb id B cap hl g1).trans g2, g3, g4, g5, fun i hi j hj => ?_⟩
        obtain ⟨c, h1, h2⟩ := g6 i hi j hj
        exact ⟨c, h1, h2.mono (fun _ h => h) hc⟩
    | box e1 k ver n cs B cap cur hk hn hp hbk hc' hm hs hh =>
      refine .box e1 k ver n cs B cap cur hk hn hp ((hb id B cap hl hp).trans hbk) hc' hm hs fun j hj => ?_
      obtain ⟨c, h1, hd⟩ := hh j hj
      exact ⟨c, h1, hd.off hc⟩
    | mp kk es B cap ents clock hp hbk hs hck hbn hh => exact .mp kk es B cap ents clock hp ((hb id B cap hl hp).trans hbk) hs hck hbn fun j hj hj2 => ⟨(hh j hj hj2).1, (hh j hj hj2).2.off hc⟩
    | dead ver hp => exact .dead ver hp
    | iter m' since seen B cap bm cm kk es hp hbk hm hpm => exact .iter m' since seen B cap bm cm kk es hp ((hb id B cap hl hp).trans hbk) hm hpm
    | lp r s B cap hp hbk hh => exact .lp r s B cap hp ((hb id B cap hl hp).trans hbk) fun t => (hh t).off hc
  inj := hR.inj
  live a ha := by obtain ⟨v, hv⟩ := hR.live a ha; exact ⟨v, hc a v ha hv⟩
  apart := hR.apart
/-- A block that holds no cells is no part of what never changes. -/
theorem Rel.put {H : AHeap} {φ : Phi} {N : Addr → Prop} {w : World} (hR : Rel H φ N w) {X : Nat} {o o' : Obj} (hX : w.heap[X]? = some o) (ho : ∀ cs e fr, o ≠ .cells cs e fr) (hn : ∀ id c, id < H.length → φ id ≠ some (X, c)) :
    Rel H φ N (w.putObj X o') ∧ ∀ x v, RA H φ N w x v → RA H φ N (w.putObj X o') x v := by
  have hc : ∀ a v, N a → w.cell? a = some v → (w.putObj X o').cell? a = some v := by
    intro a v ha hv
    have hne : a.block ≠ X := by
      intro e
      subst e
      unfold World.cell? at hv
      rw [hX] at hv
      cases o <;> first | cases hv | exact absurd rfl (ho _ _ _)
    rw [World.cell?_of_block (World.putObj_heap_other hne)]
    exact hv
  exact ⟨hR.off (fun id B c hid hp => World.putObj_heap_other fun e => hn id c hid (by rw [← e]; exact hp)) hc, fun x v h => h.off hc⟩
/-- 'Since', but for one block. -/
structure SinceX (X : Nat) (H0 : AHeap) (φ0 : Phi) (N0 : Addr → Prop) (w0 : World) (H : AHeap) (φ : Phi) (N : Addr → Prop) (w : World) : Prop where
  len : H0.length ≤ H.length
  os : w.os = w0.os
  tape : w.tape = w0.tape
  output : w.output = w0.output
  size : w0.heap.size ≤ w.heap.size
  keep : ∀ k, k < w0.heap.size → k ≠ X → (∀ id c, id < H0.length → φ0 id ≠ some (k, c)) → w.heap[k]? = w0.heap[k]?
  own : ∀ id B c, id < H.length → φ id = some (B, c) → B < w0.heap.size → ∃ id0 c0, id0 < H0.length ∧ φ0 id0 = some (B, c0)
  mono : ∀ a, N0 a → N a
  compat : ∀ id o, H0[id]? = some o → ∃ o', H[id]? = some o' ∧ o'.k = o.k ∧ o.ver ≤ o'.ver ∧ (o.ver = o'.ver → φ id = φ0 id ∧ o.len ≤ o'.len) ∧ ∀ kk es, o = .mp kk es → φ id = φ0 id ∧ ∃ es', o' = .mp kk es'
  got : ∀ a, N a → N0 a ∨ w0.heap.size ≤ a.block ∨ ∃ id c, id < H0.length ∧ φ0 id = some (a.block, c)
theorem Since.x {H H' : AHeap} {φ φ' : Phi} {N N' : Addr → Prop} {w w' : World} (h : Since H φ N w H' φ' N' w') (X : Nat) : SinceX X H φ N w H' φ' N' w' :=
  ⟨h.len, h.os, h.tape, h.output, h.size, fun k hk _ => h.keep k hk, h.own, h.mono, h.compat, h.got⟩
theorem SinceX.trans {X : Nat} {H0 H1 H2 : AHeap} {φ0 φ1 φ2 : Phi} {N0 N1 N2 : Addr → Prop} {w0 w1 w2 : World} (h : SinceX X H0 φ0 N0 w0 H1 φ1 N1 w1) (g : SinceX X H1 φ1 N1 w1 H2 φ2 N2 w2) : SinceX X H0 φ0 N0 w0 H2 φ2 N2 w2 where
  len := Nat.le_trans h.len g.len
  os := g.os.trans h.os
  tape := g.tape.trans h.tape
  output := g.output.trans h.output
  size := Nat.le_trans h.size g.size
  keep k hk hx hn := by
    rw [g.keep k (Nat.lt_of_lt_of_le hk h.size) hx ?_, h.keep k hk hx hn]
    intro id c hid hc
    obtain ⟨id0, c0, hi0, h0⟩ := h.own id k c hid hc hk
    exact hn id0 c0 hi0 h0
  own id _ c hid hc hB := by
    obtain ⟨id1, c1, hi1, h1⟩ := g.own id _ c hid hc (Nat.lt_of_lt_of_le hB h.size)
    exact h.own id1 _ c1 hi1 h1 hB
  mono a ha := g.mono a (h.mono a ha)
  compat id o ho := by
    obtain ⟨o1, ho1, hk1, hv1, hq1, hm1⟩ := h.compat id o ho
    obtain ⟨o2, ho2, hk2, hv2, hq2, hm2⟩ := g.compat id o1 ho1
    refine ⟨o2, ho2, hk2.trans hk1, Nat.le_trans hv1 hv2, fun he => ?_, fun kk es he => ?_⟩
    · obtain ⟨p1, l1⟩ := hq1 (by omega)
      obtain ⟨p2, l2⟩ := hq2 (by omega)
      exact ⟨p2.trans p1, Nat.le_trans l1 l2⟩
    · obtain ⟨p1, es1, e1⟩ := hm1 kk es he
      obtain ⟨p2, es2, e2⟩ := hm2 kk es1 e1
      exact ⟨p2.trans p1, es2, e2⟩
  got a ha := by
    rcases g.got a ha with h1 | h1 | ⟨id, c, hid, hp⟩
    · exact h.got a h1
    · exact .inr (.inl (Nat.le_trans h.size h1))
    · rcases Nat.lt_or_ge a.block w0.heap.size with hl | hl
      · obtain ⟨id0, c0, h2, h3⟩ := h.own id _ c hid hp hl
        exact .inr (.inr ⟨id0, c0, h2, h3⟩)
      · exact .inr (.inl hl)
theorem SinceX.put {X : Nat} {H H' : AHeap} {φ φ' : Phi} {N N' : Addr → Prop} {w w' : World} (h : SinceX X H φ N w H' φ' N' w') (o : Obj) : SinceX X H φ N w H' φ' N' (w'.putObj X o) where
  len := h.len
  os := h.os
  tape := h.tape
  output := h.output
  size := by rw [World.putObj_size]; exact h.size
  keep k hk hx hn := (World.putObj_heap_other hx).trans (h.keep k hk hx hn)
  own := h.own
  mono := h.mono
  compat := h.compat
  got := h.got
theorem Since.both {H H' : AHeap} {φ φ' : Phi} {N N' : Addr → Prop} {w w' : World} {X : Nat} (h : Since H φ N w H' φ' N' w') (hX : X < w.heap.size) (o : Obj) : Since H φ N (w.putObj X o) H' φ' N' (w'.putObj X o) where
  len := h.len
  os := h.os
  tape := h.tape
  output := h.output
  size := by simp only [World.putObj_size]; exact h.size
  keep k hk hn := by
    rw [World.putObj_size] at hk
    by_cases e : k = X
    · subst e
      rw [World.putObj_heap_same hX, World.putObj_heap_same (Nat.lt_of_lt_of_le hX h.size)]
    · rw [World.putObj_heap_other e, World.putObj_heap_other e]
      exact h.keep k hk hn
  own id B c hid hp hB := h.own id B c hid hp (by rw [World.putObj_size] at hB; exact hB)
  mono := h.mono
  compat := h.compat
  got a ha := by rw [World.putObj_size]; exact h.got a ha
theorem Since.xput {H H' : AHeap} {φ φ' : Phi} {N N' : Addr → Prop} {w w' : World} {X : Nat} {o : Obj} (h : Since H φ N (w.putObj X o) H' φ' N' w') : SinceX X H φ N w H' φ' N' w' where
  len := h.len
  os := h.os
  tape := h.tape
  output := h.output
  size := by have := h.size; rwa [World.putObj_size] at this
  keep k hk hx hn := (h.keep k (by rw [World.putObj_size]; exact hk) hn).trans (World.putObj_heap_other hx)
  own id B c hid hp hB := h.own id B c hid hp (by rw [World.putObj_size]; exact hB)
  mono := h.mono
  compat := h.compat
  got a ha := by have := h.got a ha; rwa [World.putObj_size] at this
theorem SinceX.since {X : Nat} {H H' : AHeap} {φ φ' : Phi} {N N' : Addr → Prop} {w w' : World} (h : SinceX X H φ N w H' φ' N' w') (hX : w.heap.size ≤ X) : Since H φ N w H' φ' N' w' :=
  ⟨h.len, h.os, h.tape, h.output, h.size, fun k hk hn => h.keep k hk (by omega) hn, h.own, h.mono, h.compat, h.got⟩
theorem Since.pre {H0 H T : AHeap} {φ0 φ : Phi} {N0 N : Addr → Prop} {w0 w : World} (h : Since H0 φ0 N0 w0 (H ++ T) φ N w) (hl : H0.length ≤ H.length) : Since H0 φ0 N0 w0 H φ N w where
  len := hl
  os := h.os
  tape := h.tape
  output := h.output
  size := h.size
  keep := h.keep
  own id B c hid := h.own id B c (by simp; omega)
  mono := h.mono
  compat id o ho := by
    obtain ⟨o', h1, h2⟩ := h.compat id o ho
    exact ⟨o', by rwa [List.getElem?_append_left (by have := len_of_get ho; omega)] at h1, h2⟩
  got := h.got
/-- What was done to a part of the heap, beside a loop's record and what else there is. -/
theorem frame_ok {Hk H3 T : AHeap} {φ φ3 : Phi} {N N3 : Addr → Prop} {w w4 : World} {r r4 : Loop} {s : Nat → AV} {B c : Nat} (hR : Rel (Hk ++ .lp r s :: T) φ N w) (hB : φ Hk.length = some (B, c)) (hX : SinceX B Hk φ N w H3 φ3 N3 w4)
    (hR3 : Rel H3 φ3 N3 w4) (hl : H3.length = Hk.length) (hb : w4.heap[B]? = some (.loop r4)) (ht : r4.tmps = r.tmps) :
    ∃ φ', Rel (H3 ++ .lp r4 s :: T) φ' N3 w4 ∧ Since (Hk ++ .lp r s :: T) φ N w (H3 ++ .lp r4 s :: T) φ' N3 w4 := by
  let φ' : Phi := fun i => if i < Hk.length then φ3 i else φ i
  have e1 : ∀ i, i < Hk.length → φ' i = φ3 i := fun i hi => if_pos hi
  have e2 : ∀ i, Hk.length ≤ i → φ' i = φ i := fun i hi => if_neg (by omega)
  have hll : (H3 ++ AObj.lp r4 s :: T).length = (Hk ++ AObj.lp r s :: T).length := by simp [hl]
  have hlp : (Hk ++ AObj.lp r s :: T)[Hk.length]? = some (.lp r s) := by simp
  have hml : Hk.length < (Hk ++ AObj.lp r s :: T).length := by simp
  have getT : ∀ i o, Hk.length < i → (Hk ++ AObj.lp r s :: T)[i]? = some o → (H3 ++ AObj.lp r4 s :: T)[i]? = some o := by
    intro i o hi h
    rw [List.getElem?_append_right (by omega)] at h ⊢
    rw [hl]
    rw [show i - Hk.length = (i - Hk.length - 1) + 1 from by omega] at h ⊢
    exact h
  have getT' : ∀ i o, Hk.length < i → (H3 ++ AObj.lp r4 s :: T)[i]? = some o → (Hk ++ AObj.lp r s :: T)[i]? = some o := by
    intro i o hi h
    rw [List.getElem?_append_right (by omega)] at h ⊢
    rw [hl] at h
    rw [show i - Hk.length = (i - Hk.length - 1) + 1 from by omega] at h ⊢
    exact h
  have hS : Since (Hk ++ .lp r s :: T) φ N w (H3 ++ .lp r4 s :: T) φ' N3 w4 := by
    refine ⟨by rw [hll]; exact Nat.le_refl _, hX.os, hX.tape, hX.output, hX.size, fun k hk hn => ?_, fun id B' c' hid hp hlt => ?_, hX.mono, fun id o ho => ?_, fun a ha => ?_⟩
    · exact hX.keep k hk (fun e => hn _ c hml (by rw [e]; exact hB)) fun id c' hid => hn id c' (by simp; omega)
    · rcases Nat.lt_or_ge id Hk.length with hi | hi
      · rw [e1 id hi] at hp
        obtain ⟨id0, c0, h1, h2⟩ := hX.own id B' c' (by omega) hp hlt
        exact ⟨id0, c0, by simp; omega, h2⟩
      · rw [e2 id hi] at hp
        exact ⟨id, c', by omega, hp⟩
    · rcases Nat.lt_trichotomy id Hk.length with hi | hi | hi
      · rw [List.getElem?_append_left hi] at ho
        obtain ⟨o', h1, h2⟩ := hX.compat id o ho
        exact ⟨o', by rw [List.getElem?_append_left (by omega)]; exact h1, by rw [e1 id hi]; exact h2⟩
      · subst hi
        rw [hlp] at ho; cases ho
        exact ⟨.lp r4 s, by rw [← hl]; simp, rfl, Nat.le_refl _, fun _ => ⟨e2 _ (Nat.le_refl _), Nat.le_refl _⟩, fun kk es he => by cases he⟩
      · exact ⟨o, getT id o hi ho, rfl, Nat.le_refl _, fun _ => ⟨e2 _ (by omega), Nat.le_refl _⟩, fun kk es he => ⟨e2 _ (by omega), es, he⟩⟩
    · rcases hX.got a ha with h1 | h1 | ⟨id, c', h1, h2⟩
      · exact .inl h1
      · exact .inr (.inl h1)
      · exact .inr (.inr ⟨id, c', by simp; omega, h2⟩)
  -- whose block lies where
  have own3 : ∀ i B' c', i < Hk.length → φ3 i = some (B', c') → ∀ j c'', Hk.length ≤ j → j < (Hk ++ AObj.lp r s :: T).length → φ j ≠ some (B', c'') := by
    intro i B' c' hi hp j c'' hj hj2 hpj
    obtain ⟨id0, c0, h1, h2⟩ := hX.own i B' c' (by omega) hp (hR.block_lt hj2 hpj)
    have := hR.inj id0 j B' c0 c'' (by simp; omega) hj2 h2 hpj
    omega
  refine ⟨φ', ⟨fun id o ho => ?_, fun i j B' c1 c2 hi hj h1 h2 => ?_, hR3.live, fun a id B' c' ha hid hp => ?_⟩, hS⟩
  · rcases Nat.lt_trichotomy id Hk.length with hi | hi | hi
    · rw [List.getElem?_append_left (by omega)] at ho
      exact (hR3.obj id o ho).ext (by omega) fun i hi => e1 i (by omega)
    · subst hi
      have ho' : (H3 ++ AObj.lp r4 s :: T)[Hk.length]? = some (.lp r4 s) := by rw [← hl]; simp
      rw [ho'] at ho; cases ho
      cases hR.obj _ _ hlp with
      | lp _ _ B' c' hp' hb' hh =>
      rw [hB] at hp'; cases hp'
      exact .lp r4 s B c ((e2 _ (Nat.le_refl _)).trans hB) hb fun t => by rw [ht]; exact (hh t).since hR hS
    · have h0 := getT' id o hi ho
      refine (hR.obj id o h0).keep hR hS (e2 id (by omega)) fun B' c' hp => ?_
      refine hX.keep B' (hR.block_lt (len_of_get h0) hp) (fun e => ?_) fun id0 c0 h1 h2 => ?_
      · subst e
        have := hR.inj id Hk.length B' c' c (len_of_get h0) hml hp hB
        omega
      · have := hR.inj id id0 B' c' c0 (len_of_get h0) (by simp; omega) hp h2
        omega
  · rw [hll] at hi hj
    rcases Nat.lt_or_ge i Hk.length with a | a <;> rcases Nat.lt_or_ge j Hk.length with b | b
    · rw [e1 i a] at h1; rw [e1 j b] at h2
      exact hR3.inj i j B' c1 c2 (by omega) (by omega) h1 h2
    · rw [e1 i a] at h1; rw [e2 j b] at h2
      exact absurd h2 (own3 i B' c1 a h1 j c2 b hj)
    · rw [e2 i a] at h1; rw [e1 j b] at h2
      exact absurd h1 (own3 j B' c2 b h2 i c1 a hi)
    · rw [e2 i a] at h1; rw [e2 j b] at h2
      exact hR.inj i j B' c1 c2 hi hj h1 h2
  · rw [hll] at hid
    rcases Nat.lt_or_ge id Hk.length with hi | hi
    · rw [e1 id hi] at hp
      exact hR3.apart a id B' c' ha (by omega) hp
    · rw [e2 id hi] at hp
      intro e
      rcases hX.got a ha with h1 | h1 | ⟨id0, c0, h1, h2⟩
      · exact hR.apart a id B' c' h1 hid hp e
      · have := hR.block_lt hid hp
        omega
      · rw [e] at h2
        have := hR.inj id id0 B' c' c0 hid (by simp; omega) hp h2
        omega
theorem rounds_mono {P : Program} {F : Fence} {c : Code} {Q : Exit → Act → World → Prop} : ∀ (m n : Nat), m ≤ n → ∀ a w, Code.roundsIn F 0 P c Q m a w → Code.roundsIn F 0 P c Q n a w
  | 0, _, _, _, _, h => h.elim
  | m + 1, 0, hle, _, _, _ => by omega
  | m + 1, n + 1, hle, a, w, h => wpIn_mono h fun e a w hq => by
    cases e with
    | normal => exact rounds_mono m n (by omega) a w hq
    | _ => exact hq
theorem wp_loop_ind {P : Program} {F : Fence} {c : Code} {Q : Exit → Act → World → Prop} (J : Nat → Act → World → Prop) {n : Nat} {a : Act} {w : World}
    (round : ∀ n a w, J n a w → c.wpIn F 0 P (Exit.then (fun a' w' => ∃ m, m < n ∧ J m a' w') Q) a w) (h0 : J n a w) : (Code.loop c).wpIn F 0 P Q a w := by
  refine wpIn_loop_rounds (n + 1) ?_
  induction n using Nat.strongRecOn generalizing a w with
  | _ n ih =>
    rw [roundsIn_succ]
    refine wpIn_mono (round n a w h0) fun e a' w' hq => ?_
    cases e with
    | normal =>
      obtain ⟨m, hm, hJ⟩ := hq
      exact rounds_mono (m + 1) n (by omega) _ _ (ih m hm hJ)
    | _ => exact hq
theorem wpIn_scope {P : Program} {F : Fence} {c : Code} {Q : Exit → Act → World → Prop} {a : Act} {w : World} (h : c.wpIn F 0 P (Exit.noGoto Q) a w) : (Code.scope c).wpIn F 0 P Q a w := by
  intro b k cs hro hb hr
  have s1 : step P (lone (b.atR a (.code (.scope c) :: k)) cs w) = .next (lone (b.atR a (.code c :: .inScope c :: k)) cs w) := step_lone_go (by simp [stepG, stepG.exec, Frame.atR])
  have s2 : ∀ (a : Act) (w : World), step P (lone (b.atR a (.inScope c :: k)) cs w) = .next (lone (b.atR a k) cs w) := fun a w => step_lone_go (by simp [stepG, stepG.exec, Frame.atR])
  have f1 : (lone (b.atR a (.code (.scope c) :: k)) cs w).fenced P F := fenced_calm (fr := b.atR a (.code (.scope c) :: k)) hb hr rfl
  obtain ⟨e, a₁, w₁, hq, harr⟩ := h b (.inScope c :: k) cs hro hb hr
  cases e with
  | normal => exact ⟨.normal, a₁, w₁, hq, .head f1 s1 (StepsIn.trans harr (.one (fenced_calm (fr := b.atR a₁ (.inScope c :: k)) hb hr rfl) (s2 _ _)))⟩
  | exit id => exact ⟨.exit id, a₁, w₁, hq, .of_steps (.one f1 s1) ⟨fun k' hk => harr.1 k' (by simp [exitTo, hk]), fun hr' hk => harr.2 hr' (by simp [exitTo, hk])⟩⟩
  | goto l => exact hq.elim
  | ret => exact ⟨.ret, a₁, w₁, hq, .of_steps (.one f1 s1) (show ArrivesIn _ P _ b k cs (.ret) a₁ w₁ from harr)⟩
  | panic ch => exact ⟨.panic ch, a₁, w₁, hq, .of_steps (.one f1 s1) (show ArrivesIn _ P _ b k cs (.panic ch) a₁ w₁ from harr)⟩
  | outgrown => exact ⟨.outgrown, a₁, w₁, hq, .of_steps (.one f1 s1) (show ArrivesIn _ P _ b k cs (.outgrown) a₁ w₁ from harr)⟩
theorem params_ok {H : AHeap} {φ : Phi} {N : Addr → Prop} {w : World} {n : Nat} : ∀ (ps : List Tmp) (xs : List AV) (vs : List Value) {s : Nat → AV} {tmps : Array Value}, xs.length = vs.length → (∀ i (h1 : i < xs.length) (h2 : i < vs.length), RA H φ N w (xs[i]) (vs[i])) → tmps.size = n →
    (∀ t, RA H φ N w (s t) (tmps.getD t undef)) → (((ps.zip vs).foldl (fun t (p : Tmp × Value) => t.setIfInBounds p.1 p.2) tmps).size = n ∧ ∀ t, RA H φ N w (aparams n s ps xs t) (((ps.zip vs).foldl (fun t (p : Tmp × Value) => t.setIfInBounds p.1 p.2) tmps).getD t undef))
  | [], _, _, s, tmps, _, _, hs, h => ⟨hs, h⟩
  | _ :: _, [], [], s, tmps, _, _, hs, h => ⟨hs, h⟩
  | _ :: _, [], _ :: _, _, _, hl, _, _, _ => by simp at hl
  | _ :: _, _ :: _, [], _, _, hl, _, _, _ => by simp at hl
  | p :: ps, x :: xs, v :: vs, s, tmps, hl, hx, hs, h => by
    have h1 : TRel H φ N w (aput n s (some p) x) (({ tmps := tmps, defers := [] } : Act).put (some p) v) := TRel.put (a := { tmps := tmps, defers := [] }) h (hx 0 (by simp) (by simp)) hs
    exact params_ok ps xs vs (by simpa using hl) (fun i h1 h2 => hx (i + 1) (by simp; omega) (by simp; omega)) (by simpa using hs) h1
theorem zip_fold (ps : Array Tmp) (vs : Array Value) (tmps : Array Value) : ((ps.zip vs).foldl (fun t (x : Tmp × Value) => match x with | (t1, a) => t.setIfInBounds t1 a) tmps) = ((ps.toList.zip vs.toList).foldl (fun t (p : Tmp × Value) => t.setIfInBounds p.1 p.2) tmps) := by
  rw [← Array.toList_zip, Array.foldl_toList]
/-- One round, out of the walks of the two parts of the loop's text. -/
theorem round_ok {P : Program} {hint' : Nat → Bool} {n : Nat} {x y : Code} (hh : hint' 2000000 = false)
    (ihx : ∀ {l : Nat} {hint : Nat → Bool} {H0 : AHeap} {φ0 : Phi} {N0 : Addr → Prop} {w0 : World} {ds : DS} (hmk : hint 2000000 = true → ds.marks = true ∧ Fence.wide.inRound l = Fence.wide) (hR0 : Rel H0 φ0 N0 w0) (Q : Post) {s : Nat → AV} {H : AHeap} {φ : Phi} {N : Addr → Prop} {a : Act} {w : World}, Inv H0 φ0 N0 w0 n ds s H φ N a w → awp P hint n H0 x Q s H → x.wpIn (Fence.wide.inRound l) 0 P (CPost H0 φ0 N0 w0 n ds Q) a w)
    (ihy : ∀ {l : Nat} {hint : Nat → Bool} {H0 : AHeap} {φ0 : Phi} {N0 : Addr → Prop} {w0 : World} {ds : DS} (hmk : hint 2000000 = true → ds.marks = true ∧ Fence.wide.inRound l = Fence.wide) (hR0 : Rel H0 φ0 N0 w0) (Q : Post) {s : Nat → AV} {H : AHeap} {φ : Phi} {N : Addr → Prop} {a : Act} {w : World}, Inv H0 φ0 N0 w0 n ds s H φ N a w → awp P hint n H0 y Q s H → y.wpIn (Fence.wide.inRound l) 0 P (CPost H0 φ0 N0 w0 n ds Q) a w)
    {r : Loop} {s0 : Nat → AV} {Hk T : AHeap} {m : Nat} {args : List AV} {In : AHeap → Prop} {Ix : AX → AHeap → Prop} (hm : Hk.length = m) (hbel : HBel Hk.length Hk) (hsb : ∀ t, Bel Hk.length (s0 t))
    (hrx : r.assign = x) (hry : r.body = y) (hrs : r.state = .ready) (hrp : r.pending = none) (hrt : r.tmps.size = n) (hpa : args.length = r.params.size) (hab : ∀ v ∈ args, Bel Hk.length v)
    (h : awp P hint' n Hk x (fun e s1 H2 => match e with
        | .normal => awp P hint' n Hk y (fun e s2 H3 => ∃ s3 H4, Weak Hk s2 H3 s3 H4 ∧ H4.length = m ∧ (match e with | .normal => In H4 | .panic _ => False | e => Ix e H4)) s1 H2
        | _ => False) (aparams n s0 r.params.toList args) Hk) :
    YDoes P (Hk ++ .lp r s0 :: T) m args fun b G => if b = true then ∃ Hk', (In Hk' ∧ HBel Hk'.length Hk' ∧ Hk'.length = m) ∧ G = Hk' ++ .lp r s0 :: T else ∃ Hk' c, (∃ e, AX.jump e = some c ∧ Ix e Hk' ∧ HBel Hk'.length Hk') ∧ HBel m Hk' ∧ Hk'.length = m ∧ G = Hk' ++ .lp (lstop r c) s0 :: T := by
  subst hm
  have hlp : (Hk ++ AObj.lp r s0 :: T)[Hk.length]? = some (.lp r s0) := by simp
  have hml : Hk.length < (Hk ++ AObj.lp r s0 :: T).length := by simp
  refine ⟨⟨r, s0, hlp⟩, fun φ N w vals B c hR hA hB => ?_⟩
  cases hR.obj _ _ hlp with
  | lp _ _ B' c' hp hb hts =>
  rw [hB] at hp; cases hp
  have hRk := hR.pre hbel
  have hvl : vals.size = r.params.size := by rw [← hA.1]; exact hpa
  have hy := run_yield (P := P) (args := vals) hb hvl
  obtain ⟨fz1, fz2⟩ := params_ok (n := n) r.params.toList args vals.toList (s := s0) (tmps := r.tmps) (by rw [Array.length_toList]; exact hA.1) (fun i h1 h2 => (hA.2 i h1 (by simpa using h2)).pre (hab _ (List.getElem_mem h1))) hrt (fun t => (hts t).pre (hsb t))
  rw [← zip_fold] at fz1 fz2
  refine ⟨_, _, _, _, hy, roundIn_of_wpIn trivial ?_⟩
  rw [hrx, hry]
  have hI : Inv Hk φ N w n ⟨false, []⟩ (aparams n s0 r.params.toList args) Hk φ N { tmps := (r.params.zip vals).foldl (fun t (x : Tmp × Value) => match x with | (t1, a) => t.setIfInBounds t1 a) r.tmps, defers := [] } w :=
    ⟨hRk, fz2, Since.refl, fz1, DefS.refl⟩
  refine wpIn_mono (ihx (fun e => by rw [hh] at e; cases e) hRk _ hI h) ?_
  rintro e a1 w1 ⟨ax, s1, H1, φ1, N1, rfl, hq, hI1⟩
  cases ax with
  | exit _ => exact hq.elim
  | ret => exact hq.elim
  | panic _ => exact hq.elim
  | normal =>
  have hBout : ∀ id c', id < Hk.length → φ id ≠ some (B, c') := fun id c' hid hp => by
    have := hR.inj id Hk.length B c' c (by simp; omega) hml hp hB
    omega
  have hBlt : B < w.heap.size := (Array.getElem?_eq_some_iff.1 hb).1
  have hBout1 : ∀ id c', id < H1.length → φ1 id ≠ some (B, c') := fun id c' hid hp => by
    obtain ⟨id0, c0, h1, h2⟩ := hI1.since.own id B c' hid hp hBlt
    exact hBout id0 c0 h1 h2
  have hb1 : w1.heap[B]? = some (.loop r) := (hI1.since.keep B hBlt hBout).trans hb
  refine ⟨_, run_beginRound hb1 hrs, ?_⟩
  generalize hrb : ({ r with state := .busy } : Loop) = rb
  obtain ⟨hR2, hra2⟩ := hI1.rel.put (o' := .loop rb) hb1 (fun _ _ _ e => by cases e) hBout1
  obtain ⟨hRb, _⟩ := hRk.put (o' := .loop rb) hb (fun _ _ _ e => by cases e) hBout
  have hI2 : Inv Hk φ N (w.putObj B (.loop rb)) n ⟨false, a1.defers⟩ s1 H1 φ1 N1 a1 (w1.putObj B (.loop rb)) := ⟨hR2, fun t => hra2 _ _ (hI1.tmps t), hI1.since.both hBlt _, hI1.size, DefS.refl⟩
  refine wpIn_mono (ihy (fun e => by rw [hh] at e; cases e) hRb _ hI2 hq) ?_
  rintro e a2 w3 ⟨ax2, s2, H2, φ2, N2, rfl, ⟨s3, H4, hW, hl4, hq2⟩, hI3⟩
  obtain ⟨φ3, N3, hI4⟩ := hW.ok hRb hI3
  have hb4 : w3.heap[B]? = some (.loop rb) := (hI4.since.keep B (by rw [World.putObj_size]; exact hBlt) hBout).trans (World.putObj_heap_same hBlt)
  have hBout4 : ∀ id c', id < H4.length → φ3 id ≠ some (B, c') := fun id c' hid hp => by
    obtain ⟨id0, c0, h1, h2⟩ := hI4.since.own id B c' hid hp (by rw [World.putObj_size]; exact hBlt)
    exact hBout id0 c0 h1 h2
  have fin : ∀ (jump : Option Code), ∃ r4 w4, (Instr.endRound B jump).run P w3 = .ok (.bool jump.isNone) w4 ∧ r4 = { r with state := if jump.isNone then .ready else .done, pending := jump } ∧
      ∃ φ', Rel (H4 ++ .lp r4 s0 :: T) φ' N3 w4 ∧ Since (Hk ++ .lp r s0 :: T) φ N w (H4 ++ .lp r4 s0 :: T) φ' N3 w4 := by
    intro jump
    have hend := run_endRound (P := P) jump hb4
    obtain ⟨hR5, _⟩ := hI4.rel.put (o' := .loop { rb with state := if jump.isNone then .ready else .done, pending := jump }) hb4 (fun _ _ _ e => by cases e) hBout4
    have hX := hI4.since.xput.put (.loop { rb with state := if jump.isNone then .ready else .done, pending := jump })
    have hb5 : (w3.putObj B (.loop { rb with state := if jump.isNone then .ready else .done, pending := jump })).heap[B]? = some (.loop { rb with state := if jump.isNone then .ready else .done, pending := jump }) := World.putObj_heap_same (Array.getElem?_eq_some_iff.1 hb4).1
    obtain ⟨φ', hR6, hS6⟩ := frame_ok hR hB hX hR5 hl4 hb5 (by rw [← hrb])
    exact ⟨_, _, hend, by rw [← hrb], φ', hR6, hS6⟩
  have hob4 := hI4.rel.obel
  have stop : ∀ c, Ix ax2 H4 → AX.jump ax2 = some c → ∃ v w4, (Instr.endRound B (some c)).run P w3 = .ok v w4 ∧ ∃ b H' φ' N', Ending.returned v = .returned (.bool b) ∧
      (if b = true then ∃ Hk', (In Hk' ∧ HBel Hk'.length Hk' ∧ Hk'.length = Hk.length) ∧ H' = Hk' ++ .lp r s0 :: T else ∃ Hk' c, (∃ e, AX.jump e = some c ∧ Ix e Hk' ∧ HBel Hk'.length Hk') ∧ HBel Hk.length Hk' ∧ Hk'.length = Hk.length ∧ H' = Hk' ++ .lp (lstop r c) s0 :: T) ∧ Rel H' φ' N' w4 ∧ Since (Hk ++ .lp r s0 :: T) φ N w H' φ' N' w4 := by
    intro c hix hj
    obtain ⟨r4, w4, hend, hr4, φ', hR6, hS6⟩ := fin (some c)
    refine ⟨_, w4, hend, false, _, φ', N3, rfl, ?_, hR6, hS6⟩
    rw [if_neg (by simp)]
    exact ⟨H4, c, ⟨ax2, hj, hix, hob4⟩, by rw [← hl4]; exact hob4, hl4, by rw [hr4]; rfl⟩
  cases ax2 with
  | normal =>
    obtain ⟨r4, w4, hend, hr4, φ', hR6, hS6⟩ := fin none
    refine ⟨_, w4, hend, true, _, φ', N3, rfl, ?_, hR6, hS6⟩
    show (if true = true then _ else _)
    rw [if_pos rfl]
    refine ⟨H4, ⟨hq2, hob4, hl4⟩, ?_⟩
    have : r4 = r := by
      rw [hr4]
      cases r
      simp only at hrs hrp
      subst hrs hrp
      rfl
    rw [this]
  | ret => exact stop .ret hq2 rfl
  | exit id => exact stop (.exit id) hq2 rfl
  | panic v => exact hq2.elim
theorem range_ok {P : Program} {n : Nat} {x y : Code} {g : Operand} {ps : Array Tmp} {H0 : AHeap} {φ0 : Phi} {N0 : Addr → Prop} {w0 : World} {ds : DS} (hmk : ds.marks = true) (hR0 : Rel H0 φ0 N0 w0)
    (ihx : ∀ {l : Nat} {hint : Nat → Bool} {H0 : AHeap} {φ0 : Phi} {N0 : Addr → Prop} {w0 : World} {ds : DS} (hmk : hint 2000000 = true → ds.marks = true ∧ Fence.wide.inRound l = Fence.wide) (hR0 : Rel H0 φ0 N0 w0) (Q : Post) {s : Nat → AV} {H : AHeap} {φ : Phi} {N : Addr → Prop} {a : Act} {w : World}, Inv H0 φ0 N0 w0 n ds s H φ N a w → awp P hint n H0 x Q s H → x.wpIn (Fence.wide.inRound l) 0 P (CPost H0 φ0 N0 w0 n ds Q) a w)
    (ihy : ∀ {l : Nat} {hint : Nat → Bool} {H0 : AHeap} {φ0 : Phi} {N0 : Addr → Prop} {w0 : World} {ds : DS} (hmk : hint 2000000 = true → ds.marks = true ∧ Fence.wide.inRound l = Fence.wide) (hR0 : Rel H0 φ0 N0 w0) (Q : Post) {s : Nat → AV} {H : AHeap} {φ : Phi} {N : Addr → Prop} {a : Act} {w : World}, Inv H0 φ0 N0 w0 n ds s H φ N a w → awp P hint n H0 y Q s H → y.wpIn (Fence.wide.inRound l) 0 P (CPost H0 φ0 N0 w0 n ds Q) a w)
    {Q : Post} {s : Nat → AV} {H : AHeap} {φ : Phi} {N : Addr → Prop} {a : Act} {w : World} (hI : Inv H0 φ0 N0 w0 n ds s H φ N a w)
    (h : ∃ (hint' : Nat → Bool) (gf : FuncId) (caps : List AV) (xs : List (List AV)) (C : AHeap → Prop) (I : Nat → AHeap → Prop) (Ix : AX → AHeap → Prop) (s0 : Nat → AV) (H1 : AHeap),
      hint' 2000000 = false ∧ Weak H0 s H s0 H1 ∧ aeval s0 g = .fn gf caps ∧ SeqD P gf caps C xs ∧ (∀ v ∈ xs, v.length = ps.size ∧ ∀ u ∈ v, Bel H1.length u) ∧ I 0 H1 ∧ (∀ k Hk, I k Hk → C Hk ∧ Hk.length = H1.length) ∧
      (∀ k (hk : k < xs.length) Hk, I k Hk → awp P hint' n Hk x (fun e s1 H2 => match e with
        | .normal => awp P hint' n Hk y (fun e s2 H3 => ∃ s3 H4, Weak Hk s2 H3 s3 H4 ∧ H4.length = H1.length ∧ (match e with | .normal => I (k + 1) H4 | .panic _ => False | e => Ix e H4)) s1 H2
        | _ => False) (aparams n s0 ps.toList (xs[k])) Hk) ∧
      (∀ Hn, I xs.length Hn → Q .normal s0 Hn) ∧ ∀ e Hx, Ix e Hx → Q e s0 Hx) :
    (Code.rangeFunc g ps x y).wpIn Fence.wide 0 P (CPost H0 φ0 N0 w0 n ds Q) a w := by
  obtain ⟨hint', gf, caps, xs, C, I, Ix, s0, H1, hh, hW, hg, hseq, hxs, h0, hIC, hround, hdone, hstop⟩ := h
  obtain ⟨φ1, N1, hI1⟩ := hW.ok hR0 hI
  have hgv := aeval_ok hI1.tmps g
  rw [hg] at hgv
  generalize hge : a.eval g = gv at hgv
  cases hgv with
  | fn _ _ vs hcl hcv =>
  refine wpIn_rangeFunc fun fn _ => ?_
  have hlt0 : w0.heap.size ≤ w.heap.size := hI1.since.size
  let r : Loop := { state := .ready, pending := none, fn := fn, tmps := a.tmps, params := ps, assign := x, body := y, defers := w.heap.size }
  -- the block of the rounds' deferred calls, and the record
  have hRd : Rel H1 φ1 N1 (w.alloc (.deferred (some []))) ∧ Since H1 φ1 N1 w H1 φ1 N1 (w.alloc (.deferred (some []))) := by
    have hS := Since.fixed hI1.rel (.deferred (some [])) N1 (fun _ h => h) (fun _ h => .inl h)
    exact ⟨hI1.rel.off (fun id B c hid hp => Below.heap_alloc w _ B (hI1.rel.block_lt hid hp)) fun a v _ hv => by
      rw [World.cell?_of_block (w := w) (Below.heap_alloc w _ _ (World.block_lt_of_cell? w a hv))]; exact hv, hS⟩
  obtain ⟨hRd, hSd⟩ := hRd
  have hDd : (w.alloc (.deferred (some []))).heap[w.heap.size]? = some (.deferred (some [])) := World.alloc_heap_new w _
  have hSl := Since.new hRd (.loop r) (.lp r s0) 0
  have hts1 : ∀ t, RA (H1 ++ [.lp r s0]) (φ1.put H1.length (some ((w.alloc (.deferred (some []))).heap.size, 0))) N1 ((w.alloc (.deferred (some []))).alloc (.loop r)) (s0 t) (r.tmps.getD t undef) := fun t => ((hI1.tmps t).since hI1.rel hSd).since hRd hSl
  have hRl := hRd.new (.loop r) (.lp r s0) 0 (.lp r s0 _ 0 (Phi.put_same _ _ _) (World.alloc_heap_new _ _) hts1)
  have hDl : ((w.alloc (.deferred (some []))).alloc (.loop r)).heap[w.heap.size]? = some (.deferred (some [])) := (Below.heap_alloc _ _ _ (by simp)).trans hDd
  have hSw := hSd.trans hSl
  have hDout1 : ∀ id c, id < (H1 ++ [AObj.lp r s0]).length → (φ1.put H1.length (some ((w.alloc (.deferred (some []))).heap.size, 0))) id ≠ some (w.heap.size, c) := by
    intro id c hid hp
    by_cases e : id = H1.length
    · subst e
      rw [Phi.put_same] at hp
      have := (Prod.mk.inj (Option.some.inj hp)).1
      simp at this
    · rw [Phi.put_other _ _ _ _ e] at hp
      have := hI1.rel.block_lt (by simp at hid; omega) hp
      omega
  have hpl : (φ1.put H1.length (some ((w.alloc (.deferred (some []))).heap.size, 0))) H1.length = some (w.heap.size + 1, 0) := by rw [Phi.put_same]; simp
  have henter := run_enterLoop_outer (P := P) (w := w) fn a.tmps ps x y
  have hsz1 : (w.alloc (.deferred (some []))).heap.size = w.heap.size + 1 := by simp
  generalize (φ1.put H1.length (some ((w.alloc (.deferred (some []))).heap.size, 0))) = φ2 at *
  have hB : ∃ W1, (w.alloc (.deferred (some []))).alloc (.loop r) = W1 := ⟨_, rfl⟩
  obtain ⟨W1, hW1⟩ := hB
  have henter' : (Instr.enterLoop fn a.tmps ps x y none).run P w = .ok (w.heap.size + 1, [{ target := .collected w.heap.size, args := #[] }]) W1 := by rw [← hW1]; exact henter
  rw [hW1] at hRl hDl hSw hts1
  clear henter hW1 hSl hRd hSd hDd
  have hbelS : ∀ t, Bel H1.length (s0 t) := fun t => (hI1.tmps t).bel
  have hlen1 : (H1 ++ [AObj.lp r s0]).length = H1.length + 1 := by simp
  -- the iterator's contract
  have hcall := hseq r s0 (fun k Hk => I k Hk ∧ HBel Hk.length Hk ∧ Hk.length = H1.length) (fun c Hx => ∃ e, AX.jump e = some c ∧ Ix e Hx ∧ HBel Hx.length Hx) H1.length H1 ⟨h0, hI1.rel.obel, rfl⟩ hbelS (fun k Hk hk => ⟨(hIC k Hk hk.1).1, by rw [← hk.2.2]; exact hk.2.1, hk.2.2⟩)
    (fun k hk Hk T hJ => round_ok (P := P) hh ihx ihy hJ.2.2 hJ.2.1 (fun t => by rw [hJ.2.2]; exact hbelS t) rfl rfl rfl rfl hI1.size (hxs _ (List.getElem_mem hk)).1 (fun v hv => by rw [hJ.2.2]; exact (hxs _ (List.getElem_mem hk)).2 v hv) (hround k hk Hk hJ.1))
  have hyl : RA (H1 ++ [.lp r s0]) φ2 N1 W1 (.yld H1.length) (.func (.yield (w.heap.size + 1)) #[] #[]) := .yld _ _ (.lp r s0) (by simp) fun _ => ⟨0, hpl⟩
  have hargs : RAs (H1 ++ [.lp r s0]) φ2 N1 W1 (.yld H1.length :: caps) (#[.func (.yield (w.heap.size + 1)) #[] #[]] ++ vs) := by
    refine ⟨by simp [hcl]; omega, fun i h1 h2 => ?_⟩
    cases i with
    | zero => simpa using hyl
    | succ i =>
      rw [Array.getElem_append_right (by simp)]
      simp only [List.getElem_cons_succ]
      have := (hcv i (by simp at h1; omega) (by simp at h2; omega)).since hI1.rel hSw
      simpa using this
  obtain ⟨hrun, hC⟩ := hcall φ2 N1 W1 _ hRl hargs
  refine ⟨w.heap.size + 1, [{ target := .collected w.heap.size, args := #[] }], W1, { target := .fn (.func gf) vs, args := #[.func (.yield (w.heap.size + 1)) #[] #[]] }, W1, gf,
    #[.func (.yield (w.heap.size + 1)) #[] #[]] ++ vs, W1, henter', ?_, fun _ _ => trivial, ?_, fun h => (by cases h), ?_⟩
  · simp only [resolve, hge]
    simp [go_sem, Deferred.ofValue]
  · simpa [invoke] using hrun
  refine callsIn_wide.2 (Calls.mono hC ?_)
  rintro e w3 ⟨res, G, φ3, N3, ⟨rfl, hG⟩, hR3, hS3, hE⟩
  cases e with
  | panicked ch => exact hE.elim
  | outgrown => exact hE.elim
  | returned v =>
  -- what both ways out have in common
  have fin : ∀ (Hn : AHeap) (r' : Loop), G = Hn ++ [.lp r' s0] → HBel Hn.length Hn → Hn.length = H1.length → r'.state ≠ .busy → ∃ w4, (Instr.endLoop (w.heap.size + 1)).run P w3 = .ok r'.pending w4 ∧
      ∃ φ' N', Inv H0 φ0 N0 w0 n ds s0 Hn φ' N' { a with defers := [{ target := .collected w.heap.size, args := #[] }] ++ a.defers } w4 := by
    rintro Hn r' rfl hbel hlen hbusy
    have hlp3 : (Hn ++ [AObj.lp r' s0])[Hn.length]? = some (.lp r' s0) := by simp
    have hp3 : φ3 Hn.length = some (w.heap.size + 1, 0) := by
      obtain ⟨o', ho', _, _, hq, _⟩ := hS3.compat H1.length (.lp r s0) (by simp)
      rw [← hlen, hlp3] at ho'
      cases ho'
      rw [← hpl, hlen]
      exact (hq rfl).1
    cases hR3.obj _ _ hlp3 with
    | lp _ _ B c hp hb hts =>
    rw [hp3] at hp
    obtain ⟨rfl, rfl⟩ := Prod.mk.inj (Option.some.inj hp)
    have hend := run_endLoop (P := P) hb hbusy
    refine ⟨_, hend, φ3, N3, ?_⟩
    generalize hro : ({ r' with state := .exhausted } : Loop) = ro
    have hRn := hR3.pre hbel
    have hBout : ∀ id c', id < Hn.length → φ3 id ≠ some (w.heap.size + 1, c') := fun id c' hid hp => by
      have := hR3.inj id Hn.length _ c' 0 (by simp; omega) (by simp) hp hp3
      omega
    obtain ⟨hRf, hraf⟩ := hRn.put (o' := .loop ro) hb (fun _ _ _ e => by cases e) hBout
    have hSall : Since H0 φ0 N0 w0 (Hn ++ [.lp r' s0]) φ3 N3 w3 := (hI1.since.trans hSw).trans hS3
    have hSn := ((hSall.pre (by rw [hlen]; exact hI1.since.len)).x (w.heap.size + 1)).put (.loop ro) |>.since (by omega)
    have hDlt : w.heap.size < W1.heap.size := (Array.getElem?_eq_some_iff.1 hDl).1
    refine ⟨hRf, fun t => hraf _ _ ((((hI1.tmps t).since hI1.rel (hSw.trans hS3))).pre (by rw [hlen]; exact hbelS t)), hSn, hI1.size, ?_⟩
    obtain ⟨ms, hms, _, hmarks⟩ := hI1.defers
    refine ⟨{ target := .collected w.heap.size, args := #[] } :: ms, by simp [hms], fun e => (by rw [hmk] at e; cases e), ⟨w.heap.size, hlt0, rfl, ?_, ?_, ?_⟩, ?_⟩
    · rw [World.putObj_heap_other (by omega)]
      exact (hS3.keep _ hDlt hDout1).trans hDl
    · intro id c hid hp
      obtain ⟨id0, c0, g1, g2⟩ := hS3.own id _ c (by simp; omega) hp hDlt
      exact hDout1 id0 c0 g1 g2
    · intro d' hd' e
      have key : ∀ {ds : List Deferred}, Marks w0.heap.size H1 φ1 w ds → ∀ d ∈ ds, ∃ D, D < w.heap.size ∧ d = { target := .collected D, args := #[] } := by
        intro ds
        induction ds with
        | nil => intro _ d hd; cases hd
        | cons d0 ds ih =>
          rintro ⟨⟨D, _, h1, h2, _⟩, h3⟩ d hd
          rcases List.mem_cons.1 hd with rfl | hd
          · exact ⟨D, (Array.getElem?_eq_some_iff.1 h2).1, h1⟩
          · exact ih h3 d hd
      obtain ⟨D, hD, hd2⟩ := key hmarks d' hd'
      rw [hd2] at e
      have : D = w.heap.size := by injection e with e1; injection e1
      omega
    · refine hmarks.mono fun D hD _ _ hn => ⟨?_, fun id c hid hp => ?_⟩
      · rw [World.putObj_heap_other (by omega)]
        exact (hSw.trans hS3).keep D hD hn
      · obtain ⟨id0, c0, g1, g2⟩ := (hSw.trans hS3).own id D c (by simp; omega) hp hD
        exact hn id0 c0 g1 g2
  rcases hG with ⟨Hn, ⟨hIn, hbel, hlen⟩, hG⟩ | ⟨Hx, c, ⟨ax, hj, hix, hbel⟩, hlen, hG⟩
  · obtain ⟨w4, hend, φ', N', hIf⟩ := fin Hn r hG hbel hlen (by simp [r])
    exact ⟨none, w4, hend, .normal, s0, Hn, φ', N', rfl, hdone Hn hIn, hIf⟩
  · obtain ⟨w4, hend, φ', N', hIf⟩ := fin Hx (lstop r c) hG hbel hlen (by simp [lstop])
    refine ⟨some c, w4, hend, ?_⟩
    cases ax with
    | normal => cases hj
    | panic v => cases hj
    | ret => cases hj; exact wpIn_ret ⟨.ret, s0, Hx, φ', N', rfl, hstop _ Hx hix, hIf⟩
    | exit id => cases hj; exact wpIn_exit ⟨.exit id, s0, Hx, φ', N', rfl, hstop _ Hx hix, hIf⟩
theorem awp_okF : ∀ (c : Code) {F : Fence} (hF : FenceOk F) {hint : Nat → Bool} {H0 : AHeap} {φ0 : Phi} {N0 : Addr → Prop} {w0 : World} {ds : DS} (hmk : hint 2000000 = true → ds.marks = true ∧ F = Fence.wide) (hR0 : Rel H0 φ0 N0 w0) (Q : Post) {s : Nat → AV} {H : AHeap} {φ : Phi} {N : Addr → Prop} {a : Act} {w : World},
    Inv H0 φ0 N0 w0 n ds s H φ N a w → awp P hint n H0 c Q s H → c.wpIn F 0 P (CPost H0 φ0 N0 w0 n ds Q) a w := by
  intro c
  induction c with
  | skip => exact fun hF _ _ _ _ _ _ hmk hR0 Q s H φ N a w hI h => wpIn_skip ⟨.normal, s, H, φ, N, rfl, h, hI⟩
  | label l => exact fun hF _ _ _ _ _ _ hmk hR0 Q s H φ N a w hI h => wpIn_label ⟨.normal, s, H, φ, N, rfl, h, hI⟩
  | region id ops draw =>
    intro F hF hint H0 φ0 N0 w0 ds hmk hR0 Q s H φ N a w hI h
    cases draw with
    | false =>
      have h' : awpList P hint n ops Q ops.toList s H := h
      refine wpIn_region ?_
      have := awpList_ok hF ops.toList 0 (fun j => by simp) hI h'
      rw [List.range_eq_range']
      simpa using this
    | true =>
      obtain ⟨hm, h'⟩ : P.follows .mixedOrders = true ∧ awpAny P hint n ops Q ops.size (Array.replicate ops.size false) s H := h
      refine wpIn_region_any hm ?_
      have hI' : Inv H0 φ0 N0 w0 n ds s H φ N a { w with drawn := w.drawn + 1 } :=
        ⟨hI.rel.drawn rfl rfl rfl rfl, fun t => RA.since hI.rel (Since.drawn (w' := { w with drawn := w.drawn + 1 }) rfl rfl rfl rfl) (hI.tmps t), hI.since.trans (Since.drawn rfl rfl rfl rfl), hI.size, DefS.mono (w := w) (w' := { w with drawn := w.drawn + 1 }) (fun D _ _ _ hn => ⟨rfl, hn⟩) hI.defers⟩
      exact awpAny_ok hF _ _ hI' h'
  | seq x y ihx ihy =>
    intro F hF hint H0 φ0 N0 w0 ds hmk hR0 Q s H φ N a w hI h
    refine wpIn_seq (wpIn_mono (ihx hF hmk hR0 _ hI h) ?_)
    rintro e a' w' ⟨ax, s', H', φ', N', rfl, hq, hI'⟩
    cases ax with
    | normal =>
      have hq : if hintAt hint y = true then ∃ s'' H'', Weak H0 s' H' s'' H'' ∧ awp P hint n H0 y Q s'' H'' else awp P hint n H0 y Q s' H' := hq
      split at hq
      · obtain ⟨s'', H'', hW, hq⟩ := hq
        obtain ⟨φ1, N1, hI1⟩ := hW.ok hR0 hI'
        exact ihy hF hmk hR0 Q hI1 hq
      · exact ihy hF hmk hR0 Q hI' hq
    | exit id => exact ⟨.exit id, s', H', φ', N', rfl, hq, hI'⟩
    | ret => exact ⟨.ret, s', H', φ', N', rfl, hq, hI'⟩
    | panic v => exact ⟨.panic v, s', H', φ', N', rfl, hq, hI'⟩
  | cond c x y ihx ihy =>
    intro F hF hint H0 φ0 N0 w0 ds hmk hR0 Q s H φ N a w hI h
    unfold awp at h
    split at h
    · rename_i b hb
      have hv := (show RA H φ N w (.d (.v (.bool b))) (a.eval c) from by rw [← hb]; exact aeval_ok hI.tmps c).closed
      cases b with
      | true => exact wpIn_cond_true hv (ihx hF hmk hR0 Q hI (by simpa using h))
      | false => exact wpIn_cond_false hv (ihy hF hmk hR0 Q hI (by simpa using h))
    · exact h.elim
  | block id x ih =>
    intro F hF hint H0 φ0 N0 w0 ds hmk hR0 Q s H φ N a w hI h
    refine wpIn_block (wpIn_mono (ih hF hmk hR0 _ hI h) ?_)
    rintro e a' w' ⟨ax, s', H', φ', N', rfl, hq, hI'⟩
    cases ax with
    | normal => exact ⟨.normal, s', H', φ', N', rfl, hq, hI'⟩
    | exit i =>
      simp only [AX.exitOf, Exit.inBlock]
      have hq : if i = id then Q .normal s' H' else Q (.exit i) s' H' := hq
      by_cases hi : i = id
      · rw [if_pos hi]
        rw [if_pos hi] at hq
        exact ⟨.normal, s', H', φ', N', rfl, hq, hI'⟩
      · rw [if_neg hi]
        rw [if_neg hi] at hq
        exact ⟨.exit i, s', H', φ', N', rfl, hq, hI'⟩
    | ret => exact ⟨.ret, s', H', φ', N', rfl, hq, hI'⟩
    | panic v => exact ⟨.panic v, s', H', φ', N', rfl, hq, hI'⟩
  | scope x ih =>
    intro F hF hint H0 φ0 N0 w0 ds hmk hR0 Q s H φ N a w hI h
    refine wpIn_scope (wpIn_mono (ih hF hmk hR0 _ hI h) ?_)
    rintro e a' w' ⟨ax, s', H', φ', N', rfl, hq, hI'⟩
    cases ax with
    | normal => exact ⟨.normal, s', H', φ', N', rfl, hq, hI'⟩
    | exit i => exact ⟨.exit i, s', H', φ', N', rfl, hq, hI'⟩
    | ret => exact ⟨.ret, s', H', φ', N', rfl, hq, hI'⟩
    | panic v => exact ⟨.panic v, s', H', φ', N', rfl, hq, hI'⟩
  | loop x ih =>
    intro F hF hint H0 φ0 N0 w0 ds hmk hR0 Q s H φ N a w hI h
    obtain ⟨I, m, ⟨s1, H1, hW, h1⟩, hstep⟩ := h
    obtain ⟨φ1, N1, hI1⟩ := hW.ok hR0 hI
    refine wp_loop_ind (fun m a w => ∃ s H φ N, I m s H ∧ Inv H0 φ0 N0 w0 n ds s H φ N a w) (n := m) ?_ ⟨s1, H1, φ1, N1, h1, hI1⟩
    rintro m a w ⟨s, H, φ, N, hIm, hI⟩
    refine wpIn_mono (ih hF hmk hR0 _ hI (hstep m s H hIm)) ?_
    rintro e a' w' ⟨ax, s', H', φ', N', rfl, hq, hI'⟩
    cases ax with
    | normal =>
      obtain ⟨s2, H2, m', hW2, hm, hlt⟩ := hq
      obtain ⟨φ2, N2, hI2⟩ := hW2.ok hR0 hI'
      exact ⟨m', hlt, s2, H2, φ2, N2, hm, hI2⟩
    | exit i => exact ⟨.exit i, s', H', φ', N', rfl, hq, hI'⟩
    | ret => exact ⟨.ret, s', H', φ', N', rfl, hq, hI'⟩
    | panic v => exact ⟨.panic v, s', H', φ', N', rfl, hq, hI'⟩
  | exit id => exact fun hF _ _ _ _ _ _ hmk hR0 Q s H φ N a w hI h => wpIn_exit ⟨.exit id, s, H, φ, N, rfl, h, hI⟩
  | ret => exact fun hF _ _ _ _ _ _ hmk hR0 Q s H φ N a w hI h => wpIn_ret ⟨.ret, s, H, φ, N, rfl, h, hI⟩
  | rangeFunc g ps x y ihx ihy =>
    intro F hF hint H0 φ0 N0 w0 ds hmk hR0 Q s H φ N a w hI h
    obtain ⟨hm, h⟩ := h
    obtain ⟨hmk1, rfl⟩ := hmk hm
    exact range_ok hmk1 hR0 (fun hmk' hR => ihx (.inr ⟨_, rfl⟩) hmk' hR) (fun hmk' hR => ihy (.inr ⟨_, rfl⟩) hmk' hR) hI h
  | _ => intros; rename_i h; exact h.elim
theorem awp_ok (hmk : hint 2000000 = true → ds.marks = true) (hR0 : Rel H0 φ0 N0 w0) (c : Code) (Q : Post) {s : Nat → AV} {H : AHeap} {φ : Phi} {N : Addr → Prop} {a : Act} {w : World} (hI : Inv H0 φ0 N0 w0 n ds s H φ N a w) (h : awp P hint n H0 c Q s H) : c.wp P (CPost H0 φ0 N0 w0 n ds Q) a w :=
  wpIn_wide.1 (awp_okF c (.inl rfl) (fun h => ⟨hmk h, rfl⟩) hR0 Q hI h)

def ares (rs : List Tmp) (s : Nat → AV) : AV :=
  match rs with
  | [t] => s t
  | l => .tup (l.map s)
/-- What is left to show where a body has ended. -/
def AEnd (rs : List Tmp) (H0 : AHeap) (res : ARes) (H' : AHeap) : Post := fun e s H =>
  match e with
  | .normal => ∃ s', Weak H0 s H s' H' ∧ res = .ok (ares rs s')
  | .ret => ∃ s', Weak H0 s H s' H' ∧ res = .ok (ares rs s')
  | .panic v => ∃ s', Weak H0 s H s' H' ∧ res = .panic v
  | _ => False
def ainit (args : List AV) : Nat → AV := fun t => args.getD t .top

def resV (tmps : Array Value) : List Tmp → Value
  | [t] => tmps.getD t undef
  | l => .tuple (l.map fun t => tmps.getD t undef).toArray
theorem run_results {fn : Func} (rs : List Tmp) (h : fn.results.toList = rs.map .tmp) (hl : rs.length ≤ 4) (tmps : Array Value) (w : World) :
    (results fn tmps).run P w = .ok (resV tmps rs) w := by
  have h' : fn.results = (rs.map .tmp).toArray := by rw [← h]
  match rs, hl, h' with
  | [], _, h' => simp [results, h', resV]
  | [_], _, h' => simp [results, h', resV]
  | [_, _], _, h' => simp [results, h', resV]
  | [_, _, _], _, h' => simp [results, h', resV]
  | [_, _, _, _], _, h' => simp [results, h', resV]
  | _ :: _ :: _ :: _ :: _ :: _, hl, _ => simp at hl

theorem enter_run {f : FuncId} {fn : Func} (hf : P.funcs[f]? = some fn) (hn : (fn.name == "runtime.NumGoroutine") = false) (hb : fn.body.isSome = true) (vals : Array Value) (w : World) : (callFunc f vals).run P w = .ok (.enter f vals) w := by
  have h1 : fn.name ≠ "runtime.NumGoroutine" := by simpa using hn
  have h2 : fn.body ≠ none := by intro h; rw [h] at hb; cases hb
  simp [callFunc, hf, h1, h2]

/-- The marks are taken in, one by one, when the activation ends. -/
theorem leaves_marks {fn : Func} {R : Ending → World → Prop} {u : FrameMode} (hu : u ≠ .run) {s : Nat → AV} {H : AHeap} {φ : Phi} {N : Addr → Prop} {tmps : Array Value} : ∀ (ms : List Deferred) {w : World}, Inv H0 φ0 N0 w0 n ⟨true, []⟩ s H φ N { tmps := tmps, defers := ms } w →
    (∀ w', Inv H0 φ0 N0 w0 n ⟨true, []⟩ s H φ N { tmps := tmps, defers := [] } w' → LeavesInM Fence.wide 0 P fn tmps R [] u w') → LeavesInM Fence.wide 0 P fn tmps R ms u w
  | [], w, hI, h => h w hI
  | d :: ms, w, hI, h => by
    obtain ⟨ms', hms, _, hmk⟩ := hI.defers
    rw [List.append_nil] at hms
    have hms : d :: ms = ms' := hms
    subst hms
    obtain ⟨⟨D, h0, h1, h2, h3, h4⟩, h5⟩ := hmk
    refine ⟨hu, .inl ⟨D, w.putObj D (.deferred none), by rw [h1], run_takeDeferred h2, leaves_marks hu ms ?_ h⟩⟩
    obtain ⟨hR, hra⟩ := hI.rel.put (o' := .deferred none) h2 (fun _ _ _ e => by cases e) h3
    refine ⟨hR, fun t => hra _ _ (hI.tmps t), ((hI.since.x D).put _).since h0, hI.size, ⟨ms, by simp, fun e => (by cases e), ?_⟩⟩
    have key : ∀ {ds : List Deferred}, (∀ d' ∈ ds, d' ≠ d) → Marks w0.heap.size H φ w ds → Marks w0.heap.size H φ (w.putObj D (.deferred none)) ds := by
      intro ds
      induction ds with
      | nil => exact fun _ _ => trivial
      | cons d1 ds ih =>
        rintro hne ⟨⟨D1, g0, g1, g2, g3, g4⟩, g5⟩
        refine ⟨⟨D1, g0, g1, ?_, g3, g4⟩, ih (fun d' hd' => hne d' (List.mem_cons_of_mem _ hd')) g5⟩
        rw [World.putObj_heap_other fun e => hne d1 (List.mem_cons_self ..) (by rw [g1, h1, e])]
        exact g2
    exact key h4 h5
theorem RAs.init {H : AHeap} {φ : Phi} {N : Addr → Prop} {w : World} {args : List AV} {vals : Array Value} (h : RAs H φ N w args vals) (n : Nat) : TRel H φ N w (ainit args) { tmps := vals ++ Array.replicate (n - vals.size) undef, defers := [] } := by
  intro t
  simp only [ainit]
  by_cases ht : t < args.length
  · have ht' : t < vals.size := by rw [← h.1]; exact ht
    have := h.2 t ht ht'
    have e1 : args.getD t .top = args[t] := by simp [List.getD, ht]
    have e2 : (vals ++ Array.replicate (n - vals.size) undef).getD t undef = vals[t] := by
      rw [Array.getD_eq_getD_getElem?, Array.getElem?_append_left ht']; simp [ht']
    rw [e1, e2]
    exact this
  · have e1 : args.getD t .top = .top := by simp [List.getD, List.getElem?_eq_none (Nat.le_of_not_lt ht)]
    rw [e1]
    exact .top _
theorem leavesI {s : Nat → AV} {H : AHeap} {φ : Phi} {N : Addr → Prop} {a : Act} {w : World} (hI : Inv H0 φ0 N0 w0 n ⟨true, []⟩ s H φ N a w) : Inv H0 φ0 N0 w0 n ⟨true, []⟩ s H φ N { tmps := a.tmps, defers := [] } w :=
  ⟨hI.rel, hI.tmps, hI.since, hI.size, DefS.refl⟩
/-- A function's contract out of its body: what is to be shown at each end. -/
theorem calls_of_awp {f : FuncId} {fn : Func} {body : Code} (hf : P.funcs[f]? = some fn) (hb : fn.body = some body) {args : List AV} {H : AHeap} {Q : Post} (ha : args.length ≤ fn.ntmps) (h : awp P hint fn.ntmps H body Q (ainit args) H)
    {φ : Phi} {N : Addr → Prop} {w : World} {vals : Array Value} (hR : Rel H φ N w) (hA : RAs H φ N w args vals) {R : Ending → World → Prop}
    (hend : ∀ {e s' H1 φ1 N1 tmps w'}, Inv H φ N w fn.ntmps ⟨true, []⟩ s' H1 φ1 N1 { tmps := tmps, defers := [] } w' → Q e s' H1 → match e with
      | .normal | .ret => ∃ v, (results fn tmps).run P w' = .ok v w' ∧ R (.returned v) w'
      | .panic v => R (.panicked [{ v := v, recovered := false }]) w'
      | _ => False) : Calls P f vals w R := by
  refine callsIn_wide.1 (callsIn_of_wp_marks (n := 0) (F := Fence.wide) hf hb trivial ?_)
  have hI : Inv H φ N w fn.ntmps ⟨true, []⟩ (ainit args) H φ N { tmps := vals ++ Array.replicate (fn.ntmps - vals.size) undef, defers := [] } w :=
    ⟨hR, hA.init _, Since.refl, by simp; have := hA.1; omega, DefS.refl⟩
  refine wpIn_mono (awp_okF body (.inl rfl) (fun _ => ⟨rfl, rfl⟩) hR _ hI h) ?_
  rintro e a' w' ⟨ax, s', H1, φ1, N1, rfl, hq, hI1⟩
  cases ax with
  | normal => exact leaves_marks (by simp) a'.defers hI1 fun w2 hI2 => hend hI2 hq
  | ret => exact leaves_marks (by simp) a'.defers hI1 fun w2 hI2 => hend hI2 hq
  | exit i => exact (hend (e := .exit i) (tmps := a'.tmps) (w' := w') (leavesI hI1) hq).elim
  | panic v => exact leaves_marks (by simp) a'.defers hI1 fun w2 hI2 => hend hI2 hq
theorem ares_ok {s : Nat → AV} {H : AHeap} {φ : Phi} {N : Addr → Prop} {tmps : Array Value} {w : World} (h : ∀ t, RA H φ N w (s t) (tmps.getD t undef)) (rs : List Tmp) : RA H φ N w (ares rs s) (resV tmps rs) := by
  have many : ∀ l : List Tmp, RA H φ N w (.tup (l.map s)) (.tuple (l.map fun t => tmps.getD t undef).toArray) := fun l => .tup _ _ (by simp) fun i h1 h2 => by simpa using h _
  match rs with
  | [] => exact many []
  | [t] => exact h t
  | t :: u :: l => exact many (t :: u :: l)
theorem Does.of_awp {f : FuncId} {fn : Func} {body : Code} (hf : P.funcs[f]? = some fn) (hn : (fn.name == "runtime.NumGoroutine") = false) (hb : fn.body = some body) (rs : List Tmp) (hr : fn.results.toList = rs.map .tmp) (hl : rs.length ≤ 4)
    {args : List AV} {H : AHeap} {res : ARes} {H' : AHeap} (ha : args.length ≤ fn.ntmps) (h : awp P hint fn.ntmps H body (AEnd rs H res H') (ainit args) H) : Does P f args H res H' := by
  intro φ N w vals hR hA
  refine .inl ⟨enter_run hf hn (by rw [hb]; rfl) vals w, calls_of_awp hf hb ha h hR hA ?_⟩
  intro e s' H1 φ1 N1 tmps w' hI1 hq
  have fin : ∀ (s'' : Nat → AV), Weak H s' H1 s'' H' → res = .ok (ares rs s'') → ∃ v, (results fn tmps).run P w' = .ok v w' ∧ ∃ φ' N', Rel H' φ' N' w' ∧ Since H φ N w H' φ' N' w' ∧ REnd H' φ' N' w' res (.returned v) := by
    intro s'' hW hres
    obtain ⟨φ2, N2, hI2⟩ := hW.ok hR hI1
    refine ⟨_, run_results rs hr hl _ _, φ2, N2, hI2.rel, hI2.since, ?_⟩
    subst hres
    exact ares_ok hI2.tmps rs
  cases e with
  | normal =>
    obtain ⟨s'', hW, hres⟩ := hq
    exact fin s'' hW hres
  | ret =>
    obtain ⟨s'', hW, hres⟩ := hq
    exact fin s'' hW hres
  | exit i => exact hq.elim
  | panic v =>
    obtain ⟨s'', hW, rfl⟩ := hq
    obtain ⟨φ2, N2, hI2⟩ := hW.ok hR hI1
    exact ⟨φ2, N2, hI2.rel, hI2.since, rfl⟩
/-- The same, where a predicate tells the end. -/
def AEndR (rs : List Tmp) (H0 : AHeap) (R : ARes → AHeap → Prop) : Post := fun e s H =>
  match e with
  | .normal => ∃ s' H', Weak H0 s H s' H' ∧ R (.ok (ares rs s')) H'
  | .ret => ∃ s' H', Weak H0 s H s' H' ∧ R (.ok (ares rs s')) H'
  | _ => False
theorem DoesR.of_awp {f : FuncId} {fn : Func} {body : Code} (hf : P.funcs[f]? = some fn) (hn : (fn.name == "runtime.NumGoroutine") = false) (hb : fn.body = some body) (rs : List Tmp) (hr : fn.results.toList = rs.map .tmp) (hl : rs.length ≤ 4)
    {args : List AV} {H : AHeap} {R : ARes → AHeap → Prop} (ha : args.length ≤ fn.ntmps) (h : awp P hint fn.ntmps H body (AEndR rs H R) (ainit args) H) : DoesR P f args H R := by
  intro φ N w vals hR hA
  refine ⟨enter_run hf hn (by rw [hb]; rfl) vals w, calls_of_awp hf hb ha h hR hA ?_⟩
  intro e s' H1 φ1 N1 tmps w' hI1 hq
  have fin : ∀ (s'' : Nat → AV) H', Weak H s' H1 s'' H' → R (.ok (ares rs s'')) H' → ∃ v, (results fn tmps).run P w' = .ok v w' ∧ ∃ res H' φ' N', R res H' ∧ Rel H' φ' N' w' ∧ Since H φ N w H' φ' N' w' ∧ REnd H' φ' N' w' res (.returned v) := by
    intro s'' H' hW hres
    obtain ⟨φ2, N2, hI2⟩ := hW.ok hR hI1
    exact ⟨_, run_results rs hr hl _ _, _, H', φ2, N2, hres, hI2.rel, hI2.since, ares_ok hI2.tmps rs⟩
  cases e with
  | normal =>
    obtain ⟨s'', H', hW, hres⟩ := hq
    exact fin s'' H' hW hres
  | ret =>
    obtain ⟨s'', H', hW, hres⟩ := hq
    exact fin s'' H' hW hres
  | exit i => exact hq.elim
  | panic v => exact hq.elim
end
end Go.Proofs.YtmbagpfmfiegkaaGreatAw
namespace Go.Proofs.YtmbagpfmfiegkaaGreat.K
open Go.Proofs.YtmbagpfmfiegkaaGreatAw
theorem TI2 : TI Tryz.prog 2 = some ((.int .i64 0 : Value), 1, 8) := by kernel_rfl
theorem agB2 : agB Tryz.prog 2 = some false := by kernel_rfl
theorem SE2 : SE Tryz.prog 2 = none := by kernel_rfl
theorem UK2 : UK Tryz.prog 2 = some .i64 := by kernel_rfl
theorem TI3 : TI Tryz.prog 3 = some ((.int .i64 0 : Value), 1, 8) := by kernel_rfl
theorem agB3 : agB Tryz.prog 3 = some false := by kernel_rfl
theorem SE3 : SE Tryz.prog 3 = none := by kernel_rfl
theorem UK3 : UK Tryz.prog 3 = some .i64 := by kernel_rfl
theorem TI4 : TI Tryz.prog 4 = some ((.bool false : Value), 1, 1) := by kernel_rfl
theorem agB4 : agB Tryz.prog 4 = some false := by kernel_rfl
theorem TI5 : TI Tryz.prog 5 = some ((.int .u8 0 : Value), 1, 1) := by kernel_rfl
theorem agB5 : agB Tryz.prog 5 = some false := by kernel_rfl
theorem SE5 : SE Tryz.prog 5 = none := by kernel_rfl
theorem UK5 : UK Tryz.prog 5 = some .u8 := by kernel_rfl
theorem TI9 : TI Tryz.prog 9 = some ((.string ⟨#[]⟩ : Value), 1, 16) := by kernel_rfl
theorem agB9 : agB Tryz.prog 9 = some false := by kernel_rfl
theorem SE9 : SE Tryz.prog 9 = none := by kernel_rfl
theorem MT9 : MT Tryz.prog 9 = none := by kernel_rfl
theorem US9 : Tryz.prog.underlying 9 = some .string := by kernel_rfl
theorem TI22 : TI Tryz.prog 22 = some ((.slice none 0 0 : Value), 1, 24) := by kernel_rfl
theorem agB22 : agB Tryz.prog 22 = some false := by kernel_rfl
theorem SE22 : SE Tryz.prog 22 = some 5 := by kernel_rfl
theorem TI25 : TI Tryz.prog 25 = some ((.agg #[.int .i64 0, .int .i64 0, .string ⟨#[]⟩] : Value), 3, 32) := by kernel_rfl
theorem agB25 : agB Tryz.prog 25 = some true := by kernel_rfl
theorem FO25_0 : FO Tryz.prog 25 0 = some (0, 3) := by kernel_rfl
theorem FO25_1 : FO Tryz.prog 25 1 = some (1, 2) := by kernel_rfl
theorem FO25_2 : FO Tryz.prog 25 2 = some (2, 9) := by kernel_rfl
theorem SP25 : SP Tryz.prog 25 = some [(0, 1), (1, 1), (2, 1)] := by kernel_rfl
theorem TI27 : TI Tryz.prog 27 = some ((.agg #[.int .i64 0, .int .i64 0, .int .i64 0, .int .i64 0, .string ⟨#[]⟩, .int .i64 0, .int .i64 0, .string ⟨#[]⟩] : Value), 8, 80) := by kernel_rfl
theorem agB27 : agB Tryz.prog 27 = some true := by kernel_rfl
theorem FO27_0 : FO Tryz.prog 27 0 = some (0, 3) := by kernel_rfl
theorem FO27_1 : FO Tryz.prog 27 1 = some (1, 3) := by kernel_rfl
theorem FO27_2 : FO Tryz.prog 27 2 = some (2, 25) := by kernel_rfl
theorem FO27_3 : FO Tryz.prog 27 3 = some (5, 25) := by kernel_rfl
theorem SP27 : SP Tryz.prog 27 = some [(0, 1), (1, 1), (2, 3), (5, 3)] := by kernel_rfl
theorem TI28 : TI Tryz.prog 28 = some ((.slice none 0 0 : Value), 1, 24) := by kernel_rfl
theorem agB28 : agB Tryz.prog 28 = some false := by kernel_rfl
theorem SE28 : SE Tryz.prog 28 = some 4 := by kernel_rfl
theorem TI30 : TI Tryz.prog 30 = some ((.agg #[.int .i64 0, .int .i64 0, .int .i64 0, .int .i64 0, .int .i64 0, .int .i64 0, .string ⟨#[]⟩, .int .i64 0, .int .i64 0, .string ⟨#[]⟩, .slice none 0 0, .slice none 0 0] : Value), 12, 144) := by kernel_rfl
theorem agB30 : agB Tryz.prog 30 = some true := by kernel_rfl
theorem FO30_0 : FO Tryz.prog 30 0 = some (0, 3) := by kernel_rfl
theorem FO30_1 : FO Tryz.prog 30 1 = some (1, 3) := by kernel_rfl
theorem FO30_2 : FO Tryz.prog 30 2 = some (2, 27) := by kernel_rfl
theorem FO30_3 : FO Tryz.prog 30 3 = some (10, 28) := by kernel_rfl
theorem FO30_4 : FO Tryz.prog 30 4 = some (11, 22) := by kernel_rfl
theorem SP30 : SP Tryz.prog 30 = some [(0, 1), (1, 1), (2, 8), (10, 1), (11, 1)] := by kernel_rfl
theorem TI31 : TI Tryz.prog 31 = some ((.int .i64 0 : Value), 1, 8) := by kernel_rfl
theorem agB31 : agB Tryz.prog 31 = some false := by kernel_rfl
theorem NI31 : isIface Tryz.prog 31 = false := by kernel_rfl
theorem TI42 : TI Tryz.prog 42 = some ((.slice none 0 0 : Value), 1, 24) := by kernel_rfl
theorem agB42 : agB Tryz.prog 42 = some false := by kernel_rfl
theorem SE42 : SE Tryz.prog 42 = some 25 := by kernel_rfl
theorem TI44 : TI Tryz.prog 44 = some ((.int .u32 0 : Value), 1, 4) := by kernel_rfl
theorem agB44 : agB Tryz.prog 44 = some false := by kernel_rfl
theorem SE44 : SE Tryz.prog 44 = none := by kernel_rfl
theorem UK44 : UK Tryz.prog 44 = some .u32 := by kernel_rfl
theorem TI49 : TI Tryz.prog 49 = some ((.int .u64 0 : Value), 1, 8) := by kernel_rfl
theorem agB49 : agB Tryz.prog 49 = some false := by kernel_rfl
theorem SE49 : SE Tryz.prog 49 = none := by kernel_rfl
theorem UK49 : UK Tryz.prog 49 = some .u64 := by kernel_rfl
theorem TI78 : TI Tryz.prog 78 = some ((.slice none 0 0 : Value), 1, 24) := by kernel_rfl
theorem agB78 : agB Tryz.prog 78 = some false := by kernel_rfl
theorem SE78 : SE Tryz.prog 78 = some 5 := by kernel_rfl
theorem TI83 : TI Tryz.prog 83 = some ((.agg #[.int .u8 0, .int .u8 0, .int .u8 0, .int .u8 0] : Value), 4, 4) := by kernel_rfl
theorem agB83 : agB Tryz.prog 83 = some true := by kernel_rfl
theorem SE83 : SE Tryz.prog 83 = none := by kernel_rfl
theorem AE83 : AE Tryz.prog 83 = some (4, 5) := by kernel_rfl
theorem TI86 : TI Tryz.prog 86 = some ((.agg (Array.replicate 256 (.int .u32 0)) : Value), 256, 1024) := by kernel_rfl
theorem agB86 : agB Tryz.prog 86 = some true := by kernel_rfl
theorem SE86 : SE Tryz.prog 86 = none := by kernel_rfl
theorem AE86 : AE Tryz.prog 86 = some (256, 44) := by kernel_rfl
theorem TI88 : TI Tryz.prog 88 = some ((.agg #[.int .i64 0, .int .i64 0, .int .i64 0, .int .i64 0] : Value), 4, 32) := by kernel_rfl
theorem SE88 : SE Tryz.prog 88 = none := by kernel_rfl
theorem AE88 : AE Tryz.prog 88 = some (4, 3) := by kernel_rfl
theorem TI94 : TI Tryz.prog 94 = some ((.nilFunc : Value), 1, 8) := by kernel_rfl
theorem agB94 : agB Tryz.prog 94 = some false := by kernel_rfl
theorem TI95 : TI Tryz.prog 95 = some ((.nilFunc : Value), 1, 8) := by kernel_rfl
theorem agB95 : agB Tryz.prog 95 = some false := by kernel_rfl
theorem TI97 : TI Tryz.prog 97 = some ((.agg #[.nilFunc, .nilFunc] : Value), 2, 16) := by kernel_rfl
theorem FO97_0 : FO Tryz.prog 97 0 = some (0, 94) := by kernel_rfl
theorem FO97_1 : FO Tryz.prog 97 1 = some (1, 95) := by kernel_rfl
theorem SP97 : SP Tryz.prog 97 = some [(0, 1), (1, 1)] := by kernel_rfl
theorem MT99 : MT Tryz.prog 99 = some (.i64, 3, 97) := by kernel_rfl
theorem SE105 : SE Tryz.prog 105 = some 3 := by kernel_rfl
theorem SE121 : SE Tryz.prog 121 = none := by kernel_rfl
theorem UK121 : UK Tryz.prog 121 = some .u64 := by kernel_rfl
theorem TI125 : TI Tryz.prog 125 = some ((.agg #[.slice none 0 0, .int .i64 0] : Value), 2, 32) := by kernel_rfl
theorem FO125_0 : FO Tryz.prog 125 0 = some (0, 22) := by kernel_rfl
theorem FO125_1 : FO Tryz.prog 125 1 = some (1, 3) := by kernel_rfl
theorem SP125 : SP Tryz.prog 125 = some [(0, 1), (1, 1)] := by kernel_rfl
theorem SE130 : SE Tryz.prog 130 = some 49 := by kernel_rfl
theorem SE162 : SE Tryz.prog 162 = some 165 := by kernel_rfl
theorem TI165 : TI Tryz.prog 165 = some ((.agg #[.int .i64 0, .int .i64 0, .int .i64 0, .string ⟨#[]⟩] : Value), 4, 40) := by kernel_rfl
theorem agB165 : agB Tryz.prog 165 = some true := by kernel_rfl
theorem FO165_0 : FO Tryz.prog 165 0 = some (0, 3) := by kernel_rfl
theorem FO165_1 : FO Tryz.prog 165 1 = some (1, 25) := by kernel_rfl
theorem SP165 : SP Tryz.prog 165 = some [(0, 1), (1, 3)] := by kernel_rfl
theorem TI192 : TI Tryz.prog 192 = some ((.agg #[.slice none 0 0, .int .i64 0] : Value), 2, 32) := by kernel_rfl
theorem FO192_0 : FO Tryz.prog 192 0 = some (0, 22) := by kernel_rfl
theorem FO192_1 : FO Tryz.prog 192 1 = some (1, 3) := by kernel_rfl
theorem SP192 : SP Tryz.prog 192 = some [(0, 1), (1, 1)] := by kernel_rfl
theorem SE222 : SE Tryz.prog 222 = none := by kernel_rfl
theorem MT222 : MT Tryz.prog 222 = some (.u64, 49, 4) := by kernel_rfl
theorem mixed : Tryz.prog.follows .mixedOrders = true := by kernel_rfl
attribute [go_sem] TI2 agB2 SE2 UK2 TI3 agB3 SE3 UK3 TI4 agB4 TI5 agB5 SE5 UK5 TI9 agB9 SE9 MT9 US9 TI22 agB22 SE22 TI25 agB25 FO25_0 FO25_1 FO25_2 SP25 TI27 agB27 FO27_0 FO27_1 FO27_2 FO27_3 SP27 TI28 agB28 SE28 TI30 agB30 FO30_0 FO30_1 FO30_2 FO30_3 FO30_4 SP30 TI31 agB31 NI31 TI42 agB42 SE42 TI44 agB44 SE44 UK44 TI49 agB49 SE49 UK49 TI78 agB78 SE78 TI83 agB83 SE83 AE83 TI86 agB86 SE86 AE86 TI88 SE88 AE88 TI94 agB94 TI95 agB95 TI97 FO97_0 FO97_1 SP97 MT99 SE105 SE121 UK121 TI125 FO125_0 FO125_1 SP125 SE130 SE162 TI165 agB165 FO165_0 FO165_1 SP165 TI192 FO192_0 FO192_1 SP192 SE222 MT222 mixed
end Go.Proofs.YtmbagpfmfiegkaaGreat.K
namespace Go.Proofs.YtmbagpfmfiegkaaGreatAw
theorem aput_at (n : Nat) (s : Nat → AV) (d : Tmp) (v : AV) (t : Nat) : aput n s (some d) v t = if t = d then (if d < n then v else .top) else s t := rfl
theorem aput_no (n : Nat) (s : Nat → AV) (v : AV) : aput n s none v = s := rfl
theorem aeval_tmp (s : Nat → AV) (t : Tmp) : aeval s (.tmp t) = s t := rfl
theorem aeval_const (s : Nat → AV) (v : Value) : aeval s (.const v) = aconst v := rfl
theorem aeval_func (s : Nat → AV) (f : FuncId) : aeval s (.func f) = .fn f [] := rfl
theorem aconst_int (k : IntKind) (n : Int) : aconst (.int k n) = .d (.v (.int k n)) := rfl
theorem aconst_bool (b : Bool) : aconst (.bool b) = .d (.v (.bool b)) := rfl
theorem aconst_string (b : ByteArray) : aconst (.string b) = .d (.v (.string b)) := rfl
theorem aconst_slice (a : Option Addr) (n c : Nat) : aconst (.slice a n c) = .d (.v (.slice a n c)) := rfl
theorem aconst_pointer (a : Option Addr) : aconst (.pointer a) = .d (.v (.pointer a)) := rfl
theorem aconst_agg (cs : Array Value) : aconst (.agg cs) = if cs.all Value.oneCell' then .agg (cs.toList.map fun c => .d (.v c)) else .top := rfl
theorem aconst_iface (t : TypeId) (v : Value) : aconst (.iface t v) = .d (.v (.iface t v)) := rfl
theorem aconst_nilIface : aconst .nilIface = .d (.v .nilIface) := rfl
theorem aconst_nilFunc : aconst .nilFunc = .d (.v .nilFunc) := rfl
theorem ainit_at (args : List AV) (t : Nat) : ainit args t = args.getD t .top := rfl
theorem closed_v (x : Value) : closed (.d (.v x)) = some x := rfl
theorem closed_list (nn : Bool) (es : List (List D)) : closed (.d (.list nn es)) = none := rfl
theorem closed_ptr (id ver i j : Nat) : closed (.ptr id ver i j) = none := rfl
theorem closed_agg (cs : List AV) : closed (.agg cs) = (closedAll cs).map fun l => .agg l.toArray := rfl
theorem cellsOf_d (x : D) : cellsOf (.d x) = some [.d x] := rfl
theorem cellsOf_sl (id ver off len : Nat) : cellsOf (.sl id ver off len) = some [.sl id ver off len] := rfl
theorem cellsOf_agg (cs : List AV) : cellsOf (.agg cs) = if cs.all AV.one then some cs else none := rfl
theorem cellsOf_fn (f : FuncId) (cs : List AV) : cellsOf (.fn f cs) = some [.fn f cs] := rfl
theorem app_get (H T : AHeap) (k : Nat) : (H ++ T)[H.length + k]? = T[k]? := by rw [List.getElem?_append_right (by omega)]; congr 1; omega
theorem app_get0 (H T : AHeap) : (H ++ T)[H.length]? = T[0]? := app_get H T 0
theorem app_set (H T : AHeap) (k : Nat) (o : AObj) : (H ++ T).set (H.length + k) o = H ++ T.set k o := by
  rw [List.set_append_right _ _ (by omega)]; congr 2; omega
theorem app_set0 (H T : AHeap) (o : AObj) : (H ++ T).set H.length o = H ++ T.set 0 o := app_set H T 0 o
theorem alen_list (H : AHeap) (nn : Bool) (es : List (List D)) : alen H (.d (.list nn es)) = some es.length := rfl
theorem alen_slice (H : AHeap) (a : Option Addr) (n c : Nat) : alen H (.d (.v (.slice a n c))) = some n := rfl
theorem alen_sl (H : AHeap) (id ver off len : Nat) : alen H (.sl id ver off len) = match H[id]? with | some ob => if ob.ver = ver then some len else none | none => none := rfl
theorem asrc_list (H : AHeap) (nn : Bool) (es : List (List D)) : asrc H (.d (.list nn es)) = some es := rfl
theorem aelem_list (H : AHeap) (k : Nat) (i : Int) (nn : Bool) (es : List (List D)) : aelem H k i (.d (.list nn es)) = if 0 ≤ i then (es[i.toNat]?).bind fun e => if e.length = k then some (.iptr e) else none else none := rfl
theorem aread_iptr (H : AHeap) (n : Nat) (cs : List D) : aread H n (.iptr cs) = if n ≤ cs.length then some ((cs.take n).map .d) else none := rfl
theorem aread_ptr (H : AHeap) (n id ver i j : Nat) : aread H n (.ptr id ver i j) = oread H id ver i j n := rfl
theorem awrite_ptr (H : AHeap) (cs : List AV) (id ver i j : Nat) : awrite H cs (.ptr id ver i j) = owrite H id ver i j cs := rfl
theorem amove_ptr (off id ver i j : Nat) : amove off (.ptr id ver i j) = some (.ptr id ver i (j + off)) := rfl
theorem amove_iptr (off : Nat) (cs : List D) : amove off (.iptr cs) = if off ≤ cs.length then some (.iptr (cs.drop off)) else none := rfl
theorem fresh_ptr (H : AHeap) (id ver i j : Nat) : fresh H (.ptr id ver i j) = match H[id]? with | some o => o.ver == ver && o.live | none => false := rfl
theorem fresh_iptr (H : AHeap) (cs : List D) : fresh H (.iptr cs) = true := rfl
theorem toDs_nil : toDs [] = some [] := rfl
theorem toDs_cons (x : AV) (xs : List AV) : toDs (x :: xs) = match x.toD?, toDs xs with | some y, some ys => some (y :: ys) | _, _ => none := rfl
theorem toD_d (x : D) : (AV.d x).toD? = some x := rfl
theorem afill_nil (place : Nat → Option (Nat × Nat)) (cells : List AV) : afill place cells [] = some cells := rfl
theorem afill_cons (place : Nat → Option (Nat × Nat)) (cells : List AV) (i : Nat) (x : AV) (rest : List (Nat × AV)) : afill place cells ((i, x) :: rest) = match place i, cellsOf x with
    | some (off, size), some cs => if cs.length = size ∧ off + size ≤ cells.length then afill place (splice cells off cs) rest else none
    | _, _ => none := rfl
theorem get_snoc_self (H : AHeap) (o : AObj) : (H ++ [o])[H.length]? = some o := by simp
/-- A mark: what bears it is looked into. (simp looks into a term's parts by itself where a congruence of ours turned nothing: so each of ours turns this mark.) -/
def nf {α : Sort _} (x : α) : α := x
theorem nf_id {α : Sort _} (x : α) : nf x = x := rfl
def ob {α : Type} (x : Option α) (K : α → Prop) : Prop := match x with | some a => K a | none => False
theorem ob_some {α : Type} (a : α) (K : α → Prop) : ob (some a) K = K a := rfl
theorem ob_congr {α : Type} {x y : Option α} {K : α → Prop} (h : nf x = y) : ob x K = ob y K := by rw [← h]; rfl
def oalt {α : Type} (x : Option α) (K : α → Prop) (L : Prop) : Prop := match x with | some a => K a | none => L
theorem oalt_some {α : Type} (a : α) (K : α → Prop) (L : Prop) : oalt (some a) K L = K a := rfl
theorem oalt_none {α : Type} (K : α → Prop) (L : Prop) : oalt none K L = L := rfl
theorem oalt_congr {α : Type} {x y : Option α} {K : α → Prop} {L : Prop} (h : nf x = y) : oalt x K L = oalt y K L := by rw [← h]; rfl
def aite (b : Bool) (A B : Prop) : Prop := if b = true then A else B
theorem aite_true (A B : Prop) : aite true A B = A := by simp [aite]
theorem aite_false (A B : Prop) : aite false A B = B := by simp [aite]
theorem aite_congr {b c : Bool} {A B : Prop} (h : nf b = c) : aite b A B = aite c A B := by rw [← h]; rfl
def asB : AV → Option Bool
  | .d (.v (.bool b)) => some b
  | _ => none
theorem asB_bool (b : Bool) : asB (.d (.v (.bool b))) = some b := rfl
def asI : AV → Option Int
  | .d (.v (.int _ i)) => some i
  | _ => none
theorem asI_int (k : IntKind) (i : Int) : asI (.d (.v (.int k i))) = some i := rfl
def asF : AV → Option (FuncId × List AV)
  | .fn f cs => some (f, cs)
  | _ => none
def oc (x : AV) (A : FuncId → List AV → Prop) (B : Nat → Prop) : Prop := match x with
  | .fn f cs => A f cs
  | .yld id => B id
  | _ => False
theorem oc_fn (f : FuncId) (cs : List AV) (A : FuncId → List AV → Prop) (B : Nat → Prop) : oc (.fn f cs) A B = A f cs := rfl
theorem oc_yld (id : Nat) (A : FuncId → List AV → Prop) (B : Nat → Prop) : oc (.yld id) A B = B id := rfl
@[congr] theorem oc_congr {x y : AV} {A : FuncId → List AV → Prop} {B : Nat → Prop} (h : nf x = y) : oc x A B = oc y A B := by rw [← h]; rfl
theorem asF_fn (f : FuncId) (cs : List AV) : asF (.fn f cs) = some (f, cs) := rfl
def asT : AV → Option (List AV)
  | .tup cs => some cs
  | _ => none
theorem asT_tup (cs : List AV) : asT (.tup cs) = some cs := rfl
def asSt : Option Value → Option ByteArray
  | some (.string b) => some b
  | _ => none
theorem asSt_string (b : ByteArray) : asSt (some (.string b)) = some b := rfl
def asIn : Option Value → Option Int
  | some (.int _ i) => some i
  | _ => none
theorem asIn_int (k : IntKind) (i : Int) : asIn (some (.int k i)) = some i := rfl
def as1 {α : Type} : Option (List α) → Option α
  | some [c] => some c
  | _ => none
theorem as1_one {α : Type} (c : α) : as1 (some [c]) = some c := rfl
theorem beq_tf : (true == false) = false := rfl
theorem beq_ft : (false == true) = false := rfl
attribute [go_sem] nf_id beq_tf beq_ft ob_some oalt_some oalt_none aite_true aite_false asB_bool asI_int asF_fn oc_fn oc_yld asT_tup asSt_string asIn_int as1_one
def TIok (P : Program) (t : TypeId) : Bool := match TI P t with | some (z, k, _) => decide (0 < k) && z.cells.size == k && z.cells.all Value.oneCell' | none => false
theorem TIok_eq {P : Program} {t : TypeId} {z : Value} {k b : Nat} (h : TI P t = some (z, k, b)) : (TIok P t = true) = (0 < k ∧ z.cells.size = k ∧ z.cells.all Value.oneCell' = true) := by
  simp [TIok, h, and_assoc]

section
variable (P : Program) (hint : Nat → Bool) (n : Nat) (H0 : AHeap)
def KOp (ops : Array Oper) (Q : Post) (rest : List Oper) (s : Nat → AV) (d : Option Tmp) : AV → AHeap → Prop := fun r H' => awpList P hint n ops Q rest (aput n s d r) H'
def KPan (Q : Post) (s : Nat → AV) : Value → AHeap → Prop := fun v H' => Q (.panic v) s H'
def KSeq (y : Code) (Q : Post) : Post := fun e s' H' => match e with | .normal => (if hintAt hint y = true then ∃ s'' H'', Weak H0 s' H' s'' H'' ∧ awp P hint n H0 y Q s'' H'' else awp P hint n H0 y Q s' H') | e => Q e s' H'
def KBlock (id : Nat) (Q : Post) : Post := fun e s' H' => match e with | .exit i => if i = id then Q .normal s' H' else Q (.exit i) s' H' | e => Q e s' H'
def KLoop (R : (Nat → AV) → AHeap → Prop) (Q : Post) : Post := fun e s' H' => match e with | .normal => R s' H' | e => Q e s' H'
def KVal (K : AV → AHeap → Prop) (H : AHeap) : Value → Prop := fun r => K (aconst r) H
theorem KOp_app (ops : Array Oper) (Q : Post) (rest : List Oper) (s : Nat → AV) (d : Option Tmp) (r : AV) (H : AHeap) : KOp P hint n ops Q rest s d r H = awpList P hint n ops Q rest (aput n s d r) H := rfl
theorem KPan_app (Q : Post) (s : Nat → AV) (v : Value) (H : AHeap) : KPan Q s v H = Q (.panic v) s H := rfl
theorem KSeq_normal (y : Code) (Q : Post) (s : Nat → AV) (H : AHeap) : KSeq P hint n H0 y Q .normal s H = aite (hintAt hint y) (∃ s'' H'', Weak H0 s H s'' H'' ∧ awp P hint n H0 y Q s'' H'') (awp P hint n H0 y Q s H) := rfl
theorem hintAt_seq (x y : Code) : hintAt hint (.seq x y) = hintAt hint x := rfl
theorem hintAt_region (id : Nat) (ops : Array Oper) (b : Bool) : hintAt hint (.region id ops b) = hint (id + 1000000) := rfl
theorem hintAt_cond (c : Operand) (x y : Code) : hintAt hint (.cond c x y) = false := rfl
theorem hintAt_block (id : Nat) (x : Code) : hintAt hint (.block id x) = false := rfl
theorem hintAt_ret : hintAt hint .ret = false := rfl
theorem hintAt_exit (id : Nat) : hintAt hint (.exit id) = false := rfl
attribute [go_sem] hintAt_seq hintAt_region hintAt_cond hintAt_block hintAt_ret hintAt_exit
theorem KSeq_exit (y : Code) (Q : Post) (i : Nat) (s : Nat → AV) (H : AHeap) : KSeq P hint n H0 y Q (.exit i) s H = Q (.exit i) s H := rfl
theorem KSeq_ret (y : Code) (Q : Post) (s : Nat → AV) (H : AHeap) : KSeq P hint n H0 y Q .ret s H = Q .ret s H := rfl
theorem KSeq_panic (y : Code) (Q : Post) (v : Value) (s : Nat → AV) (H : AHeap) : KSeq P hint n H0 y Q (.panic v) s H = Q (.panic v) s H := rfl
theorem KBlock_normal (id : Nat) (Q : Post) (s : Nat → AV) (H : AHeap) : KBlock id Q .normal s H = Q .normal s H := rfl
theorem KBlock_exit (id : Nat) (Q : Post) (i : Nat) (s : Nat → AV) (H : AHeap) : KBlock id Q (.exit i) s H = if i = id then Q .normal s H else Q (.exit i) s H := rfl
theorem KBlock_ret (id : Nat) (Q : Post) (s : Nat → AV) (H : AHeap) : KBlock id Q .ret s H = Q .ret s H := rfl
theorem KBlock_panic (id : Nat) (Q : Post) (v : Value) (s : Nat → AV) (H : AHeap) : KBlock id Q (.panic v) s H = Q (.panic v) s H := rfl
theorem KLoop_normal (R : (Nat → AV) → AHeap → Prop) (Q : Post) (s : Nat → AV) (H : AHeap) : KLoop R Q .normal s H = R s H := rfl
theorem KLoop_exit (R : (Nat → AV) → AHeap → Prop) (Q : Post) (i : Nat) (s : Nat → AV) (H : AHeap) : KLoop R Q (.exit i) s H = Q (.exit i) s H := rfl
theorem KLoop_ret (R : (Nat → AV) → AHeap → Prop) (Q : Post) (s : Nat → AV) (H : AHeap) : KLoop R Q .ret s H = Q .ret s H := rfl
theorem KLoop_panic (R : (Nat → AV) → AHeap → Prop) (Q : Post) (v : Value) (s : Nat → AV) (H : AHeap) : KLoop R Q (.panic v) s H = Q (.panic v) s H := rfl
theorem KVal_app (K : AV → AHeap → Prop) (H : AHeap) (r : Value) : KVal K H r = K (aconst r) H := rfl

theorem awp_skip (Q : Post) (s : Nat → AV) (H : AHeap) : awp P hint n H0 .skip Q s H = Q .normal s H := rfl
theorem awp_region (id : Nat) (ops : Array Oper) (Q : Post) (s : Nat → AV) (H : AHeap) : awp P hint n H0 (.region id ops false) Q s H = awpList P hint n ops Q ops.toList s H := rfl
theorem awp_seq (x y : Code) (Q : Post) (s : Nat → AV) (H : AHeap) : awp P hint n H0 (.seq x y) Q s H = awp P hint n H0 x (KSeq P hint n H0 y Q) s H := rfl
theorem awp_cond (c : Operand) (x y : Code) (Q : Post) (s : Nat → AV) (H : AHeap) : awp P hint n H0 (.cond c x y) Q s H = (match aeval s c with | .d (.v (.bool b)) => if b = true then awp P hint n H0 x Q s H else awp P hint n H0 y Q s H | _ => False) := rfl
theorem awp_block (id : Nat) (x : Code) (Q : Post) (s : Nat → AV) (H : AHeap) : awp P hint n H0 (.block id x) Q s H = awp P hint n H0 x (KBlock id Q) s H := rfl
theorem awp_exit (id : Nat) (Q : Post) (s : Nat → AV) (H : AHeap) : awp P hint n H0 (.exit id) Q s H = Q (.exit id) s H := rfl
theorem awp_ret (Q : Post) (s : Nat → AV) (H : AHeap) : awp P hint n H0 .ret Q s H = Q .ret s H := rfl
theorem awp_loop {α : Type} (I : α → (Nat → AV) → AHeap → Prop) (μ : α → Nat) (x0 : α) {body : Code} {Q : Post} {s s' : Nat → AV} {H H' : AHeap} (hW : Weak H0 s H s' H') (h0 : I x0 s' H')
    (step : ∀ x s H, I x s H → awp P hint n H0 body (KLoop (fun s' H' => ∃ s'' H'' y, Weak H0 s' H' s'' H'' ∧ I y s'' H'' ∧ μ y < μ x) Q) s H) : awp P hint n H0 (.loop body) Q s H := by
  refine ⟨fun m s H => ∃ x, μ x = m ∧ I x s H ∧ awp P hint n H0 body (KLoop (fun s' H' => ∃ s'' H'' y, Weak H0 s' H' s'' H'' ∧ I y s'' H'' ∧ μ y < μ x) Q) s H, μ x0, ⟨s', H', hW, x0, rfl, h0, step x0 s' H' h0⟩, ?_⟩
  rintro m s H ⟨x, rfl, hI, h⟩
  have e : (KLoop (fun s' H' => ∃ s'' H'' y, Weak H0 s' H' s'' H'' ∧ I y s'' H'' ∧ μ y < μ x) Q : Post) = fun e s' H' => match e with
      | .normal => ∃ s'' H'' m', Weak H0 s' H' s'' H'' ∧ (∃ x, μ x = m' ∧ I x s'' H'' ∧ awp P hint n H0 body (KLoop (fun s' H' => ∃ s'' H'' y, Weak H0 s' H' s'' H'' ∧ I y s'' H'' ∧ μ y < μ x) Q) s'' H'') ∧ m' < μ x
      | e => Q e s' H' := by
    funext e s' H'
    cases e with
    | normal =>
      refine propext ⟨?_, ?_⟩
      · rintro ⟨s'', H'', y, hW, hI, hlt⟩
        exact ⟨s'', H'', μ y, hW, ⟨y, rfl, hI, step y s'' H'' hI⟩, hlt⟩
      · rintro ⟨s'', H'', m', hW, ⟨y, rfl, hI, _⟩, hlt⟩
        exact ⟨s'', H'', y, hW, hI, hlt⟩
    | _ => rfl
  rw [e] at h
  exact h

theorem awpList_nil (ops : Array Oper) (Q : Post) (s : Nat → AV) (H : AHeap) : awpList P hint n ops Q [] s H = Q .normal s H := rfl
theorem awpList_none (ops : Array Oper) (Q : Post) (d : Option Tmp) (op : Op) (ty : TypeId) (p : String) (af : Array Edge) (rest : List Oper) (s : Nat → AV) (H : AHeap) :
    awpList P hint n ops Q (⟨d, op, ty, p, af, none⟩ :: rest) s H = astep P hint s H ⟨d, op, ty, p, af, none⟩ (KOp P hint n ops Q rest s d) (KPan Q s) := rfl
theorem awpList_guard (ops : Array Oper) (Q : Post) (d : Option Tmp) (op : Op) (ty : TypeId) (p : String) (af : Array Edge) (j : Nat) (b : Bool) (rest : List Oper) (s : Nat → AV) (H : AHeap) :
    awpList P hint n ops Q (⟨d, op, ty, p, af, some (j, b)⟩ :: rest) s H = ob (ayield ops s n j b) fun b' => aite b' (astep P hint s H ⟨d, op, ty, p, af, some (j, b)⟩ (KOp P hint n ops Q rest s d) (KPan Q s)) (awpList P hint n ops Q rest (aput n s d (.tup [])) H) := by
  simp only [awpList, awpOp]
  cases ayield ops s n j b with
  | none => rfl
  | some b' => cases b' <;> rfl
theorem asW_bool (w b : Bool) : asW w (.d (.v (.bool b))) = some (b == w) := rfl
theorem asW_tup (w : Bool) : asW w (.tup []) = some false := rfl
theorem ayield_eq (ops : Array Oper) (s : Nat → AV) (j : Nat) (w : Bool) : ayield ops s n j w = ((ops[j]?).bind (·.dst)).bind fun d => if d < n then asW w (s d) else none := by
  unfold ayield
  cases (ops[j]?).bind (·.dst) with
  | none => rfl
  | some d => rfl
end
section
variable (P : Program) (hint : Nat → Bool) (s : Nat → AV) (H : AHeap) (d : Option Tmp) (ty : TypeId) (p : String) (af : Array Edge) (g : Option (Nat × Bool)) (K : AV → AHeap → Prop) (KP : Value → AHeap → Prop)
def hintOf (hint : Nat → Bool) (d : Option Tmp) : Bool := match d with | some d => hint d | none => false
theorem st_move (x : Operand) : astep P hint s H ⟨d, .move x, ty, p, af, g⟩ K KP = K (aeval s x) H := rfl
theorem st_assign (x : Operand) : astep P hint s H ⟨d, .assign x, ty, p, af, g⟩ K KP = K (aeval s x) H := rfl
theorem st_pick (c x y : Operand) : astep P hint s H ⟨d, .pick c x y, ty, p, af, g⟩ K KP = ob (asB (aeval s c)) fun t => K (if t = true then aeval s x else aeval s y) H := by
  simp only [astep, aop]
  cases aeval s c <;> first | rfl | (rename_i u; cases u <;> first | rfl | (rename_i v; cases v <;> rfl))
/-- A variable is laid down in a place that was kept for it. -/
def KHole (e : TypeId) (z : Value) (k : Nat) (H : AHeap) (K : AV → AHeap → Prop) : Prop := ∃ id e', H[id]? = some (.arr e' k 0 []) ∧ K (.ptr id 1 0 0) (H.set id (.box e k 1 1 (dcells z.cells)))
theorem st_alloc (e : TypeId) : astep P hint s H ⟨d, .alloc e, ty, p, af, g⟩ K KP = ob (TI P e) fun z => TIok P e = true ∧ aite (hintOf hint d) (KHole e z.1 z.2.1 H K) (K (.ptr H.length 0 0 0) (H ++ [.box e z.2.1 0 1 (dcells z.1.cells)])) := by
  simp only [astep, aop]
  rcases h : TI P e with _ | ⟨z, k, b⟩
  · rfl
  · simp only [ob_some, TIok_eq h]
    cases d with
    | none => rfl
    | some d =>
      simp only [hintOf]
      by_cases hh : hint d = true
      · rw [if_pos hh, hh]; rfl
      · rw [if_neg hh, show hint d = false by simpa using hh]; rfl
theorem st_box (e : TypeId) (x : Operand) : astep P hint s H ⟨d, .box e x, ty, p, af, g⟩ K KP = ob (cellsOf (aeval s x)) fun cs => 0 < cs.length ∧ K (.ptr H.length 0 0 0) (H ++ [.box e cs.length 0 1 cs]) := by
  simp only [astep, aop]
  cases cellsOf (aeval s x) <;> rfl
theorem st_build (t : TypeId) (ps : Array (Nat × Operand)) : astep P hint s H ⟨d, .build t ps, ty, p, af, g⟩ K KP = ob (TI P t) fun z => z.1.cells.all Value.oneCell' = true ∧ oalt (SP P t) (fun places => ob (afill (places.toArray[·]?) (dcells z.1.cells) (aparts s ps)) fun out => K (.agg out) H)
    (ob (AE P t) fun ne => ob (TI P ne.2) fun ze => ob (afill (fun i => some (i * ze.2.1, ze.2.1)) (dcells z.1.cells) (aparts s ps)) fun out => K (.agg out) H) := by
  simp only [astep, aop]
  rcases TI P t with _ | ⟨z, k, b⟩
  · rfl
  · simp only [ob_some]
    congr 1
    cases SP P t with
    | some pl => simp only [oalt_some]; cases afill (pl.toArray[·]?) (dcells z.cells) (aparts s ps) <;> rfl
    | none =>
      simp only [oalt_none]
      rcases AE P t with _ | ⟨m, e⟩
      · rfl
      · simp only [ob_some]
        rcases TI P e with _ | ⟨ze, ke, be⟩
        · rfl
        · simp only [ob_some]; cases afill (fun i => some (i * ke, ke)) (dcells z.cells) (aparts s ps) <;> rfl
theorem st_buildSlice (t : TypeId) (m : Nat) (ps : Array (Nat × Operand)) : astep P hint s H ⟨d, .buildSlice t (m + 1) ps, ty, p, af, g⟩ K KP = ob (SE P t) fun e => ob (TI P e) fun z =>
    (TIok P e = true ∧ (m + 1) * z.2.1 ≤ 16777216) ∧ ob (afill (fun i => some (i * z.2.1, z.2.1)) (zcells z.1 ((m + 1) * z.2.1)) (aparts s ps)) fun out => ob (toDs out) fun ds =>
      aite (hintOf hint d) (K (.sl H.length 0 0 (m + 1)) (H ++ [.arr e z.2.1 0 (chunk (m + 1) z.2.1 ds)])) (K (.d (.list true (chunk (m + 1) z.2.1 ds))) H) := by
  simp only [astep, aop]
  cases SE P t with
  | none => rfl
  | some e =>
    simp only [ob_some]
    rcases h : TI P e with _ | ⟨z, k, b⟩
    · rfl
    · simp only [ob_some, Nat.add_one_ne_zero, if_false]
      have hc : (z.cells.size = k ∧ z.cells.all Value.oneCell' = true ∧ (m + 1) * k ≤ 16777216 ∧ 0 < (m + 1) * k) = (TIok P e = true ∧ (m + 1) * k ≤ 16777216) := by
        rw [TIok_eq h]
        refine propext ⟨fun ⟨h1, h2, h3, h4⟩ => ⟨⟨Nat.pos_of_mul_pos_left h4, h1, h2⟩, h3⟩, fun ⟨⟨h0, h1, h2⟩, h3⟩ => ⟨h1, h2, h3, Nat.mul_pos (Nat.succ_pos m) h0⟩⟩
      rw [hc]
      congr 1
      cases afill (fun i => some (i * k, k)) (zcells z ((m + 1) * k)) (aparts s ps) with
      | none => rfl
      | some out =>
        simp only [ob_some]
        cases toDs out with
        | none => rfl
        | some ds => rfl
theorem st_buildSlice0 (t : TypeId) (ps : Array (Nat × Operand)) : astep P hint s H ⟨d, .buildSlice t 0 ps, ty, p, af, g⟩ K KP = ob (SE P t) fun e => ob (TI P e) fun _ => ps = #[] ∧ K .cap0 H := by
  simp only [astep, aop]
  cases SE P t with
  | none => rfl
  | some e =>
    simp only [ob_some]
    rcases TI P e with _ | ⟨z, k, b⟩ <;> simp [ob]
theorem st_load (t : TypeId) (x : Operand) : astep P hint s H ⟨d, .load t x, ty, p, af, g⟩ K KP = ob (agB P t) fun b => aite b (ob (TI P t) fun z => ob (aread H z.2.1 (aeval s x)) fun cs => K (.agg cs) H) (ob (as1 (aread H 1 (aeval s x))) fun c => K c H) := by
  simp only [astep, aop]
  cases agB P t with
  | none => rfl
  | some b =>
    cases b with
    | true =>
      simp only [ob_some, aite_true]
      rcases TI P t with _ | ⟨z, k, b⟩
      · rfl
      · simp only [ob_some]; cases aread H k (aeval s x) <;> rfl
    | false =>
      simp only [ob_some, aite_false]
      cases aread H 1 (aeval s x) with
      | none => rfl
      | some cs => rcases cs with _ | ⟨c, _ | ⟨c', l⟩⟩ <;> rfl
theorem st_store (t : TypeId) (x y : Operand) : astep P hint s H ⟨d, .store t x y, ty, p, af, g⟩ K KP = ob (TI P t) fun z => ob (cellsOf (aeval s y)) fun cs => cs.length = z.2.1 ∧ ob (awrite H cs (aeval s x)) fun H' => K .top H' := by
  simp only [astep, aop]
  rcases TI P t with _ | ⟨z, k, b⟩
  · rfl
  · simp only [ob_some]
    cases cellsOf (aeval s y) with
    | none => rfl
    | some cs => simp only [ob_some]; congr 1; cases awrite H cs (aeval s x) <;> rfl
theorem st_fieldAddr (t : TypeId) (x : Operand) (f : Nat) : astep P hint s H ⟨d, .fieldAddr t x f, ty, p, af, g⟩ K KP = ob (FO P t f) fun o => ob (TI P o.2) fun z => 0 < z.2.1 ∧ fresh H (aeval s x) = true ∧ ob (amove o.1 (aeval s x)) fun y => K y H := by
  simp only [astep, aop]
  rcases FO P t f with _ | ⟨off, ft⟩
  · rfl
  · simp only [ob_some]
    rcases TI P ft with _ | ⟨z, k, b⟩
    · rfl
    · simp only [ob_some]; congr 2; cases amove off (aeval s x) <;> rfl
theorem st_indexAddr (t : TypeId) (x i : Operand) : astep P hint s H ⟨d, .indexAddr t x i, ty, p, af, g⟩ K KP = ob (asI (aeval s i)) fun i => oalt (SE P t) (fun e => ob (TI P e) fun z => ob (aelem H z.2.1 i (aeval s x)) fun y => K y H)
    (ob (AE P t) fun ne => ob (TI P ne.2) fun z => 0 ≤ i ∧ i < ne.1 ∧ fresh H (aeval s x) = true ∧ ob (amove (i.toNat * z.2.1) (aeval s x)) fun y => K y H) := by
  have main : ∀ n : Int, (match SE P t with
      | some e => (match TI P e with | some (_, k, _) => (match aelem H k n (aeval s x) with | some y => K y H | none => False) | none => False)
      | none => (match AE P t with
        | some (m, e) => (match TI P e with | some (_, k, _) => 0 ≤ n ∧ n < m ∧ fresh H (aeval s x) = true ∧ (match amove (n.toNat * k) (aeval s x) with | some y => K y H | none => False) | none => False)
        | none => False)) = oalt (SE P t) (fun e => ob (TI P e) fun z => ob (aelem H z.2.1 n (aeval s x)) fun y => K y H)
    (ob (AE P t) fun ne => ob (TI P ne.2) fun z => 0 ≤ n ∧ n < ne.1 ∧ fresh H (aeval s x) = true ∧ ob (amove (n.toNat * z.2.1) (aeval s x)) fun y => K y H) := by
    intro n
    cases SE P t with
    | some e =>
      simp only [oalt_some]
      rcases TI P e with _ | ⟨z, k, b⟩
      · rfl
      · simp only [ob_some]; cases aelem H k n (aeval s x) <;> rfl
    | none =>
      simp only [oalt_none]
      rcases AE P t with _ | ⟨m, e⟩
      · rfl
      · simp only [ob_some]
        rcases TI P e with _ | ⟨z, k, b⟩
        · rfl
        · simp only [ob_some]; congr 3; cases amove (n.toNat * k) (aeval s x) <;> rfl
  simp only [astep, aop]
  cases aeval s i <;> first | rfl | skip
  rename_i u
  cases u <;> first | rfl | skip
  rename_i v
  cases v <;> first | rfl | exact main _
def ob2 {α β : Type} (x : Option α) (y : Option β) (F : α → β → Prop) (L : Prop) : Prop := match x, y with | some a, some b => F a b | _, _ => L
theorem ob2_some {α β : Type} (a : α) (b : β) (F : α → β → Prop) (L : Prop) : ob2 (some a) (some b) F L = F a b := rfl
theorem ob2_noneL {α β : Type} (y : Option β) (F : α → β → Prop) (L : Prop) : ob2 none y F L = L := rfl
theorem ob2_congr {α β : Type} {x x' : Option α} {y y' : Option β} {F : α → β → Prop} {L : Prop} (g : nf x = x') (h : nf y = y') : ob2 x y F L = ob2 x' y' F L := by rw [← g, ← h]; rfl
attribute [go_sem] ob2_some ob2_noneL
theorem st_bin (op : BinOp) (t : TypeId) (x y : Operand) (t' : TypeId) : astep P hint s H ⟨d, .binOp op t x y t', ty, p, af, g⟩ K KP = ob2 (closed (aeval s x)) (closed (aeval s y)) (fun u v => binK P op t u v (KVal K H)) (nilCmp P H op t (aeval s x) (aeval s y) = true ∧ K (.d (.v (.bool (isNeq op)))) H) := by
  simp only [astep, aop]
  cases closed (aeval s x) with
  | none => rfl
  | some u => cases closed (aeval s y) <;> rfl
theorem st_un (op : UnOp) (t : TypeId) (x : Operand) : astep P hint s H ⟨d, .unOp op t x, ty, p, af, g⟩ K KP = ob (closed (aeval s x)) fun u => unK op u (KVal K H) := by
  simp only [astep, aop]
  cases closed (aeval s x) <;> rfl
def asLi : AV → Option (List (List D))
  | .d (.list _ es) => some es
  | _ => none
theorem asLi_list (nn : Bool) (es : List (List D)) : asLi (.d (.list nn es)) = some es := rfl
theorem st_convert (a b : TypeId) (x : Operand) : astep P hint s H ⟨d, .convert a b x, ty, p, af, g⟩ K KP = oalt (SE P a) (fun e => UK P e = some .u8 ∧ P.underlying b = some .string ∧ ob (asLi (aeval s x)) fun es => ob (asBytes es) fun ns => K (.d (.v (.string (pushAll ns)))) H)
    (ob (asIn (closed (aeval s x))) fun n => ob (UK P a) fun _ => ob (UK P b) fun k => K (.d (.v (.int k (k.wrap n)))) H) := by
  have main : ∀ n : Int, (match UK P a, UK P b with | some _, some k => K (.d (.v (.int k (k.wrap n)))) H | _, _ => False) = ob (UK P a) fun _ => ob (UK P b) fun k => K (.d (.v (.int k (k.wrap n)))) H := by
    intro n
    cases UK P a with
    | none => rfl
    | some _ => simp only [ob_some]; cases UK P b <;> rfl
  simp only [astep, aop]
  cases SE P a with
  | some e =>
    simp only [oalt_some]
    congr 2
    cases aeval s x <;> first | rfl | (rename_i u; cases u <;> first | rfl | (rename_i es; simp only [asLi_list, ob_some]; cases asBytes es <;> rfl))
  | none =>
    simp only [oalt_none]
    cases closed (aeval s x) with
    | none => rfl
    | some v => cases v <;> first | rfl | exact main _
theorem st_extract (x : Operand) (i : Nat) : astep P hint s H ⟨d, .extract x i, ty, p, af, g⟩ K KP = ob (asT (aeval s x)) fun cs => ob cs[i]? fun c => K c H := by
  simp only [astep, aop]
  cases aeval s x <;> first | rfl | skip
  rename_i cs
  simp only [asT_tup, ob_some]
  cases cs[i]? <;> rfl
theorem st_makeFunc (f : FuncId) (x y : Array Operand) : astep P hint s H ⟨d, .makeFunc (.func f) x y, ty, p, af, g⟩ K KP = (x = #[] ∧ K (.fn f (y.toList.map (aeval s))) H) := rfl
theorem st_nilCheck (x : Operand) : astep P hint s H ⟨d, .nilCheck x, ty, p, af, g⟩ K KP = (nonNil H (aeval s x) = true ∧ K (aeval s x) H) := rfl
theorem st_makeInterface (t : TypeId) (x : Operand) : astep P hint s H ⟨d, .makeInterface t x, ty, p, af, g⟩ K KP = ob (closed (aeval s x)) fun u => isIface P t = false ∧ K (.d (.v (.iface t u))) H := by
  simp only [astep, aop]
  cases closed (aeval s x) <;> rfl
def asMp : AV → Option Nat
  | .mp id => some id
  | _ => none
theorem asMp_mp (id : Nat) : asMp (.mp id) = some id := rfl
def asMo : Option AObj → Option (IntKind × List (Int × AV))
  | some (.mp kk es) => some (kk, es)
  | _ => none
theorem asMo_mp (kk : IntKind) (es : List (Int × AV)) : asMo (some (.mp kk es)) = some (kk, es) := rfl
def asIk : Option Value → Option (IntKind × Int)
  | some (.int k i) => some (k, i)
  | _ => none
theorem asIk_int (k : IntKind) (i : Int) : asIk (some (.int k i)) = some (k, i) := rfl
attribute [go_sem] asMp_mp asMo_mp asIk_int
theorem st_len (x : Operand) (t : TypeId) (ts : Array TypeId) (h : ts.toList = [t]) : astep P hint s H ⟨d, .call ⟨.builtin .len, #[x], ts⟩, ty, p, af, g⟩ K KP = oalt (SE P t) (fun _ => ob (alen H (aeval s x)) fun n => K (.d (.v (.int .i64 n))) H)
    (oalt (MT P t) (fun m => ob (asMp (aeval s x)) fun id => ob (asMo H[id]?) fun o => o.1 = m.1 ∧ K (.d (.v (.int .i64 o.2.length))) H)
    (P.underlying t = some .string ∧ ob (asSt (closed (aeval s x))) fun b => K (.d (.v (.int .i64 b.size))) H)) := by
  simp only [astep, abuiltin, h]
  cases SE P t with
  | some e => simp only [oalt_some]; cases alen H (aeval s x) <;> rfl
  | none =>
    simp only [oalt_none]
    rcases MT P t with _ | ⟨kk, kt, e⟩
    · simp only [oalt_none]
      congr 1
      cases closed (aeval s x) with
      | none => rfl
      | some v => cases v <;> rfl
    · simp only [oalt_some]
      cases aeval s x with
      | mp id =>
        simp only [asMp_mp, ob_some]
        rcases H[id]? with _ | o
        · rfl
        · cases o <;> rfl
      | _ => rfl
theorem st_len1 (x : Operand) (t : TypeId) : astep P hint s H ⟨d, .call ⟨.builtin .len, #[x], #[t]⟩, ty, p, af, g⟩ K KP = oalt (SE P t) (fun _ => ob (alen H (aeval s x)) fun n => K (.d (.v (.int .i64 n))) H)
    (oalt (MT P t) (fun m => ob (asMp (aeval s x)) fun id => ob (asMo H[id]?) fun o => o.1 = m.1 ∧ K (.d (.v (.int .i64 o.2.length))) H)
    (P.underlying t = some .string ∧ ob (asSt (closed (aeval s x))) fun b => K (.d (.v (.int .i64 b.size))) H)) := st_len P hint s H d ty p af g K KP x t #[t] rfl
theorem st_min (x : Operand) (xs : List Operand) (ts : Array TypeId) : astep P hint s H ⟨d, .call ⟨.builtin .min, ⟨x :: xs⟩, ts⟩, ty, p, af, g⟩ K KP = ob (asIk (closed (aeval s x))) fun n => ob (intArgs s n.1 xs) fun ns => K (.d (.v (.int n.1 (ns.foldl min n.2)))) H := by
  simp only [astep, abuiltin]
  cases closed (aeval s x) with
  | none => rfl
  | some v => cases v <;> first | rfl | (rename_i k n; simp only [asIk_int, ob_some]; cases intArgs s k xs <;> rfl)
theorem st_max (x : Operand) (xs : List Operand) (ts : Array TypeId) : astep P hint s H ⟨d, .call ⟨.builtin .max, ⟨x :: xs⟩, ts⟩, ty, p, af, g⟩ K KP = ob (asIk (closed (aeval s x))) fun n => ob (intArgs s n.1 xs) fun ns => K (.d (.v (.int n.1 (ns.foldl max n.2)))) H := by
  simp only [astep, abuiltin]
  cases closed (aeval s x) with
  | none => rfl
  | some v => cases v <;> first | rfl | (rename_i k n; simp only [asIk_int, ob_some]; cases intArgs s k xs <;> rfl)
theorem intArgs_nil (k : IntKind) : intArgs s k [] = some [] := rfl
theorem intArgs_cons (k : IntKind) (x : Operand) (xs : List Operand) : intArgs s k (x :: xs) = (asIk (closed (aeval s x))).bind fun n => (intArgs s k xs).bind fun ns => if n.1 = k then some (n.2 :: ns) else none := by
  show (match closed (aeval s x), intArgs s k xs with | some (.int k' n), some ns => if k' = k then some (n :: ns) else none | _, _ => none) = _
  cases closed (aeval s x) with
  | none => rfl
  | some v => cases v <;> first | rfl | (cases intArgs s k xs <;> rfl)
theorem st_slice (t : TypeId) (x : Operand) (lo hi : Option Operand) : astep P hint s H ⟨d, .slice t x lo hi none, ty, p, af, g⟩ K KP = oalt (SE P t) (fun e => ob (TI P e) fun z => aslice H z.2.1 (sliceLo s lo) (fun n => sliceHi s n hi) K (aeval s x))
    (oalt (AE P t) (fun ne => (lo.isNone = true ∧ hi.isNone = true) ∧ ob (TI P ne.2) fun z => z.2.1 = 1 ∧ aslB H ne.1 K (aeval s x))
    (P.underlying t = some .string ∧ ob (asSt (closed (aeval s x))) fun b => ob (sliceLo s lo) fun l => ob (sliceHi s b.size hi) fun h => 0 ≤ l ∧ l ≤ h ∧ h ≤ b.size ∧ K (.d (.v (.string (b.extract l.toNat h.toNat)))) H)) := by
  simp only [astep, aop]
  cases SE P t with
  | some e =>
    simp only [oalt_some]
    rcases TI P e with _ | ⟨z, k, b⟩ <;> rfl
  | none =>
    simp only [oalt_none]
    rcases AE P t with _ | ⟨n, e⟩
    · simp only [oalt_none]
      congr 1
      cases closed (aeval s x) with
      | none => rfl
      | some v =>
        cases v <;> first | rfl | skip
        rename_i b
        simp only [asSt_string, ob_some]
        cases sliceLo s lo with
        | none => rfl
        | some l => simp only [ob_some]; cases sliceHi s b.size hi <;> rfl
    · simp only [oalt_some]
      rcases TI P e with _ | ⟨z, k, b⟩ <;> rfl
theorem aslB_iptr (n : Nat) (K : AV → AHeap → Prop) (ds : List D) : aslB H n K (.iptr ds) = (ds.length = n ∧ K (.d (.list true (ds.map fun d => [d]))) H) := rfl
theorem st_arrayAt (t : TypeId) (x : Operand) : astep P hint s H ⟨d, .sliceToArrayPointer t x, ty, p, af, g⟩ K KP = ob (AE P t) fun ne => ob (asLi (aeval s x)) fun es => ob (ones es) fun ds => (0 < ne.1 ∧ ne.1 ≤ ds.length) ∧ K (.iptr (ds.take ne.1)) H := by
  simp only [astep, aop]
  rcases AE P t with _ | ⟨n, e⟩
  · rfl
  · simp only [ob_some]
    cases aeval s x with
    | d u =>
      cases u with
      | v _ => rfl
      | list nn es => simp only [asLi_list, ob_some]; cases ones es <;> rfl
    | _ => rfl
theorem aslice_list (k : Nat) (lo : Option Int) (hi : Nat → Option Int) (K : AV → AHeap → Prop) (nn : Bool) (es : List (List D)) : aslice H k lo hi K (.d (.list nn es)) = ((∀ c ∈ es, c.length = k) ∧ ob lo fun l => ob (hi es.length) fun h => 0 ≤ l ∧ l ≤ h ∧ h ≤ es.length ∧ K (.d (.list false ((es.take h.toNat).drop l.toNat))) H) := by
  simp only [aslice]
  congr 1
  cases lo with
  | none => rfl
  | some l => simp only [ob_some]; cases hi es.length <;> rfl
theorem aslice_sl (k : Nat) (lo : Option Int) (hi : Nat → Option Int) (K : AV → AHeap → Prop) (id ver off len : Nat) : aslice H k lo hi K (.sl id ver off len) = (ob H[id]? fun o => ob lo fun l => ob (hi len) fun h => (o.ver = ver ∧ o.k = k ∧ o.live = true) ∧ 0 ≤ l ∧ l ≤ h ∧ h ≤ len ∧ (l = 0 ∨ l < h) ∧ K (.sl id ver (off + l.toNat) (h.toNat - l.toNat)) H) := by
  simp only [aslice]
  cases H[id]? with
  | none => rfl
  | some o =>
    cases lo with
    | none => rfl
    | some l => simp only [ob_some]; cases hi len <;> rfl
theorem st_slice3 (t : TypeId) (x : Operand) (lo : Option Operand) (hi mx : Operand) : astep P hint s H ⟨d, .slice t x lo (some hi) (some mx), ty, p, af, g⟩ K KP = ob (SE P t) fun e => ob (TI P e) fun z => aslice3 H z.2.1 (sliceLo s lo) (sliceLo s (some hi)) (sliceLo s (some mx)) K (aeval s x) := by
  simp only [astep, aop]
  cases SE P t with
  | some e =>
    simp only [ob_some]
    rcases TI P e with _ | ⟨z, k, b⟩ <;> rfl
  | none => rfl
theorem aslice3_list (k : Nat) (lo hi mx : Option Int) (K : AV → AHeap → Prop) (nn : Bool) (es : List (List D)) : aslice3 H k lo hi mx K (.d (.list nn es)) = ((∀ c ∈ es, c.length = k) ∧ ob lo fun l => ob hi fun h => ob mx fun m => 0 ≤ l ∧ l ≤ h ∧ h ≤ m ∧ m ≤ es.length ∧ K (.d (.list false ((es.take h.toNat).drop l.toNat))) H) := by
  cases lo <;> cases hi <;> cases mx <;> rfl
theorem st_typeAssert (x : Operand) (xT t : TypeId) (ok : Bool) : astep P hint s H ⟨d, .typeAssert x xT t ok, ty, p, af, g⟩ K KP = aassert P t ok H K (closed (aeval s x)) := rfl
theorem aassert_iface (t : TypeId) (ok : Bool) (K : AV → AHeap → Prop) (t' : TypeId) (u : Value) : aassert P t ok H K (some (.iface t' u)) = (isIface P t = false ∧ if t' = t then K (if ok = true then .tup [aconst u, .d (.v (.bool true))] else aconst u) H else ok = true ∧ ob (TI P t) fun z => K (.tup [aconst z.1, .d (.v (.bool false))]) H) := by
  simp only [aassert, assertR]
  by_cases h : t' = t
  · simp only [h, if_true]
  · simp only [h, if_false, assertNo]
    cases ok
    · simp
    · cases TI P t <;> simp [ob]
theorem st_clear (x : Operand) (t : TypeId) : astep P hint s H ⟨d, .call ⟨.builtin .clear, #[x], #[t]⟩, ty, p, af, g⟩ K KP = ob (SE P t) fun e => ob (TI P e) fun z => (z.1.cells.size = z.2.1 ∧ z.1.cells.all Value.oneCell' = true) ∧ (match aeval s x with
        | .sl id ver off len => (match H[id]? with
          | some (.arr e' k' ver' es) => (e' = e ∧ k' = z.2.1 ∧ ver' = ver) ∧ K (.tup []) (H.set id (.arr e z.2.1 ver (setRows es off (zrows z.1 len))))
          | _ => False)
        | _ => False) := by
  simp only [astep, abuiltin]
  cases SE P t with
  | none => rfl
  | some e =>
    simp only [ob_some]
    rcases TI P e with _ | ⟨z, k, b⟩ <;> rfl
theorem st_copy (x y : Operand) (t t' : TypeId) : astep P hint s H ⟨d, .call ⟨.builtin .copy, #[x, y], #[t, t']⟩, ty, p, af, g⟩ K KP = ob (SE P t) fun e => ob (TI P e) fun z => ob (asrc H (aeval s y)) fun news => (∀ c ∈ news, c.length = z.2.1) ∧ (match aeval s x with
        | .sl id ver off len => (match H[id]? with
          | some (.arr e' k' ver' es) => (e' = e ∧ k' = z.2.1 ∧ ver' = ver) ∧ K (.d (.v (.int .i64 ((min news.length len : Nat) : Int)))) (H.set id (.arr e z.2.1 ver (setRows es off (news.take (min news.length len)))))
          | _ => False)
        | _ => False) := by
  simp only [astep, abuiltin]
  cases SE P t with
  | none => rfl
  | some e =>
    simp only [ob_some]
    rcases TI P e with _ | ⟨z, k, b⟩
    · rfl
    · simp only [ob_some]
      cases asrc H (aeval s y) <;> rfl
theorem sliceLo_none : sliceLo s none = some 0 := rfl
theorem sliceLo_some (x : Operand) : sliceLo s (some x) = asIn (closed (aeval s x)) := by
  simp only [sliceLo]
  cases closed (aeval s x) with
  | none => rfl
  | some v => cases v <;> rfl
theorem sliceHi_none (n : Nat) : sliceHi s n none = some (n : Int) := rfl
theorem sliceHi_some (n : Nat) (x : Operand) : sliceHi s n (some x) = asIn (closed (aeval s x)) := by
  simp only [sliceHi]
  cases closed (aeval s x) with
  | none => rfl
  | some v => cases v <;> rfl
theorem st_index (t : TypeId) (x ix : Operand) : astep P hint s H ⟨d, .index t x ix, ty, p, af, g⟩ K KP = (P.underlying t = some .string ∧ ob (asSt (closed (aeval s x))) fun b => ob (asIn (closed (aeval s ix))) fun i => 0 ≤ i ∧ ob b[i.toNat]? fun u => K (.d (.v (.int .u8 u.toNat))) H) := by
  simp only [astep, aop]
  congr 1
  cases closed (aeval s x) with
  | none => rfl
  | some v =>
    cases v <;> first | rfl | skip
    rename_i b
    cases closed (aeval s ix) with
    | none => rfl
    | some v =>
      cases v <;> first | rfl | skip
      simp only [asSt_string, ob_some, asIn_int]
      rename_i i
      congr 1
      cases b[i.toNat]? <;> rfl
theorem st_makeMap (t : TypeId) : astep P hint s H ⟨d, .makeMap t none, ty, p, af, g⟩ K KP = ob (MT P t) fun m => K (.mp H.length) (H ++ [.mp m.1 []]) := by
  simp only [astep, aop]
  rcases MT P t with _ | ⟨kk, kt, e⟩ <;> rfl
theorem st_makeSlice (t : TypeId) (l c : Operand) : astep P hint s H ⟨d, .makeSlice t l c, ty, p, af, g⟩ K KP = ob (SE P t) fun e => ob (TI P e) fun z => ob (asIn (closed (aeval s l))) fun n => ob (asIn (closed (aeval s c))) fun m =>
    (TIok P e = true ∧ m = n ∧ 0 ≤ n ∧ n ≤ 1000000000000 ∧ n * (z.2.2 : Int) ≤ 140737488355328) ∧ K (.sl H.length 0 0 n.toNat) (H ++ [.arr e z.2.1 0 (List.replicate n.toNat (z.1.cells.toList.map D.v))]) := by
  simp only [astep, aop]
  cases SE P t with
  | none => rfl
  | some e =>
    simp only [ob_some]
    rcases h : TI P e with _ | ⟨z, k, b⟩
    · rfl
    · simp only [ob_some, TIok_eq h]
      cases closed (aeval s l) with
      | none => rfl
      | some v =>
        cases v <;> first | rfl | skip
        cases closed (aeval s c) with
        | none => rfl
        | some v =>
          cases v <;> first | rfl | skip
          simp only [asIn_int, ob_some, and_assoc]
def asIt : Option AObj → Option (Nat × Nat × List Nat)
  | some (.iter m since seen) => some (m, since, seen)
  | _ => none
theorem asIt_iter (m since : Nat) (seen : List Nat) : asIt (some (.iter m since seen)) = some (m, since, seen) := rfl
def asP0 : AV → Option Nat
  | .ptr id 0 0 0 => some id
  | _ => none
theorem asP0_ptr (id : Nat) : asP0 (.ptr id 0 0 0) = some id := rfl
theorem st_range (t : TypeId) (x : Operand) : astep P hint s H ⟨d, .range t x, ty, p, af, g⟩ K KP = ob (MT P t) fun m => ob (asMp (aeval s x)) fun id => ob (asMo H[id]?) fun o => o.1 = m.1 ∧ K (.ptr H.length 0 0 0) (H ++ [.iter id o.2.length []]) := by
  simp only [astep, aop]
  rcases MT P t with _ | ⟨kk, kt, e⟩
  · rfl
  · simp only [ob_some]
    cases aeval s x with
    | mp id =>
      simp only [asMp_mp, ob_some]
      rcases H[id]? with _ | o
      · rfl
      · cases o <;> rfl
    | _ => rfl
theorem st_entry (x : Operand) : astep P hint s H ⟨d, .entry x, ty, p, af, g⟩ K KP = ob (asP0 (aeval s x)) fun id => ob (asIt H[id]?) fun it => ob (asMo H[it.1]?) fun o => ob it.2.2.getLast? fun j => ob o.2[j]? fun e => it.2.1 = o.2.length ∧ K (.tup [.d (.v (.int o.1 e.1)), e.2]) H := by
  simp only [astep, aop]
  generalize aeval s x = v
  cases v with
  | ptr id ver i j =>
    cases ver with
    | succ _ => rfl
    | zero =>
      cases i with
      | succ _ => rfl
      | zero =>
        cases j with
        | succ _ => rfl
        | zero =>
            simp only [asP0_ptr, ob_some]
            rcases H[id]? with _ | o
            · rfl
            · cases o with
              | iter m since seen =>
                simp only [asIt_iter, ob_some]
                rcases H[m]? with _ | o
                · rfl
                · cases o with
                  | mp kk es =>
                    simp only [asMo_mp, ob_some]
                    rcases seen.getLast? with _ | j
                    · rfl
                    · simp only [ob_some]
                      rcases es[j]? with _ | e <;> rfl
                  | _ => rfl
              | _ => rfl
  | _ => rfl
theorem st_next (x : Operand) : astep P hint s H ⟨d, .next x false, ty, p, af, g⟩ K KP = ob (asP0 (aeval s x)) fun id => ob (asIt H[id]?) fun it => ob (asMo H[it.1]?) fun o => it.2.1 = o.2.length ∧ ((∀ j, j < o.2.length → j ∈ it.2.2) → K (.tup [.d (.v (.bool false))]) H) ∧
    ∀ j e, o.2[j]? = some e → j ∉ it.2.2 → K (.tup [.d (.v (.bool true)), .d (.v (.int o.1 e.1)), e.2]) (H.set id (.iter it.1 it.2.1 (it.2.2 ++ [j]))) := by
  simp only [astep, aop]
  generalize aeval s x = v
  cases v with
  | ptr id ver i j =>
    cases ver with
    | succ _ => rfl
    | zero =>
      cases i with
      | succ _ => rfl
      | zero =>
        cases j with
        | succ _ => rfl
        | zero =>
            simp only [asP0_ptr, ob_some]
            rcases H[id]? with _ | o
            · rfl
            · cases o with
              | iter m since seen =>
                simp only [asIt_iter, ob_some]
                rcases H[m]? with _ | o
                · rfl
                · cases o with
                  | mp kk es => simp only [asMo_mp, ob_some]
                  | _ => rfl
              | _ => rfl
  | _ => rfl
theorem st_lookup (t : TypeId) (x ix : Operand) (ok : Bool) : astep P hint s H ⟨d, .lookup t x ix ok, ty, p, af, g⟩ K KP = ob (MT P t) fun m => ob (TI P m.2.2) fun z => ob (asMp (aeval s x)) fun id => ob (asMo H[id]?) fun o => ob (asIk (closed (aeval s ix))) fun n =>
    (o.1 = m.1 ∧ n.1 = m.1) ∧ K (if ok then .tup [(mpGet n.2 o.2).getD (aconst z.1), .d (.v (.bool (mpGet n.2 o.2).isSome))] else (mpGet n.2 o.2).getD (aconst z.1)) H := by
  simp only [astep, aop]
  rcases MT P t with _ | ⟨kk, kt, e⟩
  · rfl
  · simp only [ob_some]
    rcases TI P e with _ | ⟨z, k, b⟩
    · rfl
    · simp only [ob_some]
      cases aeval s x with
      | mp id =>
        simp only [asMp_mp, ob_some]
        rcases H[id]? with _ | o
        · rfl
        · cases o with
          | mp kk es =>
            simp only [asMo_mp, ob_some]
            rcases closed (aeval s ix) with _ | v
            · rfl
            · cases v <;> rfl
          | _ => rfl
      | _ => rfl
theorem st_mapUpdate (t : TypeId) (x ix y : Operand) : astep P hint s H ⟨d, .mapUpdate t x ix y, ty, p, af, g⟩ K KP = ob (MT P t) fun m => ob (asMp (aeval s x)) fun id => ob (asMo H[id]?) fun o => ob (asIk (closed (aeval s ix))) fun n =>
    (o.1 = m.1 ∧ n.1 = m.1) ∧ K .top (H.set id (.mp m.1 (mpPut n.2 (aeval s y) o.2))) := by
  simp only [astep, aop]
  rcases MT P t with _ | ⟨kk, kt, e⟩
  · rfl
  · simp only [ob_some]
    cases aeval s x with
    | mp id =>
      simp only [asMp_mp, ob_some]
      rcases H[id]? with _ | o
      · rfl
      · cases o with
        | mp kk es =>
          simp only [asMo_mp, ob_some]
          rcases closed (aeval s ix) with _ | v
          · rfl
          · cases v <;> rfl
        | _ => rfl
    | _ => rfl
theorem st_insert (t : TypeId) (x ix y : Operand) : astep P hint s H ⟨d, .insert t x ix y, ty, p, af, g⟩ K KP = astep P hint s H ⟨d, .mapUpdate t x ix y, ty, p, af, g⟩ K KP := by simp only [astep, aop]
theorem un_not (b : Bool) (K : Value → Prop) : unK .not (.bool b) K = K (.bool !b) := rfl
theorem un_neg (k : IntKind) (n : Int) (K : Value → Prop) : unK .neg (.int k n) K = K (.int k (k.wrap (0 - n))) := rfl
def notI (k : IntKind) (n : Int) : Int := (BitVec.ofInt k.bits (if k.signed then -1 else k.max) ^^^ BitVec.ofInt k.bits n).toNat
theorem un_xor (k : IntKind) (n : Int) (K : Value → Prop) : unK .xor (.int k n) K = K (.int k (k.wrap (notI k n))) := rfl
attribute [go_sem] un_not un_neg un_xor Option.getD_some Option.getD_none Option.isSome_some Option.isSome_none
def shlI (k : IntKind) (m n : Int) : Int := m * 2 ^ (min n.toNat k.bits)
def shrI (k : IntKind) (m n : Int) : Int := m.fdiv (2 ^ (min n.toNat k.bits))
def andI (k : IntKind) (m n : Int) : Int := (BitVec.ofInt k.bits m &&& BitVec.ofInt k.bits n).toNat
def orI (k : IntKind) (m n : Int) : Int := (BitVec.ofInt k.bits m ||| BitVec.ofInt k.bits n).toNat
def xorI (k : IntKind) (m n : Int) : Int := (BitVec.ofInt k.bits m ^^^ BitVec.ofInt k.bits n).toNat
def andNotI (k : IntKind) (m n : Int) : Int := (BitVec.ofInt k.bits m &&& ~~~BitVec.ofInt k.bits n).toNat
theorem bi_shl (P : Program) (t : TypeId) (k k' : IntKind) (m n : Int) (K : Value → Prop) : binK P .shl t (.int k m) (.int k' n) K = (0 ≤ n ∧ K (.int k (k.wrap (shlI k m n)))) := rfl
theorem bi_shr (P : Program) (t : TypeId) (k k' : IntKind) (m n : Int) (K : Value → Prop) : binK P .shr t (.int k m) (.int k' n) K = (0 ≤ n ∧ K (.int k (shrI k m n))) := rfl
theorem bi_add (P : Program) (t : TypeId) (k k' : IntKind) (m n : Int) (K : Value → Prop) : binK P .add t (.int k m) (.int k' n) K = (k = k' ∧ K (.int k (k.wrap (m + n)))) := rfl
theorem bi_sub (P : Program) (t : TypeId) (k k' : IntKind) (m n : Int) (K : Value → Prop) : binK P .sub t (.int k m) (.int k' n) K = (k = k' ∧ K (.int k (k.wrap (m - n)))) := rfl
theorem bi_mul (P : Program) (t : TypeId) (k k' : IntKind) (m n : Int) (K : Value → Prop) : binK P .mul t (.int k m) (.int k' n) K = (k = k' ∧ K (.int k (k.wrap (m * n)))) := rfl
theorem bi_quo (P : Program) (t : TypeId) (k k' : IntKind) (m n : Int) (K : Value → Prop) : binK P .quo t (.int k m) (.int k' n) K = (k = k' ∧ n ≠ 0 ∧ K (.int k (k.wrap (m.tdiv n)))) := rfl
theorem bi_rem (P : Program) (t : TypeId) (k k' : IntKind) (m n : Int) (K : Value → Prop) : binK P .rem t (.int k m) (.int k' n) K = (k = k' ∧ n ≠ 0 ∧ K (.int k (m.tmod n))) := rfl
theorem bi_and (P : Program) (t : TypeId) (k k' : IntKind) (m n : Int) (K : Value → Prop) : binK P .and t (.int k m) (.int k' n) K = (k = k' ∧ K (.int k (k.wrap (andI k m n)))) := rfl
theorem bi_or (P : Program) (t : TypeId) (k k' : IntKind) (m n : Int) (K : Value → Prop) : binK P .or t (.int k m) (.int k' n) K = (k = k' ∧ K (.int k (k.wrap (orI k m n)))) := rfl
theorem bi_xor (P : Program) (t : TypeId) (k k' : IntKind) (m n : Int) (K : Value → Prop) : binK P .xor t (.int k m) (.int k' n) K = (k = k' ∧ K (.int k (k.wrap (xorI k m n)))) := rfl
theorem bi_andNot (P : Program) (t : TypeId) (k k' : IntKind) (m n : Int) (K : Value → Prop) : binK P .andNot t (.int k m) (.int k' n) K = (k = k' ∧ K (.int k (k.wrap (andNotI k m n)))) := rfl
theorem bi_eql (P : Program) (t : TypeId) (k k' : IntKind) (m n : Int) (K : Value → Prop) : binK P .eql t (.int k m) (.int k' n) K = (k = k' ∧ K (.bool (m == n))) := rfl
theorem bi_neq (P : Program) (t : TypeId) (k k' : IntKind) (m n : Int) (K : Value → Prop) : binK P .neq t (.int k m) (.int k' n) K = (k = k' ∧ K (.bool (m != n))) := rfl
theorem bi_lss (P : Program) (t : TypeId) (k k' : IntKind) (m n : Int) (K : Value → Prop) : binK P .lss t (.int k m) (.int k' n) K = (k = k' ∧ K (.bool (decide (m < n)))) := rfl
theorem bi_leq (P : Program) (t : TypeId) (k k' : IntKind) (m n : Int) (K : Value → Prop) : binK P .leq t (.int k m) (.int k' n) K = (k = k' ∧ K (.bool (decide (m ≤ n)))) := rfl
theorem bi_gtr (P : Program) (t : TypeId) (k k' : IntKind) (m n : Int) (K : Value → Prop) : binK P .gtr t (.int k m) (.int k' n) K = (k = k' ∧ K (.bool (decide (m > n)))) := rfl
theorem bi_geq (P : Program) (t : TypeId) (k k' : IntKind) (m n : Int) (K : Value → Prop) : binK P .geq t (.int k m) (.int k' n) K = (k = k' ∧ K (.bool (decide (m ≥ n)))) := rfl
theorem bs_eql (P : Program) (t : TypeId) (m n : ByteArray) (K : Value → Prop) : binK P .eql t (.string m) (.string n) K = K (.bool (m.toList == n.toList)) := rfl
theorem bs_neq (P : Program) (t : TypeId) (m n : ByteArray) (K : Value → Prop) : binK P .neq t (.string m) (.string n) K = K (.bool (!(m.toList == n.toList))) := rfl
theorem bs_lss (P : Program) (t : TypeId) (m n : ByteArray) (K : Value → Prop) : binK P .lss t (.string m) (.string n) K = K (.bool (Op.bytesLess m.toList n.toList)) := rfl
theorem bs_gtr (P : Program) (t : TypeId) (m n : ByteArray) (K : Value → Prop) : binK P .gtr t (.string m) (.string n) K = K (.bool (!(Op.bytesLess m.toList n.toList || m.toList == n.toList))) := rfl
attribute [go_sem] bi_shl bi_shr bi_add bi_sub bi_mul bi_quo bi_rem bi_and bi_or bi_xor bi_andNot bi_eql bi_neq bi_lss bi_leq bi_gtr bi_geq bs_eql bs_neq bs_lss bs_gtr
/-- append: where to. -/
def appTo (H : AHeap) (e : TypeId) (k b : Nat) (news : List (List D)) (K : AV → AHeap → Prop) : AV → Prop
  | .sl id ver 0 len => ob H[id]? fun o => match o with
    | .arr e' k' ver' es => (e' = e ∧ k' = k ∧ ver' = ver ∧ es.length = len) ∧ (es.length + news.length) * b ≤ 140737488355328 ∧ es.length + news.length ≤ 9223372036854775807 ∧
        K (.sl id (ver + 1) 0 (es.length + news.length)) (H.set id (.arr e k (ver + 1) (es ++ news)))
    | _ => False
  | x => isNone x = true ∧ news.length * b ≤ 140737488355328 ∧ news.length ≤ 9223372036854775807 ∧ K (.sl H.length 1 0 news.length) (H ++ [.arr e k 1 news])
theorem appTo_cap0 (H : AHeap) (e : TypeId) (k b : Nat) (news : List (List D)) (K : AV → AHeap → Prop) : appTo H e k b news K .cap0 = (news.length * b ≤ 140737488355328 ∧ news.length ≤ 9223372036854775807 ∧ K (.sl H.length 1 0 news.length) (H ++ [.arr e k 1 news])) := by
  simp [appTo, isNone]
theorem st_append (x y : Operand) (t t' : TypeId) : astep P hint s H ⟨d, .call ⟨.builtin .append, #[x, y], #[t, t']⟩, ty, p, af, g⟩ K KP = ob (SE P t) fun e => ob (TI P e) fun z => (z.1.cells.size = z.2.1 ∧ 0 < z.2.1) ∧ ob (asrc2 P t t' z.2.1 H (aeval s y)) fun news =>
    (∀ c ∈ news, c.length = z.2.1) ∧ appTo H e z.2.1 z.2.2 news K (aeval s x) := by
  simp only [astep, abuiltin]
  cases SE P t with
  | none => simp [ob]
  | some e =>
    simp only [ob_some]
    rcases TI P e with _ | ⟨z, k, b⟩
    · rfl
    · simp only [ob_some]
      congr 1
      cases asrc2 P t t' k H (aeval s y) with
      | none => rfl
      | some news =>
        simp only [ob_some]
        congr 1
        cases aeval s x with
        | sl id ver off len =>
          cases off with
          | zero =>
            simp only [appTo]
            cases H[id]? with
            | none => rfl
            | some ob => cases ob <;> rfl
          | succ off => rfl
        | _ => rfl
/-- A call: what is asked of it. -/
def KCall (P : Program) (f : FuncId) (args : List AV) (H : AHeap) (K : AV → AHeap → Prop) (KP : Value → AHeap → Prop) : Prop := ∃ res H', Does P f args H res H' ∧ (match res with | .ok r => K r H' | .panic v => KP v H')
/-- A round of a range over a function: what is asked of it. -/
def KYld (P : Program) (id : Nat) (args : List AV) (H : AHeap) (K : AV → AHeap → Prop) : Prop := ∃ R, YDoes P H id args R ∧ ∀ b H', R b H' → K (.d (.v (.bool b))) H'
theorem KYld.ok {P : Program} {id : Nat} {args : List AV} {H : AHeap} {K : AV → AHeap → Prop} {R : Bool → AHeap → Prop} (h : YDoes P H id args R) (hk : ∀ b H', R b H' → K (.d (.v (.bool b))) H') : KYld P id args H K := ⟨R, h, hk⟩
theorem st_call (f : Operand) (xs : Array Operand) (ts : Array TypeId) : astep P hint s H ⟨d, .call ⟨.value f, xs, ts⟩, ty, p, af, g⟩ K KP = oc (aeval s f) (fun f cs => KCall P f (xs.toList.map (aeval s) ++ cs) H K KP) (fun id => hint 3000000 = true ∧ KYld P id (xs.toList.map (aeval s)) H K) := by
  simp only [astep]
  cases aeval s f <;> rfl
theorem st_panic (x : Operand) : astep P hint s H ⟨d, .panic x, ty, p, af, g⟩ K KP = (match closed (aeval s x) with | some (.iface t u) => KP (.iface t u) H | _ => False) := rfl
theorem KCall.ok {P : Program} {f : FuncId} {args : List AV} {H : AHeap} {K : AV → AHeap → Prop} {KP : Value → AHeap → Prop} {r : AV} {H' : AHeap} (h : Does P f args H (.ok r) H') (hk : K r H') : KCall P f args H K KP := ⟨_, _, h, hk⟩
theorem KCall.panic {P : Program} {f : FuncId} {args : List AV} {H : AHeap} {K : AV → AHeap → Prop} {KP : Value → AHeap → Prop} {v : Value} {H' : AHeap} (h : Does P f args H (.panic v) H') (hk : KP v H') : KCall P f args H K KP := ⟨_, _, h, hk⟩
end
attribute [go_sem] KOp_app KPan_app KSeq_normal KSeq_exit KSeq_ret KSeq_panic KBlock_normal KBlock_exit KBlock_ret KBlock_panic KLoop_normal KLoop_exit KLoop_ret KLoop_panic KVal_app awp_skip awp_region awp_seq awp_block awp_exit awp_ret awpList_nil awpList_none awpList_guard st_range st_entry st_next asIt_iter asP0_ptr st_move st_assign st_pick st_alloc st_box st_build st_buildSlice st_buildSlice0 st_load st_store st_fieldAddr st_indexAddr st_bin st_un st_convert asLi_list st_extract st_makeFunc st_nilCheck st_makeInterface st_panic st_len1 st_makeMap st_makeSlice st_lookup st_mapUpdate st_slice aslB_iptr st_arrayAt Option.isNone_none Option.isNone_some aslice_list aslice_sl st_slice3 aslice3_list st_typeAssert aassert_iface st_clear st_copy sliceLo_none sliceLo_some sliceHi_none sliceHi_some st_index st_insert st_min st_max intArgs_nil intArgs_cons List.foldl_cons List.foldl_nil st_append st_call ayield_eq asW_bool asW_tup appTo_cap0 aput_at aput_no aeval_tmp aeval_const aeval_func aconst_int aconst_bool aconst_string aconst_slice aconst_pointer aconst_agg aconst_iface aconst_nilIface aconst_nilFunc ainit_at closed_v closed_list closed_ptr closed_agg closedAll cellsOf_d cellsOf_sl cellsOf_agg cellsOf_fn alen_list alen_slice alen_sl asrc_list aelem_list aread_iptr aread_ptr awrite_ptr amove_ptr amove_iptr fresh_ptr fresh_iptr toDs_nil toDs_cons toD_d afill_nil afill_cons get_snoc_self app_get app_get0 app_set app_set0 List.set_cons_zero List.set_cons_succ aparts chunk zcells splice dcells ares AObj.ver AObj.k AObj.live AObj.len Bool.and_true AV.one hintOf nonNil isNone
theorem tail_append (H T : AHeap) : ∀ i o, i < H.length → (H ++ T)[i]? = some o → H[i]? = some o ∨ o.below H.length = true := fun i o hi h => .inl (by rwa [List.getElem?_append_left hi] at h)
theorem Weak.drop (H T : AHeap) (s : Nat → AV) : Weak H s (H ++ T) (fun t => frz (H ++ T) H.length (s t)) H := by
  have := Weak.trunc (H0 := H) s (H ++ T) H.length (Nat.le_refl _) (by simp) (tail_append H T)
  rwa [List.take_left] at this
theorem AEnd.ret {rs : List Tmp} {H T : AHeap} {s : Nat → AV} {r : AV} (h : r = ares rs fun t => frz (H ++ T) H.length (s t)) : AEnd rs H (.ok r) H .ret s (H ++ T) := ⟨_, Weak.drop H T s, by rw [h]⟩
theorem AEnd.ret0 {rs : List Tmp} {H : AHeap} {s : Nat → AV} {r : AV} (h : r = ares rs s) : AEnd rs H (.ok r) H .ret s H := ⟨_, Weak.refl s H, by rw [h]⟩
theorem frz_d (H : AHeap) (m : Nat) (x : D) : frz H m (.d x) = .d x := rfl
theorem frz_agg (H : AHeap) (m : Nat) (cs : List AV) : frz H m (.agg cs) = .agg (cs.map (frz0 H m)) := rfl
theorem frz_sl (H : AHeap) (m id v off len : Nat) : frz H m (.sl id v off len) = frz0 H m (.sl id v off len) := rfl
theorem frz_ptr (H : AHeap) (m id v i j : Nat) : frz H m (.ptr id v i j) = frz0 H m (.ptr id v i j) := rfl
theorem frz0_d (H : AHeap) (m : Nat) (x : D) : frz0 H m (.d x) = .d x := rfl
theorem frz0_sl (H : AHeap) (m id v off len : Nat) : frz0 H m (.sl id v off len) = if id < m then .sl id v off len else match H[id]? with
    | some (.arr _ _ ver es) => if ver = v then .d (.list false ((es.drop off).take len)) else .top
    | _ => .top := rfl
theorem frz0_ptr (H : AHeap) (m id v i j : Nat) : frz0 H m (.ptr id v i j) = if id < m then .ptr id v i j else .top := rfl
theorem Weak.virt1 (H : AHeap) (s : Nat → AV) (t : Nat) (e : TypeId) (k : Nat) (hk : 0 < k) (h : isNone (s t) = true) (H0 : AHeap) : Weak H0 s H (fun u => if u = t then .sl H.length 0 0 0 else s u) (H ++ [.arr e k 0 []]) := .virt s H t e k hk h
attribute [go_sem] frz_d frz_agg frz_sl frz_ptr frz0_d frz0_sl frz0_ptr
theorem getD_zero {α : Type} (x : α) (l : List α) (d : α) : (x :: l).getD 0 d = x := rfl
theorem getD_succ {α : Type} (x : α) (l : List α) (n : Nat) (d : α) : (x :: l).getD (n + 1) d = l.getD n d := rfl
theorem getD_nil {α : Type} (n : Nat) (d : α) : ([] : List α).getD n d = d := rfl
theorem toList_mk {α : Type} (l : List α) : l.toArray.toList = l := rfl
theorem getElem_toArray' {α : Type} (l : List α) (i : Nat) : l.toArray[i]? = l[i]? := by simp
attribute [go_sem] getD_zero getD_succ getD_nil toList_mk getElem_toArray' List.map_cons List.map_nil List.length_cons List.length_nil List.length_map List.getElem?_cons_zero List.getElem?_cons_succ List.getElem?_map List.getElem?_nil Option.map_some Option.map_none Option.bind_some Option.bind_none List.take_succ_cons List.take_zero List.take_nil List.drop_succ_cons List.drop_zero List.drop_nil List.append_assoc List.cons_append List.nil_append List.all_cons List.all_nil Bool.and_true Bool.true_and Bool.and_false Bool.false_and Bool.and_self Nat.zero_add Nat.add_zero Nat.zero_mul Nat.mul_zero Nat.one_mul Nat.mul_one Bool.not_true Bool.not_false Int.toNat_natCast Int.natCast_nonneg List.size_toArray true_and and_true beq_self_eq_true decide_true decide_false if_true if_false Nat.le_refl ne_eq not_true not_false_iff reduceCtorEq Array.toList_map List.length_append List.mem_cons List.not_mem_nil or_false forall_eq Int.ofNat_lt Int.ofNat_le
theorem range0 : List.range 0 = [] := rfl
theorem one_int (k : IntKind) (n : Int) : (Value.int k n).oneCell' = true := rfl
theorem one_string (b : ByteArray) : (Value.string b).oneCell' = true := rfl
theorem one_slice (a : Option Addr) (n c : Nat) : (Value.slice a n c).oneCell' = true := rfl
theorem one_nilFunc : Value.nilFunc.oneCell' = true := rfl
theorem wrap64_in (n : Int) (h0 : -9223372036854775808 ≤ n) (h1 : n ≤ 9223372036854775807) : IntKind.i64.wrap n = n := by
  simp [IntKind.wrap, IntKind.signed, IntKind.bits]; omega
theorem wrapu64_in (n : Int) (h0 : 0 ≤ n) (h1 : n ≤ 18446744073709551615) : IntKind.u64.wrap n = n := by
  simp [IntKind.wrap, IntKind.signed, IntKind.bits]; omega
theorem wrapu8_in (n : Int) (h0 : 0 ≤ n) (h1 : n ≤ 255) : IntKind.u8.wrap n = n := by
  simp [IntKind.wrap, IntKind.signed, IntKind.bits]; omega
attribute [go_sem] ge_iff_le gt_iff_lt range0 one_int one_string one_slice one_nilFunc List.getElem!_toArray List.getElem!_cons_zero List.getElem!_cons_succ
theorem all_arr (l : List Value) : l.toArray.all Value.oneCell' = l.all Value.oneCell' := by simp
theorem take_len {α : Type} (l : List α) (n : Nat) (h : l.length = n) : l.take n = l := by subst h; simp
attribute [go_sem ↓] all_arr
end Go.Proofs.YtmbagpfmfiegkaaGreatAw
namespace Go.Proofs.YtmbagpfmfiegkaaGreatAw
open Go.RowKit
set_option linter.unusedVariables false

theorem Rel.nothing {N : Addr → Prop} {w : World} (h : ∀ a, N a → ∃ v, w.cell? a = some v) : Rel [] (fun _ => none) N w where
  obj id o h := by simp at h
  inj i j B c c' hi := by simp at hi
  live := h
  apart a id B c ha hid := by simp at hid

/-- The law is true, and nothing that was has turned. -/
theorem Does.walk {P : Program} {f : FuncId} {fn : Func} {body : Code} (hf : P.funcs[f]? = some fn) (hn : (fn.name == "runtime.NumGoroutine") = false) (hb : fn.body = some body) {args : List AV}
    (h : Does P f args [] (.ok (.d (.v (.bool true)))) []) (N : Addr → Prop) (w : World) (vals : Array Value) (hN : ∀ a, N a → ∃ v, w.cell? a = some v) (hA : RAs [] (fun _ => none) N w args vals) :
    Calls P f vals w fun e w' => e = .returned (.bool true) ∧ Below w.heap.size w w' := by
  rcases h (fun _ => none) N w vals (Rel.nothing hN) hA with ⟨_, h⟩ | ⟨v, w', h, _⟩
  · refine h.mono ?_
    rintro e w' ⟨φ', N', hR, hS, hE⟩
    refine ⟨?_, hS.os, hS.tape, hS.output, hS.size, fun k hk => hS.keep k hk fun id c hid => by simp at hid⟩
    cases e with
    | returned v => rw [RA.closed hE]
    | _ => exact hE.elim
  · rw [enter_run hf hn (by rw [hb]; rfl)] at h
    cases h
end Go.Proofs.YtmbagpfmfiegkaaGreatAw

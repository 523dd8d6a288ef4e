/- Maps with whole-number keys. -/
import Derived.Test.YtfmmemboakdeiaaAw7
namespace Go.Proofs.YtfmmemboakdeiaaAw
open Go.RowKit
set_option linter.unusedVariables false
set_option linter.unusedSimpArgs false

/-- A map type: its keys' type's kind, and its elements' type. -/
def MT (P : Program) (t : TypeId) : Option (IntKind × TypeId × TypeId) :=
  match P.underlying t with
  | some (.map k e) => (match P.underlying k with | some (.int kk) => some (kk, k, e) | _ => none)
  | _ => none
theorem MT.get {P : Program} {t k e : TypeId} {kk : IntKind} (h : MT P t = some (kk, k, e)) : P.underlying t = some (.map k e) ∧ P.underlying k = some (.int kk) := by
  unfold MT at h
  split at h
  · rename_i k' e' hk
    split at h
    · rename_i kk' hkk
      cases h
      exact ⟨hk, hkk⟩
    · cases h
  · cases h

def mpIdx (n : Int) : List (Int × AV) → Nat → Option (Nat × AV)
  | [], _ => none
  | (m, v) :: r, i => if n = m then some (i, v) else mpIdx n r (i + 1)
def mpGet (n : Int) (es : List (Int × AV)) : Option AV := (mpIdx n es 0).map (·.2)
def mpPut (n : Int) (v : AV) (es : List (Int × AV)) : List (Int × AV) := match mpIdx n es 0 with | some (i, _) => es.set i (n, v) | none => es ++ [(n, v)]

theorem findNow_int {kk : IntKind} {n : Int} {R : AV → Value → Prop} : ∀ (es : List (Int × AV)) (l : List MapEntry) (i : Nat), l.length = es.length →
    (∀ j (h1 : j < es.length) (h2 : j < l.length), (l[j]).key = .int kk (es[j]).1 ∧ R (es[j]).2 (l[j]).val) →
    (mpIdx n es i = none ∧ Instr.findNow (.int kk) (.int kk n) l i = some none) ∨
    ∃ j av x, j < es.length ∧ mpIdx n es i = some (i + j, av) ∧ es[j]? = some (n, av) ∧ Instr.findNow (.int kk) (.int kk n) l i = some (some (i + j, x)) ∧ R av x
  | [], [], i, _, _ => .inl ⟨rfl, rfl⟩
  | [], _ :: _, i, h, _ => by simp at h
  | _ :: _, [], i, h, _ => by simp at h
  | (m, v) :: es, e :: l, i, h, hh => by
    have h0 := hh 0 (by simp) (by simp)
    simp only [List.getElem_cons_zero] at h0
    have hbf : n ≠ m → (n == m) = false := fun h => by simpa using h
    by_cases hn : n = m
    · subst hn
      refine .inr ⟨0, v, e.val, by simp, by simp [mpIdx], by simp, ?_, h0.2⟩
      simp [Instr.findNow, Instr.sameNow, h0.1]
    · rcases findNow_int (kk := kk) (n := n) (R := R) es l (i + 1) (by simpa using h) (fun j h1 h2 => by
        have := hh (j + 1) (by simpa using h1) (by simpa using h2)
        simpa using this) with ⟨h1, h2⟩ | ⟨j, av, x, hj, h1, h2, h3, h4⟩
      · refine .inl ⟨by simp [mpIdx, hn, h1], ?_⟩
        simp [Instr.findNow, Instr.sameNow, h0.1, hbf hn, h2]
      · refine .inr ⟨j + 1, av, x, by simpa using hj, by simp [mpIdx, hn, h1]; omega, by simpa using h2, ?_, h4⟩
        simp [Instr.findNow, Instr.sameNow, h0.1, hbf hn, h3]; omega

section
variable {P : Program} {o : Oper} {a : Act} {w : World} {H : AHeap} {φ : Phi} {N : Addr → Prop} {s : Nat → AV}

theorem ok_makeMap (hR : Rel H φ N w) (t : TypeId) (ho : o.op = .makeMap t none) (kk : IntKind) (kt e : TypeId) (ht : MT P t = some (kk, kt, e)) : OpOk P o a w H φ N (.mp H.length) (H ++ [.mp kk []]) := by
  have hS := Since.new hR (.map #[] 0) (.mp kk []) 0
  refine ⟨.map (some w.heap.size), w.alloc (.map #[] 0), _, N, .inl ?_, hR.new (.map #[] 0) (.mp kk []) 0 ?_, hS, ?_⟩
  · simp [execOp, ho, Instr.makeMap, Result.andThen]
  · exact .mp kk [] w.heap.size 0 #[] 0 (Phi.put_same _ _ _) (heap_alloc_new w _) rfl (fun j hj => by simp at hj)
  · exact .mp H.length w.heap.size 0 kk [] (by simp) (Phi.put_same _ _ _)

theorem obj_mp (hR : Rel H φ N w) {x : AV} {v : Value} {id : Nat} {kk : IntKind} {es : List (Int × AV)} (hx : RA H φ N w (.mp id) v) (hob : H[id]? = some (.mp kk es)) :
    ∃ B c ents clock, v = .map (some B) ∧ φ id = some (B, c) ∧ w.heap[B]? = some (.map ents clock) ∧ ents.size = es.length ∧
      ∀ j (hj : j < es.length) (hj2 : j < ents.size), (ents[j]).key = .int kk (es[j]).1 ∧ RA H φ N w (es[j]).2 (ents[j]).val := by
  cases hx with
  | mp _ B c kk' es' ho' hp =>
  have h := hR.obj id _ hob
  cases h with
  | mp _ _ B' cap ents clock hp' hb hs hh =>
  rw [hp] at hp'; cases hp'
  exact ⟨B, _, ents, clock, rfl, hp, hb, hs, hh⟩

theorem checkKey_int {kk : IntKind} {kt : TypeId} (h : P.underlying kt = some (.int kk)) (e : Bool) (n : Int) : (Instr.checkKey e 10000 kt (.int kk n)).run P w = .ok () w := by
  show (Instr.checkKey e (9999 + 1) kt (.int kk n)).run P w = .ok () w
  unfold Instr.checkKey
  simp only [Sem.run_bind, run_underlying h, Result.andThen]
  rfl

theorem findKey_now {kk : IntKind} {kt : TypeId} (h : P.underlying kt = some (.int kk)) {k : Value} {l : List MapEntry} {r : Option (Nat × Value)} (hr : Instr.findNow (.int kk) k l 0 = some r) : (Instr.findKey kt k l).run P w = .ok r w := by
  simp [Instr.findKey, run_underlying h, Result.andThen, hr]

theorem ok_lookup (hR : Rel H φ N w) (hT : TRel H φ N w s a) (t : TypeId) (x ix : Operand) (ok : Bool) (ho : o.op = .lookup t x ix ok) (kk : IntKind) (kt e : TypeId) (ht : MT P t = some (kk, kt, e)) (z : Value) (k b : Nat) (hi : TI P e = some (z, k, b))
    (id : Nat) (es : List (Int × AV)) (hx : aeval s x = .mp id) (hob : H[id]? = some (.mp kk es)) (n : Int) (hix : closed (aeval s ix) = some (.int kk n)) :
    OpOk P o a w H φ N (if ok then .tup [(mpGet n es).getD (aconst z), .d (.v (.bool (mpGet n es).isSome))] else (mpGet n es).getD (aconst z)) H := by
  obtain ⟨hm, hk⟩ := MT.get ht
  have hix' := closed_ok (aeval_ok hT ix) hix
  have hx' := aeval_ok hT x
  rw [hx] at hx'
  obtain ⟨B, c, ents, clock, hv, hp, hb, hs, hh⟩ := obj_mp (x := .top) hR hx' hob
  have hg : (getObj B).run P w = .ok (.map ents clock) w := by simp [getObj, Sem.run, hb]
  have tup : ∀ (r : AV) (v : Value) (g : Bool), RA H φ N w r v → RA H φ N w (if ok then .tup [r, .d (.v (.bool g))] else r) (if ok then .tuple #[v, .bool g] else v) := by
    intro r v g hr
    cases ok with
    | false => simpa using hr
    | true =>
      simp only [if_true]
      refine .tup _ _ rfl fun i h1 h2 => ?_
      match i, h1 with
      | 0, _ => simpa using hr
      | 1, _ => simpa using RA.d (.v (.bool g) rfl)
  rcases findNow_int (kk := kk) (n := n) (R := RA H φ N w) es ents.toList 0 (by simpa using hs) (fun j h1 h2 => by simpa using hh j h1 (by simpa using h2)) with ⟨h1, h2⟩ | ⟨j, av, y, hj, h1, h2, h3, h4⟩
  · have hG : mpGet n es = none := by simp [mpGet, h1]
    rw [hG]
    refine .same hR (tup _ _ false (aconst_ok z)) ?_
    simp only [execOp, ho, Instr.lookup, hv, hix', Sem.run_bind, run_underlying hm, Result.andThen_ok, hg, Sem.run_pure, checkKey_int hk, findKey_now hk h2, TI.zero hi]
  · have hG : mpGet n es = some av := by simp [mpGet, h1]
    rw [hG]
    refine .same hR (tup _ _ true h4) ?_
    simp only [execOp, ho, Instr.lookup, hv, hix', Sem.run_bind, run_underlying hm, Result.andThen_ok, hg, Sem.run_pure, checkKey_int hk, findKey_now hk h3]

theorem keyStays_int (kk : IntKind) (n : Int) : (Instr.keyThatStays (.int kk n) (.int kk n)).run P w = .ok (.int kk n) w := by
  unfold Instr.keyThatStays
  have : Instr.sameBits 10000 (.int kk n) (.int kk n) = true := by simp [Instr.sameBits]
  simp [this]

theorem ok_mapUpdate (hR : Rel H φ N w) (hT : TRel H φ N w s a) (t : TypeId) (x ix y : Operand) (ho : o.op = .mapUpdate t x ix y ∨ o.op = .insert t x ix y) (kk : IntKind) (kt e : TypeId) (ht : MT P t = some (kk, kt, e))
    (id : Nat) (es : List (Int × AV)) (hx : aeval s x = .mp id) (hob : H[id]? = some (.mp kk es)) (n : Int) (hix : closed (aeval s ix) = some (.int kk n)) :
    OpOk P o a w H φ N .top (H.set id (.mp kk (mpPut n (aeval s y) es))) := by
  obtain ⟨hm, hk⟩ := MT.get ht
  have hix' := closed_ok (aeval_ok hT ix) hix
  have hx' := aeval_ok hT x
  rw [hx] at hx'
  obtain ⟨B, c, ents, clock, hv, hp, hb, hs, hh⟩ := obj_mp (x := .top) hR hx' hob
  have hg : (getObj B).run P w = .ok (.map ents clock) w := by simp [getObj, Sem.run, hb]
  have hlt : B < w.heap.size := (Array.getElem?_eq_some_iff.1 hb).1
  have set : ∀ (ents' : Array MapEntry) (clock' : Nat) (es' : List (Int × AV)), ents'.size = es'.length →
      (∀ j (hj : j < es'.length) (hj2 : j < ents'.size), (ents'[j]).key = .int kk (es'[j]).1 ∧ RA H φ N w (es'[j]).2 (ents'[j]).val) →
      Rel (H.set id (.mp kk es')) φ N { w with heap := w.heap.setIfInBounds B (.map ents' clock') } ∧ Since H φ N w (H.set id (.mp kk es')) φ N { w with heap := w.heap.setIfInBounds B (.map ents' clock') } := by
    intro ents' clock' es' hl hh'
    have h5 : ∀ k, k ≠ B → (w.heap.setIfInBounds B (.map ents' clock'))[k]? = w.heap[k]? := fun k hne => by simp [Ne.symm hne]
    have hS : Since H φ N w (H.set id (.mp kk es')) φ N { w with heap := w.heap.setIfInBounds B (.map ents' clock') } :=
      Since.set hob hp rfl rfl rfl (fun kk' es'' he => by cases he; exact ⟨_, rfl⟩) rfl rfl rfl (by simp) h5
    refine ⟨hR.set hob hp hS h5 ?_, hS⟩
    exact .mp kk es' B c ents' clock' hp (by simp [hlt]) hl fun j hj hj2 => ⟨(hh' j hj hj2).1, (hh' j hj hj2).2.since hR hS⟩
  have run : ∀ ob, (setObj B ob).run P w = .ok () { w with heap := w.heap.setIfInBounds B ob } := fun ob => by simp [setObj, Sem.run, hb]
  have hy := aeval_ok hT y
  rcases findNow_int (kk := kk) (n := n) (R := RA H φ N w) es ents.toList 0 (by simpa using hs) (fun j h1 h2 => by simpa using hh j h1 (by simpa using h2)) with ⟨h1, h2⟩ | ⟨j, av, y', hj, h1, h2, h3, h4⟩
  · have hP : mpPut n (aeval s y) es = es ++ [(n, aeval s y)] := by simp [mpPut, h1]
    rw [hP]
    obtain ⟨hR', hS'⟩ := set (ents.push { key := .int kk n, val := a.eval y, born := clock }) (clock + 1) (es ++ [(n, aeval s y)]) (by simp [hs]) (fun j hj hj2 => by
      by_cases e : j < es.length
      · rw [List.getElem_append_left e, Array.getElem_push_lt (by omega)]
        exact hh j e (by omega)
      · have e' : j = es.length := by simp at hj; omega
        subst e'
        have : es.length = ents.size := hs.symm
        simp only [List.getElem_concat_length, Array.getElem_push, this]
        simp
        exact hy)
    refine ⟨undef, _, φ, N, .inr ⟨?_, rfl⟩, hR', hS', .top _⟩
    rcases ho with ho | ho <;> simp only [execOp, ho, Instr.mapUpdate, hv, hix', Sem.run_bind, run_underlying hm, Result.andThen_ok, hg, Sem.run_pure, checkKey_int hk, findKey_now hk h2, run]
  · have hP : mpPut n (aeval s y) es = es.set j (n, aeval s y) := by simp [mpPut, h1]
    rw [hP]
    have hj2 : j < ents.size := by omega
    have hn : (es[j]).1 = n := by
      rw [List.getElem?_eq_getElem hj] at h2
      have := Option.some.inj h2
      rw [this]
    have hkey : (ents[j]).key = .int kk n := by rw [(hh j hj hj2).1, hn]
    obtain ⟨hR', hS'⟩ := set (ents.modify j fun e => { e with key := .int kk n, val := a.eval y }) clock (es.set j (n, aeval s y)) (by simp [hs]) (fun i hi hi2 => by
      simp only [Array.getElem_modify, List.getElem_set]
      by_cases e : j = i
      · simp only [if_pos e]
        exact ⟨trivial, hy⟩
      · simp only [if_neg e]
        exact hh i (by simpa using hi) (by simpa using hi2))
    refine ⟨undef, _, φ, N, .inr ⟨?_, rfl⟩, hR', hS', .top _⟩
    have hget : ((ents[j]?).map (·.key)).getD (.int kk n) = .int kk n := by
      rw [Array.getElem?_eq_getElem hj2]
      simp [hkey]
    rw [Nat.zero_add] at h3
    rcases ho with ho | ho <;> simp only [execOp, ho, Instr.mapUpdate, hv, hix', Sem.run_bind, run_underlying hm, Result.andThen_ok, hg, Sem.run_pure, checkKey_int hk, findKey_now hk h3, run, hget, keyStays_int, Nat.zero_add]

theorem ok_len_map (hR : Rel H φ N w) (hT : TRel H φ N w s a) (x : Operand) (t : TypeId) (ho : o.op = .call { callee := .builtin .len, args := #[x], argTypes := #[t] }) (kk : IntKind) (kt e : TypeId) (ht : MT P t = some (kk, kt, e))
    (id : Nat) (es : List (Int × AV)) (hx : aeval s x = .mp id) (hob : H[id]? = some (.mp kk es)) : OpOk P o a w H φ N (.d (.v (.int .i64 es.length))) H := by
  obtain ⟨hm, hk⟩ := MT.get ht
  have hx' := aeval_ok hT x
  rw [hx] at hx'
  obtain ⟨B, c, ents, clock, hv, hp, hb, hs, hh⟩ := obj_mp (x := .top) hR hx' hob
  have hg : (getObj B).run P w = .ok (.map ents clock) w := by simp [getObj, Sem.run, hb]
  refine .same hR (.d (.v _ rfl)) ?_
  simp [execOp, ho, resolve, invoke, Go.builtin, Builtin.len_, hv, run_underlying hm, goInt, hg, hs]
/-! ### Held against nil -/
def isPtrT (P : Program) (t : TypeId) : Bool := match P.underlying t with | some (.pointer _) => true | _ => false
theorem isPtrT.get {t : TypeId} (h : isPtrT P t = true) : ∃ e, P.underlying t = some (.pointer e) := by
  unfold isPtrT at h
  split at h
  · exact ⟨_, by assumption⟩
  · cases h
def isNilV (P : Program) (t : TypeId) : AV → Bool
  | .d (.v (.slice none 0 0)) => (SE P t).isSome
  | .d (.v (.pointer none)) => isPtrT P t
  | _ => false
def known (P : Program) (H : AHeap) (t : TypeId) : AV → Bool
  | .d (.list nn es) => (SE P t).isSome && (nn || !es.isEmpty)
  | .sl id ver _ len => (SE P t).isSome && (0 < len && (match H[id]? with | some o => o.ver == ver | none => false))
  | .ptr id ver _ _ => isPtrT P t && (match H[id]? with | some o => o.ver == ver | none => false)
  | .iptr _ => isPtrT P t
  | _ => false
def isNeq : BinOp → Bool
  | .neq => true
  | _ => false
def nilCmp (P : Program) (H : AHeap) (op : BinOp) (t : TypeId) (x y : AV) : Bool := (match op with | .eql | .neq => true | _ => false) && ((isNilV P t y && known P H t x) || (isNilV P t x && known P H t y))
theorem isNilV_ok {x : AV} {v : Value} {t : TypeId} (hx : RA H φ N w x v) (h : isNilV P t x = true) : (v = .slice none 0 0 ∧ ∃ e, P.underlying t = some (.slice e)) ∨ (v = .pointer none ∧ ∃ e, P.underlying t = some (.pointer e)) := by
  unfold isNilV at h
  split at h
  · obtain ⟨e, he⟩ := Option.isSome_iff_exists.1 h
    exact .inl ⟨hx.closed, e, SE.get he⟩
  · exact .inr ⟨hx.closed, isPtrT.get h⟩
  · cases h
theorem known_ok {x : AV} {v : Value} (hx : RA H φ N w x v) {t : TypeId} (h : known P H t x = true) : (∃ e ad l c, P.underlying t = some (.slice e) ∧ v = .slice (some ad) l c) ∨ ∃ e ad, P.underlying t = some (.pointer e) ∧ v = .pointer (some ad) := by
  unfold known at h
  split at h
  · rename_i nn es
    simp only [Bool.and_eq_true, Bool.or_eq_true] at h
    obtain ⟨e, he⟩ := Option.isSome_iff_exists.1 h.1
    cases hx with
    | d hd =>
      cases hd with
      | nil A c hA => simp at h
      | list => exact .inl ⟨e, _, _, _, SE.get he, rfl⟩
  · rename_i id ver off len
    simp only [Bool.and_eq_true, decide_eq_true_eq] at h
    obtain ⟨e, he⟩ := Option.isSome_iff_exists.1 h.1
    cases hx with
    | sl _ _ _ _ A l m o ho hv hp =>
      rw [ho] at h
      simp only [beq_iff_eq] at h
      obtain ⟨_, _, h2⟩ := hp h.2.2.symm
      rcases h2 with ⟨_, h3, _⟩ | ⟨B, c, _, _, rfl, _⟩
      · omega
      · exact .inl ⟨e, _, _, _, SE.get he, rfl⟩
  · rename_i id ver i j
    simp only [Bool.and_eq_true] at h
    obtain ⟨e, he⟩ := isPtrT.get h.1
    cases hx with
    | ptr _ _ _ _ A o ho hv hp =>
      rw [ho] at h
      simp only [beq_iff_eq] at h
      obtain ⟨B, c, _, rfl⟩ := hp h.2.symm
      exact .inr ⟨e, _, he, rfl⟩
  · obtain ⟨e, he⟩ := isPtrT.get h
    cases hx with
    | iptr => exact .inr ⟨e, _, he, rfl⟩
  · cases h
theorem eqIn_sn (d : Nat) (t e : TypeId) (ad : Addr) (l c : Nat) (h : P.underlying t = some (.slice e)) (w : World) : (Op.equalIn (d + 1) t (.slice (some ad) l c) (.slice none 0 0)).run P w = .ok false w := by simp [Op.equalIn, run_underlying h]
theorem eqIn_ns (d : Nat) (t e : TypeId) (ad : Addr) (l c : Nat) (h : P.underlying t = some (.slice e)) (w : World) : (Op.equalIn (d + 1) t (.slice none 0 0) (.slice (some ad) l c)).run P w = .ok false w := by simp [Op.equalIn, run_underlying h]
theorem eqIn_pn (d : Nat) (t e : TypeId) (ad : Addr) (h : P.underlying t = some (.pointer e)) (w : World) : (Op.equalIn (d + 1) t (.pointer (some ad)) (.pointer none)).run P w = .ok false w := by simp [Op.equalIn, run_underlying h]
theorem eqIn_np (d : Nat) (t e : TypeId) (ad : Addr) (h : P.underlying t = some (.pointer e)) (w : World) : (Op.equalIn (d + 1) t (.pointer none) (.pointer (some ad))).run P w = .ok false w := by simp [Op.equalIn, run_underlying h]
theorem cmp_of (t : TypeId) (u v : Value) (x y : Operand) (op : BinOp) (hop : op = .eql ∨ op = .neq) (hs : (∃ A l c A' l' c', u = .slice A l c ∧ v = .slice A' l' c') ∨ ∃ A A', u = .pointer A ∧ v = .pointer A') (h : ∀ w, (Op.equalIn 10000 t u v).run P w = .ok false w) :
    (do eqGuard op t x y u v; Go.binOp op t u v : Sem Value).run P w = .ok (.bool (isNeq op)) w := by
  have hg : (eqGuard op t x y u v).run P w = .ok () w := by
    rcases hs with ⟨A, l, c, A', l', c', rfl, rfl⟩ | ⟨A, A', rfl, rfl⟩ <;> rcases hop with rfl | rfl <;> simp [eqGuard]
  rw [Sem.run_bind, hg]
  simp only [Result.andThen_ok]
  have he : (Op.equal t u v).run P w = .ok false w := h w
  rcases hs with ⟨A, l, c, A', l', c', rfl, rfl⟩ | ⟨A, A', rfl, rfl⟩ <;> rcases hop with rfl | rfl <;> simp only [binOp] <;> simp [he, isNeq]
theorem ok_nilCmp (hR : Rel H φ N w) (hT : TRel H φ N w s a) (op : BinOp) (t ty : TypeId) (x y : Operand) (ho : o.op = .binOp op t x y ty) (h : nilCmp P H op t (aeval s x) (aeval s y) = true) :
    OpOk P o a w H φ N (.d (.v (.bool (isNeq op)))) H := by
  refine .same hR (x := .bool (isNeq op)) (.d (.v _ rfl)) ?_
  have hx := aeval_ok hT x
  have hy := aeval_ok hT y
  unfold nilCmp at h
  simp only [Bool.and_eq_true, Bool.or_eq_true] at h
  obtain ⟨hop, h⟩ := h
  simp only [execOp, ho]
  generalize a.eval x = u at hx
  generalize a.eval y = v at hy
  have hops : op = .eql ∨ op = .neq := by cases op <;> first | exact .inl rfl | exact .inr rfl | cases hop
  rcases h with ⟨h1, h2⟩ | ⟨h1, h2⟩
  · rcases isNilV_ok hy h1 with ⟨rfl, e, he⟩ | ⟨rfl, e, he⟩ <;> rcases known_ok hx h2 with ⟨e', ad, l, c, he', rfl⟩ | ⟨e', ad, he', rfl⟩
    · rw [Sem.run_bind, cmp_of t _ _ x y op hops (.inl ⟨_, _, _, _, _, _, rfl, rfl⟩) (eqIn_sn 9999 t e ad l c he)]; rfl
    · rw [he] at he'; cases he'
    · rw [he] at he'; cases he'
    · rw [Sem.run_bind, cmp_of t _ _ x y op hops (.inr ⟨_, _, rfl, rfl⟩) (eqIn_pn 9999 t e ad he)]; rfl
  · rcases isNilV_ok hx h1 with ⟨rfl, e, he⟩ | ⟨rfl, e, he⟩ <;> rcases known_ok hy h2 with ⟨e', ad, l, c, he', rfl⟩ | ⟨e', ad, he', rfl⟩
    · rw [Sem.run_bind, cmp_of t _ _ x y op hops (.inl ⟨_, _, _, _, _, _, rfl, rfl⟩) (eqIn_ns 9999 t e ad l c he)]; rfl
    · rw [he] at he'; cases he'
    · rw [he] at he'; cases he'
    · rw [Sem.run_bind, cmp_of t _ _ x y op hops (.inr ⟨_, _, rfl, rfl⟩) (eqIn_np 9999 t e ad he)]; rfl
end
end Go.Proofs.YtfmmemboakdeiaaAw

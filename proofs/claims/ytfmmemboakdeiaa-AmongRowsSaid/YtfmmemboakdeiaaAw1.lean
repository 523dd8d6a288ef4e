/- A small abstract machine over the loaded code: pure data, abstract values, the relation to worlds, and what is kept. -/
import Derived.Calls
import Derived.Orders
import Derived.LoopN
import Derived.Laws.CopyRow
import Derived.Laws.AppendOwn
import Derived.Maps.AppendAt
import Derived.RowKit3
import Derived.Below
import Derived.WalkKit
namespace Go.Proofs.YtfmmemboakdeiaaAw
open Go.RowKit
set_option linter.unusedVariables false

/-- Pure data: a closed value, or an immutable list of elements (each: its cells). 'nn': known not to be nil. -/
inductive D where
  | v (x : Value)
  | list (nn : Bool) (es : List (List D))
instance : Inhabited D := ⟨.v undef⟩

/-- Abstract values. ptr, sl: into the abstract heap (object, version, element, cell). iptr: into cells that never change. -/
inductive AV where
  | top
  | d (x : D)
  | cap0
  | ptr (id ver i j : Nat)
  | iptr (cs : List D)
  | sl (id ver off len : Nat)
  | agg (cs : List AV)
  | tup (vs : List AV)
  | fn (f : FuncId) (caps : List AV)
  | mp (id : Nat)
instance : Inhabited AV := ⟨.top⟩

/-- Objects of the abstract heap: an array of pure elements; a variable or an array of cells; a map; one that is gone. -/
inductive AObj where
  | arr (e : TypeId) (k ver : Nat) (es : List (List D))
  | box (e : TypeId) (k ver n : Nat) (cs : List AV)
  | mp (kk : IntKind) (es : List (Int × AV))
  | dead (ver : Nat)
abbrev AHeap := List AObj

def AObj.k : AObj → Nat
  | .arr _ k _ _ => k
  | .box _ k _ _ _ => k
  | .mp _ _ => 1
  | .dead _ => 1
def AObj.ver : AObj → Nat
  | .arr _ _ ver _ => ver
  | .box _ _ ver _ _ => ver
  | .mp _ _ => 0
  | .dead ver => ver
def AObj.len : AObj → Nat
  | .arr _ _ _ es => es.length
  | .box _ _ _ n _ => n
  | .mp _ _ => 0
  | .dead _ => 0

inductive RD (N : Addr → Prop) (w : World) : D → Value → Prop
  | v (x : Value) (hx : x.oneCell' = true) : RD N w (.v x) x
  | nil (A : Option Addr) (c : Nat) (h : A = none → c = 0) : RD N w (.list false []) (.slice A 0 c)
  | list (nn : Bool) (es : List (List D)) (ad : Addr) (cap k : Nat) (c : Nat → Nat → Value) (hc : es.length ≤ cap) (hk : ∀ e ∈ es, e.length = k)
      (h : ∀ i j, i < es.length → j < k → N (ad.add (i * k + j)) ∧ w.cell? (ad.add (i * k + j)) = some (c i j))
      (hd : ∀ i (hi : i < es.length) j (hj : j < (es[i]).length), RD N w ((es[i])[j]) (c i j)) : RD N w (.list nn es) (.slice (some ad) es.length cap)

theorem RD.mono {N N' : Addr → Prop} {w w' : World} {x : D} {y : Value} (h : RD N w x y) (hN : ∀ a, N a → N' a)
    (hw : ∀ a v, N a → w.cell? a = some v → w'.cell? a = some v) : RD N' w' x y := by
  induction h with
  | v _ hx => exact .v _ hx
  | nil A c h => exact .nil A c h
  | list nn es ad cap k c hc hk h hd ih =>
    exact .list nn es ad cap k c hc hk (fun i j hi hj => ⟨hN _ (h i j hi hj).1, hw _ _ (h i j hi hj).1 (h i j hi hj).2⟩) ih

abbrev Phi := Nat → Option (Nat × Nat)

inductive RA (H : AHeap) (φ : Phi) (N : Addr → Prop) (w : World) : AV → Value → Prop
  | top (x : Value) : RA H φ N w .top x
  | d {x : D} {y : Value} (h : RD N w x y) : RA H φ N w (.d x) y
  | cap0 (A : Option Addr) : RA H φ N w .cap0 (.slice A 0 0)
  | ptr (id ver i j : Nat) (A : Option Addr) (o : AObj) (ho : H[id]? = some o) (hv : ver ≤ o.ver)
      (h : ver = o.ver → ∃ B c, φ id = some (B, c) ∧ A = some ⟨B, i * o.k + j, none⟩) : RA H φ N w (.ptr id ver i j) (.pointer A)
  | iptr (cs : List D) (ad : Addr) (c : Nat → Value) (h : ∀ t, t < cs.length → N (ad.add t) ∧ w.cell? (ad.add t) = some (c t))
      (hd : ∀ t (ht : t < cs.length), RD N w (cs[t]) (c t)) : RA H φ N w (.iptr cs) (.pointer (some ad))
  | sl (id ver off len : Nat) (A : Option Addr) (l m : Nat) (o : AObj) (ho : H[id]? = some o) (hv : ver ≤ o.ver)
      (h : ver = o.ver → l = len ∧ off + len ≤ o.len ∧ ((φ id = none ∧ len = 0 ∧ off = 0 ∧ m = 0) ∨
        ∃ B c, φ id = some (B, c) ∧ off + len ≤ c ∧ A = some ⟨B, off * o.k, none⟩ ∧ m = c - off)) : RA H φ N w (.sl id ver off len) (.slice A l m)
  | agg (cs : List AV) (vs : Array Value) (hl : cs.length = vs.size) (h : ∀ i (h1 : i < cs.length) (h2 : i < vs.size), RA H φ N w (cs[i]) (vs[i])) : RA H φ N w (.agg cs) (.agg vs)
  | tup (cs : List AV) (vs : Array Value) (hl : cs.length = vs.size) (h : ∀ i (h1 : i < cs.length) (h2 : i < vs.size), RA H φ N w (cs[i]) (vs[i])) : RA H φ N w (.tup cs) (.tuple vs)
  | fn (f : FuncId) (cs : List AV) (vs : Array Value) (hl : cs.length = vs.size) (h : ∀ i (h1 : i < cs.length) (h2 : i < vs.size), RA H φ N w (cs[i]) (vs[i])) :
      RA H φ N w (.fn f cs) (.func (.func f) #[] vs)
  | mp (id B c : Nat) (kk : IntKind) (es : List (Int × AV)) (ho : H[id]? = some (.mp kk es)) (hp : φ id = some (B, c)) : RA H φ N w (.mp id) (.map (some B))

/-- What an object says of its block. -/
inductive RObj (H : AHeap) (φ : Phi) (N : Addr → Prop) (w : World) (id : Nat) : AObj → Prop
  | arr (e : TypeId) (k ver : Nat) (es : List (List D)) (hk : 0 < k) (hes : ∀ c ∈ es, c.length = k)
      (h : (φ id = none ∧ es = []) ∨ ∃ (B cap : Nat) (cur : Array Value), φ id = some (B, cap) ∧ w.heap[B]? = some (.cells cur e (0, 0)) ∧ es.length ≤ cap ∧ cap ≤ maxLen ∧ cur.size = cap * k ∧
        ∀ i (hi : i < es.length) j (hj : j < (es[i]).length), ∃ c, cur[i * k + j]? = some c ∧ RD N w ((es[i])[j]) c) : RObj H φ N w id (.arr e k ver es)
  | box (e : TypeId) (k ver n : Nat) (cs : List AV) (B cap : Nat) (cur : Array Value) (hk : 0 < k) (hn : cs.length = n * k) (hp : φ id = some (B, cap)) (hb : w.heap[B]? = some (.cells cur e (0, 0)))
      (hc : n ≤ cap) (hm : cap ≤ maxLen) (hs : cur.size = cap * k) (h : ∀ j (hj : j < cs.length), ∃ c, cur[j]? = some c ∧ RA H φ N w (cs[j]) c) : RObj H φ N w id (.box e k ver n cs)
  | mp (kk : IntKind) (es : List (Int × AV)) (B cap : Nat) (ents : Array MapEntry) (clock : Nat) (hp : φ id = some (B, cap)) (hb : w.heap[B]? = some (.map ents clock)) (hs : ents.size = es.length)
      (h : ∀ j (hj : j < es.length) (hj2 : j < ents.size), (ents[j]).key = .int kk (es[j]).1 ∧ RA H φ N w (es[j]).2 (ents[j]).val) : RObj H φ N w id (.mp kk es)
  | dead (ver : Nat) (hp : φ id = none) : RObj H φ N w id (.dead ver)

structure Rel (H : AHeap) (φ : Phi) (N : Addr → Prop) (w : World) : Prop where
  obj : ∀ id o, H[id]? = some o → RObj H φ N w id o
  inj : ∀ i j B c c', i < H.length → j < H.length → φ i = some (B, c) → φ j = some (B, c') → i = j
  live : ∀ a, N a → ∃ v, w.cell? a = some v
  apart : ∀ a id B c, N a → id < H.length → φ id = some (B, c) → a.block ≠ B

/-- What has become since: nothing but owned blocks has turned; what is told of old objects. -/
structure Since (H0 : AHeap) (φ0 : Phi) (N0 : Addr → Prop) (w0 : World) (H : AHeap) (φ : Phi) (N : Addr → Prop) (w : World) : Prop where
  len : H0.length ≤ H.length
  os : w.os = w0.os
  tape : w.tape = w0.tape
  output : w.output = w0.output
  size : w0.heap.size ≤ w.heap.size
  keep : ∀ k, k < w0.heap.size → (∀ id c, id < H0.length → φ0 id ≠ some (k, c)) → w.heap[k]? = w0.heap[k]?
  own : ∀ id B c, id < H.length → φ id = some (B, c) → B < w0.heap.size → ∃ id0 c0, id0 < H0.length ∧ φ0 id0 = some (B, c0)
  mono : ∀ a, N0 a → N a
  compat : ∀ id o, H0[id]? = some o → ∃ o', H[id]? = some o' ∧ o'.k = o.k ∧ o.ver ≤ o'.ver ∧ (o.ver = o'.ver → φ id = φ0 id ∧ o.len ≤ o'.len) ∧ ∀ kk es, o = .mp kk es → φ id = φ0 id ∧ ∃ es', o' = .mp kk es'

theorem len_of_get {H : AHeap} {id : Nat} {o : AObj} (h : H[id]? = some o) : id < H.length := by
  rcases Nat.lt_or_ge id H.length with h' | h'
  · exact h'
  · simp [List.getElem?_eq_none h'] at h

theorem Since.refl {H : AHeap} {φ : Phi} {N : Addr → Prop} {w : World} : Since H φ N w H φ N w :=
  ⟨Nat.le_refl _, rfl, rfl, rfl, Nat.le_refl _, fun _ _ _ => rfl, fun id B c hid h _ => ⟨id, c, hid, h⟩, fun _ h => h,
    fun _ o h => ⟨o, h, rfl, Nat.le_refl _, fun _ => ⟨rfl, Nat.le_refl _⟩, fun kk es h => ⟨rfl, es, h⟩⟩⟩

theorem Since.trans {H0 H1 H2 : AHeap} {φ0 φ1 φ2 : Phi} {N0 N1 N2 : Addr → Prop} {w0 w1 w2 : World} (h : Since H0 φ0 N0 w0 H1 φ1 N1 w1) (g : Since H1 φ1 N1 w1 H2 φ2 N2 w2) :
    Since H0 φ0 N0 w0 H2 φ2 N2 w2 where
  len := Nat.le_trans h.len g.len
  os := g.os.trans h.os
  tape := g.tape.trans h.tape
  output := g.output.trans h.output
  size := Nat.le_trans h.size g.size
  keep k hk hn := by
    rw [g.keep k (Nat.lt_of_lt_of_le hk h.size) ?_, h.keep k hk hn]
    intro id c hid hc
    obtain ⟨id0, c0, hi0, h0⟩ := h.own id k c hid hc hk
    exact hn id0 c0 hi0 h0
  own id _ c hid hc hB := by
    obtain ⟨id1, c1, hi1, h1⟩ := g.own id _ c hid hc (Nat.lt_of_lt_of_le hB h.size)
    exact h.own id1 _ c1 hi1 h1 hB
  mono a ha := g.mono a (h.mono a ha)
  compat id o ho := by
    obtain ⟨o1, ho1, hk1, hv1, hq1, hm1⟩ := h.compat id o ho
    obtain ⟨o2, ho2, hk2, hv2, hq2, hm2⟩ := g.compat id o1 ho1
    refine ⟨o2, ho2, hk2.trans hk1, Nat.le_trans hv1 hv2, fun he => ?_, fun kk es he => ?_⟩
    · obtain ⟨p1, l1⟩ := hq1 (by omega)
      obtain ⟨p2, l2⟩ := hq2 (by omega)
      exact ⟨p2.trans p1, Nat.le_trans l1 l2⟩
    · obtain ⟨p1, es1, e1⟩ := hm1 kk es he
      obtain ⟨p2, es2, e2⟩ := hm2 kk es1 e1
      exact ⟨p2.trans p1, es2, e2⟩

theorem Since.cell {H0 H : AHeap} {φ0 φ : Phi} {N0 N : Addr → Prop} {w0 w : World} (hR : Rel H0 φ0 N0 w0) (h : Since H0 φ0 N0 w0 H φ N w) :
    ∀ a v, N0 a → w0.cell? a = some v → w.cell? a = some v := by
  intro a v ha hv
  have hb := World.block_lt_of_cell? w0 a hv
  rw [World.cell?_of_block (h.keep a.block hb fun id c hid hc => hR.apart a id a.block c ha hid hc rfl)]
  exact hv

theorem RD.since {H0 H : AHeap} {φ0 φ : Phi} {N0 N : Addr → Prop} {w0 w : World} (hR : Rel H0 φ0 N0 w0) (h : Since H0 φ0 N0 w0 H φ N w) {x : D} {v : Value} (hx : RD N0 w0 x v) : RD N w x v :=
  hx.mono h.mono (h.cell hR)

theorem RA.since {H0 H : AHeap} {φ0 φ : Phi} {N0 N : Addr → Prop} {w0 w : World} (hR : Rel H0 φ0 N0 w0) (h : Since H0 φ0 N0 w0 H φ N w) {x : AV} {v : Value} (hx : RA H0 φ0 N0 w0 x v) : RA H φ N w x v := by
  induction hx with
  | top => exact .top _
  | d hd => exact .d (hd.since hR h)
  | cap0 => exact .cap0 _
  | ptr id ver i j A o ho hv hp =>
    obtain ⟨o', ho', hk, hv', hq, _⟩ := h.compat id o ho
    refine .ptr id ver i j A o' ho' (Nat.le_trans hv hv') fun he => ?_
    obtain ⟨p, _⟩ := hq (by omega)
    obtain ⟨B, c, h1, h2⟩ := hp (by omega)
    exact ⟨B, c, p.trans h1, by rw [hk]; exact h2⟩
  | iptr cs ad c hc hd => exact .iptr cs ad c (fun t ht => ⟨h.mono _ (hc t ht).1, h.cell hR _ _ (hc t ht).1 (hc t ht).2⟩) fun t ht => (hd t ht).since hR h
  | sl id ver off len A l m o ho hv hp =>
    obtain ⟨o', ho', hk, hv', hq, _⟩ := h.compat id o ho
    refine .sl id ver off len A l m o' ho' (Nat.le_trans hv hv') fun he => ?_
    obtain ⟨p, hl⟩ := hq (by omega)
    obtain ⟨h0, h1, h2⟩ := hp (by omega)
    refine ⟨h0, Nat.le_trans h1 hl, ?_⟩
    rcases h2 with ⟨h3, h4⟩ | ⟨B, c, h3, h4, h5, h6⟩
    · exact .inl ⟨p.trans h3, h4⟩
    · exact .inr ⟨B, c, p.trans h3, h4, by rw [hk]; exact h5, h6⟩
  | agg cs vs hl _ ih => exact .agg cs vs hl ih
  | tup cs vs hl _ ih => exact .tup cs vs hl ih
  | fn f cs vs hl _ ih => exact .fn f cs vs hl ih
  | mp id B c kk es ho hp =>
    obtain ⟨o', ho', _, _, _, hm⟩ := h.compat id _ ho
    obtain ⟨p, es', rfl⟩ := hm kk es rfl
    exact .mp id B c kk es' ho' (p.trans hp)


/-! ### One cell -/
def AV.one : AV → Bool
  | .top | .agg _ | .tup _ => false
  | _ => true
theorem RD.one {N : Addr → Prop} {w : World} {x : D} {y : Value} (h : RD N w x y) : y.oneCell' = true := by
  cases h with
  | v _ hx => exact hx
  | nil => rfl
  | list => rfl
theorem RA.one {H : AHeap} {φ : Phi} {N : Addr → Prop} {w : World} {x : AV} {y : Value} (h : RA H φ N w x y) (h1 : x.one = true) : y.oneCell' = true := by
  cases h with
  | top => cases h1
  | d hd => exact hd.one
  | agg => cases h1
  | tup => cases h1
  | _ => rfl

end Go.Proofs.YtfmmemboakdeiaaAw

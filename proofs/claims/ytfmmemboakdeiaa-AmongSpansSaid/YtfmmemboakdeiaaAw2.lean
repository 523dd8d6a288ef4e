/- How the relation between abstract heaps and worlds goes on: a new object, a block that never changes, new contents. -/
import Derived.Test.YtfmmemboakdeiaaAw1
namespace Go.Proofs.YtfmmemboakdeiaaAw
open Go.RowKit
set_option linter.unusedVariables false

theorem RObj.block_lt {H : AHeap} {φ : Phi} {N : Addr → Prop} {w : World} {id : Nat} {o : AObj} (h : RObj H φ N w id o) {B c : Nat} (hp : φ id = some (B, c)) : B < w.heap.size := by
  cases h with
  | arr e k ver es hk hes h =>
    rcases h with ⟨h0, _⟩ | ⟨B', cap, cur, h1, h2, _⟩
    · rw [h0] at hp; cases hp
    · rw [h1] at hp; cases hp
      exact (Array.getElem?_eq_some_iff.1 h2).1
  | box e k ver n cs B' cap cur hk hn hp' hb =>
    rw [hp'] at hp; cases hp
    exact (Array.getElem?_eq_some_iff.1 hb).1
  | mp kk es B' cap ents clock hp' hb =>
    rw [hp'] at hp; cases hp
    exact (Array.getElem?_eq_some_iff.1 hb).1
  | dead ver hp' => rw [hp'] at hp; cases hp

theorem Rel.block_lt {H : AHeap} {φ : Phi} {N : Addr → Prop} {w : World} (hR : Rel H φ N w) {id B c : Nat} (hid : id < H.length) (hp : φ id = some (B, c)) : B < w.heap.size :=
  (hR.obj id _ (List.getElem?_eq_getElem hid)).block_lt hp

theorem Rel.live_lt {H : AHeap} {φ : Phi} {N : Addr → Prop} {w : World} (hR : Rel H φ N w) {a : Addr} (ha : N a) : a.block < w.heap.size := by
  obtain ⟨v, hv⟩ := hR.live a ha
  exact World.block_lt_of_cell? w a hv

/-- An object whose block has not turned. -/
theorem RObj.keep {H H' : AHeap} {φ φ' : Phi} {N N' : Addr → Prop} {w w' : World} (hR : Rel H φ N w) (hS : Since H φ N w H' φ' N' w') {id : Nat} {o : AObj}
    (hp : φ' id = φ id) (hb : ∀ B c, φ id = some (B, c) → w'.heap[B]? = w.heap[B]?) (h : RObj H φ N w id o) : RObj H' φ' N' w' id o := by
  cases h with
  | arr e k ver es hk hes h =>
    refine .arr e k ver es hk hes ?_
    rcases h with ⟨h0, h1⟩ | ⟨B, cap, cur, h1, h2, h3, h4, h5, h6⟩
    · exact .inl ⟨hp.trans h0, h1⟩
    · refine .inr ⟨B, cap, cur, hp.trans h1, (hb B cap h1).trans h2, h3, h4, h5, fun i hi j hj => ?_⟩
      obtain ⟨c, hc, hd⟩ := h6 i hi j hj
      exact ⟨c, hc, hd.since hR hS⟩
  | box e k ver n cs B cap cur hk hn hp' hb' hc hm hs h =>
    refine .box e k ver n cs B cap cur hk hn (hp.trans hp') ((hb B cap hp').trans hb') hc hm hs fun j hj => ?_
    obtain ⟨c, hc, hd⟩ := h j hj
    exact ⟨c, hc, hd.since hR hS⟩
  | mp kk es B cap ents clock hp' hb' hs h =>
    exact .mp kk es B cap ents clock (hp.trans hp') ((hb B cap hp').trans hb') hs fun j hj hj2 => ⟨(h j hj hj2).1, (h j hj hj2).2.since hR hS⟩
  | dead ver hp' => exact .dead ver (hp.trans hp')

/-! ### T5: the world has only been drawn from -/
theorem Since.drawn {H : AHeap} {φ : Phi} {N : Addr → Prop} {w w' : World} (hh : w'.heap = w.heap) (ho : w'.os = w.os) (ht : w'.tape = w.tape) (hu : w'.output = w.output) : Since H φ N w H φ N w' :=
  ⟨Nat.le_refl _, ho, ht, hu, by rw [hh]; exact Nat.le_refl _, fun _ _ _ => by rw [hh], fun id B c hid h _ => ⟨id, c, hid, h⟩, fun _ h => h,
    fun _ o h => ⟨o, h, rfl, Nat.le_refl _, fun _ => ⟨rfl, Nat.le_refl _⟩, fun kk es h => ⟨rfl, es, h⟩⟩⟩
theorem Rel.drawn {H : AHeap} {φ : Phi} {N : Addr → Prop} {w w' : World} (hR : Rel H φ N w) (hh : w'.heap = w.heap) (ho : w'.os = w.os) (ht : w'.tape = w.tape) (hu : w'.output = w.output) : Rel H φ N w' where
  obj id o h := (hR.obj id o h).keep hR (Since.drawn hh ho ht hu) rfl fun B c _ => by rw [hh]
  inj := hR.inj
  live a ha := by obtain ⟨v, hv⟩ := hR.live a ha; exact ⟨v, by rw [World.cell?_of_block (w := w) (by rw [hh])]; exact hv⟩
  apart := hR.apart

/-! ### T2: a block that never changes -/
theorem Since.fixed {H : AHeap} {φ : Phi} {N : Addr → Prop} {w : World} (hR : Rel H φ N w) (o : Obj) (N' : Addr → Prop) (hN : ∀ a, N a → N' a) : Since H φ N w H φ N' (w.alloc o) :=
  ⟨Nat.le_refl _, rfl, rfl, rfl, by simp, fun k hk _ => Below.heap_alloc w o k hk, fun id B c hid h _ => ⟨id, c, hid, h⟩, hN,
    fun _ o h => ⟨o, h, rfl, Nat.le_refl _, fun _ => ⟨rfl, Nat.le_refl _⟩, fun kk es h => ⟨rfl, es, h⟩⟩⟩
theorem Rel.fixed {H : AHeap} {φ : Phi} {N : Addr → Prop} {w : World} (hR : Rel H φ N w) (cs : Array Value) (e : TypeId) (fr : Nat × Nat) :
    Rel H φ (fun a => N a ∨ (a.block = w.heap.size ∧ a.spot = none ∧ a.off < cs.size)) (w.alloc (.cells cs e fr)) where
  obj id o h := (hR.obj id o h).keep hR (Since.fixed hR _ _ fun _ h => .inl h) rfl fun B c hp => Below.heap_alloc w _ B ((hR.obj id o h).block_lt hp)
  inj := hR.inj
  live a ha := by
    rcases ha with ha | ⟨h1, h2, h3⟩
    · obtain ⟨v, hv⟩ := hR.live a ha
      exact ⟨v, by rw [World.cell?_of_block (w := w) (Below.heap_alloc w _ _ (World.block_lt_of_cell? w a hv))]; exact hv⟩
    · refine ⟨cs[a.off], ?_⟩
      have hg : (w.alloc (.cells cs e fr)).heap[a.block]? = some (.cells cs e fr) := by rw [h1]; exact heap_alloc_new w _
      simp [World.cell?, hg, h2, h3]
  apart a id B c ha hid hp := by
    have hB := hR.block_lt hid hp
    rcases ha with ha | ⟨h1, _⟩
    · exact hR.apart a id B c ha hid hp
    · omega

/-! ### T1: a new object -/
def Phi.put (φ : Phi) (id : Nat) (p : Option (Nat × Nat)) : Phi := fun i => if i = id then p else φ i
theorem Phi.put_same (φ : Phi) (id : Nat) (p : Option (Nat × Nat)) : φ.put id p id = p := by simp [Phi.put]
theorem Phi.put_other (φ : Phi) (id i : Nat) (p : Option (Nat × Nat)) (h : i ≠ id) : φ.put id p i = φ i := by simp [Phi.put, h]

theorem get_snoc {H : AHeap} {o o' : AObj} {id : Nat} (h : (H ++ [o])[id]? = some o') : (H[id]? = some o' ∧ id < H.length) ∨ (id = H.length ∧ o' = o) := by
  rcases Nat.lt_or_ge id H.length with h' | h'
  · rw [List.getElem?_append_left h'] at h; exact .inl ⟨h, h'⟩
  · rw [List.getElem?_append_right h'] at h
    have : id - H.length = 0 := by
      rcases Nat.eq_zero_or_pos (id - H.length) with h0 | h0
      · exact h0
      · rw [List.getElem?_eq_none (by simp only [List.length_singleton]; omega)] at h; cases h
    rw [this] at h
    simp at h
    exact .inr ⟨by omega, h.symm⟩

theorem Since.new {H : AHeap} {φ : Phi} {N : Addr → Prop} {w : World} (hR : Rel H φ N w) (ob : Obj) (o : AObj) (cap : Nat) :
    Since H φ N w (H ++ [o]) (φ.put H.length (some (w.heap.size, cap))) N (w.alloc ob) where
  len := by simp
  os := rfl
  tape := rfl
  output := rfl
  size := by simp
  keep k hk _ := Below.heap_alloc w _ k hk
  own id B c hid hp hB := by
    by_cases he : id = H.length
    · subst he; rw [Phi.put_same] at hp; cases hp; omega
    · rw [Phi.put_other _ _ _ _ he] at hp
      exact ⟨id, c, by simp at hid; omega, hp⟩
  mono _ h := h
  compat id o' h := ⟨o', by rw [List.getElem?_append_left (len_of_get h)]; exact h, rfl, Nat.le_refl _,
    fun _ => ⟨Phi.put_other _ _ _ _ (Nat.ne_of_lt (len_of_get h)), Nat.le_refl _⟩, fun kk es he => ⟨Phi.put_other _ _ _ _ (Nat.ne_of_lt (len_of_get h)), es, he⟩⟩

theorem Rel.new {H : AHeap} {φ : Phi} {N : Addr → Prop} {w : World} (hR : Rel H φ N w) (ob : Obj) (o : AObj) (cap : Nat)
    (hnew : RObj (H ++ [o]) (φ.put H.length (some (w.heap.size, cap))) N (w.alloc ob) H.length o) :
    Rel (H ++ [o]) (φ.put H.length (some (w.heap.size, cap))) N (w.alloc ob) where
  obj id o' h := by
    rcases get_snoc h with ⟨h1, h2⟩ | ⟨rfl, rfl⟩
    · exact (hR.obj id o' h1).keep hR (Since.new hR ob o cap) (Phi.put_other _ _ _ _ (Nat.ne_of_lt h2)) fun B c hp => Below.heap_alloc w _ B ((hR.obj id o' h1).block_lt hp)
    · exact hnew
  inj i j B c c' hi hj h1 h2 := by
    simp at hi hj
    by_cases e1 : i = H.length <;> by_cases e2 : j = H.length
    · omega
    · subst e1
      rw [Phi.put_same] at h1; cases h1
      rw [Phi.put_other _ _ _ _ e2] at h2
      exact absurd (hR.block_lt (by omega) h2) (by omega)
    · subst e2
      rw [Phi.put_same] at h2; cases h2
      rw [Phi.put_other _ _ _ _ e1] at h1
      exact absurd (hR.block_lt (by omega) h1) (by omega)
    · rw [Phi.put_other _ _ _ _ e1] at h1
      rw [Phi.put_other _ _ _ _ e2] at h2
      exact hR.inj i j B c c' (by omega) (by omega) h1 h2
  live a ha := by
    obtain ⟨v, hv⟩ := hR.live a ha
    exact ⟨v, by rw [World.cell?_of_block (w := w) (Below.heap_alloc w _ _ (World.block_lt_of_cell? w a hv))]; exact hv⟩
  apart a id B c ha hid hp := by
    have hl := hR.live_lt ha
    by_cases he : id = H.length
    · subst he; rw [Phi.put_same] at hp; cases hp; omega
    · rw [Phi.put_other _ _ _ _ he] at hp
      exact hR.apart a id B c ha (by simp at hid; omega) hp

/-- A new variable, or row of cells. -/
theorem Rel.new_box {H : AHeap} {φ : Phi} {N : Addr → Prop} {w : World} (hR : Rel H φ N w) (e : TypeId) (k n : Nat) (cs : List AV) (vs : Array Value) (hk : 0 < k) (hn : cs.length = n * k) (hm : n ≤ maxLen)
    (hl : cs.length = vs.size) (h : ∀ j (h1 : j < cs.length) (h2 : j < vs.size), RA H φ N w (cs[j]) (vs[j])) :
    Rel (H ++ [.box e k 0 n cs]) (φ.put H.length (some (w.heap.size, n))) N (w.alloc (.cells vs e)) := by
  refine hR.new _ _ _ (.box e k 0 n cs w.heap.size n vs hk hn (Phi.put_same _ _ _) (heap_alloc_new w _) (Nat.le_refl _) hm (by omega) fun j hj => ?_)
  exact ⟨vs[j]'(by omega), by simp [show j < vs.size by omega], (h j hj (by omega)).since hR (Since.new hR _ _ _)⟩

/-- A new array of pure elements. -/
theorem Rel.new_arr {H : AHeap} {φ : Phi} {N : Addr → Prop} {w : World} (hR : Rel H φ N w) (e : TypeId) (k : Nat) (es : List (List D)) (vs : Array Value) (hk : 0 < k) (hes : ∀ c ∈ es, c.length = k) (hm : es.length ≤ maxLen)
    (hl : vs.size = es.length * k) (h : ∀ i (hi : i < es.length) j (hj : j < (es[i]).length), ∃ c, vs[i * k + j]? = some c ∧ RD N w ((es[i])[j]) c) :
    Rel (H ++ [.arr e k 0 es]) (φ.put H.length (some (w.heap.size, es.length))) N (w.alloc (.cells vs e)) := by
  refine hR.new _ _ _ (.arr e k 0 es hk hes (.inr ⟨w.heap.size, es.length, vs, Phi.put_same _ _ _, heap_alloc_new w _, Nat.le_refl _, hm, hl, fun i hi j hj => ?_⟩))
  obtain ⟨c, hc, hd⟩ := h i hi j hj
  exact ⟨c, hc, hd.since hR (Since.new hR (.cells vs e) (.arr e k 0 es) es.length)⟩

/-! ### T3: an owned block has new contents -/
theorem Since.set {H : AHeap} {φ : Phi} {N : Addr → Prop} {w w' : World} {id B c : Nat} {o o' : AObj} (ho : H[id]? = some o) (hp : φ id = some (B, c))
    (hk : o'.k = o.k) (hv : o'.ver = o.ver) (hl : o'.len = o.len) (hm : ∀ kk es, o = .mp kk es → ∃ es', o' = .mp kk es')
    (h1 : w'.os = w.os) (h2 : w'.tape = w.tape) (h3 : w'.output = w.output) (h4 : w'.heap.size = w.heap.size) (h5 : ∀ k, k ≠ B → w'.heap[k]? = w.heap[k]?) :
    Since H φ N w (H.set id o') φ N w' where
  len := by simp
  os := h1
  tape := h2
  output := h3
  size := by omega
  keep k hk' hn := h5 k fun e => hn id c (len_of_get ho) (by rw [e]; exact hp)
  own id' B' c' hid h _ := ⟨id', c', by simpa using hid, h⟩
  mono _ h := h
  compat id' o1 h := by
    by_cases e : id' = id
    · subst e
      rw [ho] at h; cases h
      exact ⟨o', by simp [len_of_get ho], hk, by omega, fun _ => ⟨rfl, by omega⟩, fun kk es he => ⟨rfl, hm kk es he⟩⟩
    · exact ⟨o1, by rw [List.getElem?_set_ne (Ne.symm e)]; exact h, rfl, Nat.le_refl _, fun _ => ⟨rfl, Nat.le_refl _⟩, fun kk es he => ⟨rfl, es, he⟩⟩

theorem Rel.set {H : AHeap} {φ : Phi} {N : Addr → Prop} {w w' : World} (hR : Rel H φ N w) {id B c : Nat} {o o' : AObj} (ho : H[id]? = some o) (hp : φ id = some (B, c))
    (hS : Since H φ N w (H.set id o') φ N w') (h5 : ∀ k, k ≠ B → w'.heap[k]? = w.heap[k]?) (hnew : RObj (H.set id o') φ N w' id o') : Rel (H.set id o') φ N w' where
  obj id' o1 h := by
    by_cases e : id' = id
    · subst e
      rw [List.getElem?_set_self (len_of_get ho)] at h; cases h
      exact hnew
    · rw [List.getElem?_set_ne (Ne.symm e)] at h
      exact (hR.obj id' o1 h).keep hR hS rfl fun B' c' hp' => h5 B' fun eb => e (hR.inj id' id B c' c (len_of_get h) (len_of_get ho) (by rw [← eb]; exact hp') hp)
  inj i j B c c' hi hj h1 h2 := hR.inj i j B c c' (by simpa using hi) (by simpa using hj) h1 h2
  live a ha := by
    obtain ⟨v, hv⟩ := hR.live a ha
    refine ⟨v, ?_⟩
    rw [World.cell?_of_block (w := w) (h5 a.block fun e => hR.apart a id B c ha (len_of_get ho) hp e)]
    exact hv
  apart a id' B' c' ha hid hp' := hR.apart a id' B' c' ha (by simpa using hid) hp'

end Go.Proofs.YtfmmemboakdeiaaAw

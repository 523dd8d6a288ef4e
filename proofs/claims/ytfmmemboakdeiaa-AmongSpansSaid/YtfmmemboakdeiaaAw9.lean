/- Code: the evaluator over whole bodies, loops, calls; its soundness; the contract of a function out of its body. -/
import Derived.Test.YtfmmemboakdeiaaAw8
namespace Go.Proofs.YtfmmemboakdeiaaAw
open Go.RowKit
set_option linter.unusedVariables false
set_option linter.unusedSimpArgs false

inductive AX where
  | normal
  | exit (id : Nat)
  | ret
  | panic (v : Value)
def AX.exitOf : AX → Exit
  | .normal => .normal
  | .exit id => .exit id
  | .ret => .ret
  | .panic v => .panic [{ v := v, recovered := false }]

abbrev Post := AX → (Nat → AV) → AHeap → Prop

def aput (n : Nat) (s : Nat → AV) (d : Option Tmp) (v : AV) : Nat → AV :=
  match d with
  | some d => fun t => if t = d then (if d < n then v else .top) else s t
  | none => s

/-- A call, a panic, or an operation. -/
def astep (P : Program) (hint : Nat → Bool) (s : Nat → AV) (H : AHeap) (o : Oper) (K : AV → AHeap → Prop) (KP : Value → AHeap → Prop) : Prop :=
  match o.op with
  | .panic x => (match closed (aeval s x) with | some (.iface t u) => KP (.iface t u) H | _ => False)
  | .call c => (match c.callee with
    | .value f => (match aeval s f with
      | .fn g caps => ∃ res H', Does P g (c.args.toList.map (aeval s) ++ caps) H res H' ∧ (match res with | .ok r => K r H' | .panic v => KP v H')
      | _ => False)
    | .builtin b => abuiltin P s H b c.args.toList c.argTypes.toList K
    | _ => False)
  | op => aop P s H (match o.dst with | some d => hint d | none => false) op K

/-- Whether a guard's word is the wanted one; what was left out holds no word. -/
def asW (want : Bool) : AV → Option Bool
  | .d (.v (.bool b)) => some (b == want)
  | .tup [] => some false
  | _ => none
def ayield (ops : Array Oper) (s : Nat → AV) (n : Nat) (j : Nat) (want : Bool) : Option Bool :=
  match (ops[j]?).bind (·.dst) with
  | some d => if d < n then asW want (s d) else none
  | none => none

def awpOp (P : Program) (hint : Nat → Bool) (n : Nat) (ops : Array Oper) (Q : Post) (o : Oper) (K : (Nat → AV) → AHeap → Prop) (s : Nat → AV) (H : AHeap) : Prop :=
  match o.guard with
  | none => astep P hint s H o (fun r H' => K (aput n s o.dst r) H') fun v H' => Q (.panic v) s H'
  | some (j, want) => (match ayield ops s n j want with
    | some b => if b = true then astep P hint s H o (fun r H' => K (aput n s o.dst r) H') (fun v H' => Q (.panic v) s H') else K (aput n s o.dst (.tup [])) H
    | none => False)

def awpList (P : Program) (hint : Nat → Bool) (n : Nat) (ops : Array Oper) (Q : Post) : List Oper → (Nat → AV) → AHeap → Prop
  | [], s, H => Q .normal s H
  | o :: rest, s, H => awpOp P hint n ops Q o (awpList P hint n ops Q rest) s H

/-- All orders of a region that draws. -/
def awpAny (P : Program) (hint : Nat → Bool) (n : Nat) (ops : Array Oper) (Q : Post) : Nat → Array Bool → (Nat → AV) → AHeap → Prop
  | 0, listed, s, H => Region.ready .any ops listed = [] ∧ Q .normal s H
  | fuel + 1, listed, s, H => (Region.ready .any ops listed = [] → Q .normal s H) ∧
      ∀ i ∈ Region.ready .any ops listed, match ops[i]? with
        | none => awpAny P hint n ops Q fuel (listed.setIfInBounds i true) s H
        | some o => awpOp P hint n ops Q o (awpAny P hint n ops Q fuel (listed.setIfInBounds i true)) s H

/-! ### What may be forgotten -/
def frz0 (H : AHeap) (m : Nat) : AV → AV
  | .ptr id v i j => if id < m then .ptr id v i j else .top
  | .mp id => if id < m then .mp id else .top
  | .sl id v off len => if id < m then .sl id v off len else match H[id]? with
    | some (.arr _ _ ver es) => if ver = v then .d (.list false ((es.drop off).take len)) else .top
    | _ => .top
  | .agg _ => .top
  | .tup _ => .top
  | .fn f [] => .fn f []
  | .fn _ _ => .top
  | x => x
def frz1 (H : AHeap) (m : Nat) : AV → AV
  | .agg cs => .agg (cs.map (frz0 H m))
  | .fn f cs => .fn f (cs.map (frz0 H m))
  | x => frz0 H m x
def frz (H : AHeap) (m : Nat) : AV → AV
  | .tup cs => .tup (cs.map (frz1 H m))
  | x => frz1 H m x
def below0 (m : Nat) : AV → Bool
  | .ptr id _ _ _ => decide (id < m)
  | .mp id => decide (id < m)
  | .sl id _ _ _ => decide (id < m)
  | .agg _ => false
  | .tup _ => false
  | .fn _ cs => cs.isEmpty
  | _ => true
def below1 (m : Nat) : AV → Bool
  | .agg cs => cs.all (below0 m)
  | .fn _ cs => cs.all (below0 m)
  | x => below0 m x
def AObj.below (m : Nat) : AObj → Bool
  | .arr _ _ _ _ => true
  | .box _ _ _ _ cs => cs.all (below1 m)
  | .mp _ es => es.all fun e => below1 m e.2
  | .dead _ => true

inductive Weak (H0 : AHeap) : (Nat → AV) → AHeap → (Nat → AV) → AHeap → Prop
  | refl (s : Nat → AV) (H : AHeap) : Weak H0 s H s H
  | trunc (s : Nat → AV) (H : AHeap) (m : Nat) (hm : H0.length ≤ m) (hl : m ≤ H.length) (h : ∀ i o, i < m → H[i]? = some o → H0[i]? = some o ∨ o.below m = true) : Weak H0 s H (fun t => frz H m (s t)) (H.take m)
  | virt (s : Nat → AV) (H : AHeap) (t : Nat) (e : TypeId) (k : Nat) (hk : 0 < k) (h : isNone (s t) = true) : Weak H0 s H (fun u => if u = t then .sl H.length 0 0 0 else s u) (H ++ [.arr e k 0 []])
  | virtBox (s : Nat → AV) (H : AHeap) (id : Nat) (e0 : TypeId) (k0 ver m : Nat) (cs : List AV) (j : Nat) (x : AV) (e : TypeId) (k : Nat) (hk : 0 < k) (ho : H[id]? = some (.box e0 k0 ver m cs)) (hj : cs[j]? = some x) (hx : isNone x = true) :
      Weak H0 s H s (H.set id (.box e0 k0 ver m (cs.set j (.sl H.length 0 0 0))) ++ [.arr e k 0 []])
  | virtV (s : Nat → AV) (H : AHeap) (t : Nat) (e : TypeId) (k ver : Nat) (hk : 0 < k) (h : isNone (s t) = true) : Weak H0 s H (fun u => if u = t then .sl H.length ver 0 0 else s u) (H ++ [.arr e k ver []])
  | imp (s s' : Nat → AV) (H : AHeap) (h : ∀ φ N w u v, RA H φ N w (s u) v → RA H φ N w (s' u) v) : Weak H0 s H s' H
  | trans {s1 s2 s3 : Nat → AV} {H1 H2 H3 : AHeap} (h : Weak H0 s1 H1 s2 H2) (g : Weak H0 s2 H2 s3 H3) : Weak H0 s1 H1 s3 H3

/-- Where a walk may forget: ahead of a region that the hint names (1000000 + its number). -/
def firstR : Code → Option Nat
  | .region id _ _ => some id
  | .seq x _ => firstR x
  | _ => none
def hintAt (hint : Nat → Bool) (c : Code) : Bool := match firstR c with | some r => hint (r + 1000000) | none => false
def awp (P : Program) (hint : Nat → Bool) (n : Nat) (H0 : AHeap) : Code → Post → (Nat → AV) → AHeap → Prop
  | .skip, Q, s, H => Q .normal s H
  | .label _, Q, s, H => Q .normal s H
  | .scope x, Q, s, H => awp P hint n H0 x Q s H
  | .region _ ops draw, Q, s, H => if draw then P.follows .mixedOrders = true ∧ awpAny P hint n ops Q ops.size (Array.replicate ops.size false) s H else awpList P hint n ops Q ops.toList s H
  | .seq x y, Q, s, H => awp P hint n H0 x (fun e s' H' => match e with | .normal => (if hintAt hint y = true then ∃ s'' H'', Weak H0 s' H' s'' H'' ∧ awp P hint n H0 y Q s'' H'' else awp P hint n H0 y Q s' H') | e => Q e s' H') s H
  | .cond c x y, Q, s, H => (match aeval s c with | .d (.v (.bool b)) => if b = true then awp P hint n H0 x Q s H else awp P hint n H0 y Q s H | _ => False)
  | .block id x, Q, s, H => awp P hint n H0 x (fun e s' H' => match e with | .exit i => if i = id then Q .normal s' H' else Q (.exit i) s' H' | e => Q e s' H') s H
  | .loop x, Q, s, H => ∃ (I : Nat → (Nat → AV) → AHeap → Prop) (m : Nat), (∃ s' H', Weak H0 s H s' H' ∧ I m s' H') ∧
      ∀ m s H, I m s H → awp P hint n H0 x (fun e s' H' => match e with | .normal => ∃ s'' H'' m', Weak H0 s' H' s'' H'' ∧ I m' s'' H'' ∧ m' < m | e => Q e s' H') s H
  | .exit id, Q, s, H => Q (.exit id) s H
  | .ret, Q, s, H => Q .ret s H
  | _, _, _, _ => False

/-! ### Soundness -/
structure Inv (H0 : AHeap) (φ0 : Phi) (N0 : Addr → Prop) (w0 : World) (n : Nat) (ds : List Deferred) (s : Nat → AV) (H : AHeap) (φ : Phi) (N : Addr → Prop) (a : Act) (w : World) : Prop where
  rel : Rel H φ N w
  tmps : TRel H φ N w s a
  since : Since H0 φ0 N0 w0 H φ N w
  size : a.tmps.size = n
  defers : a.defers = ds

section
variable {P : Program} {H0 : AHeap} {φ0 : Phi} {N0 : Addr → Prop} {w0 : World} {n : Nat} {ds : List Deferred} {hint : Nat → Bool}

def CPost (H0 : AHeap) (φ0 : Phi) (N0 : Addr → Prop) (w0 : World) (n : Nat) (ds : List Deferred) (Q : Post) : Exit → Act → World → Prop := fun e a w =>
  ∃ x s H φ N, e = AX.exitOf x ∧ Q x s H ∧ Inv H0 φ0 N0 w0 n ds s H φ N a w

theorem TRel.put {H : AHeap} {φ : Phi} {N : Addr → Prop} {w : World} {s : Nat → AV} {a : Act} (hT : TRel H φ N w s a) {d : Option Tmp} {r : AV} {x : Value} (hr : RA H φ N w r x) (hs : a.tmps.size = n) :
    TRel H φ N w (aput n s d r) (a.put d x) := by
  intro t
  cases d with
  | none => exact hT t
  | some d =>
    simp only [aput, Act.put]
    by_cases h1 : t = d
    · subst h1
      rw [if_pos rfl]
      by_cases h2 : t < n
      · rw [if_pos h2]
        simpa [Array.getD, Array.size_setIfInBounds, hs, h2] using hr
      · rw [if_neg h2]; exact .top _
    · rw [if_neg h1]
      have := hT t
      by_cases h2 : t < a.tmps.size
      · simpa [Array.getD, Array.size_setIfInBounds, h2, Array.getElem_setIfInBounds_ne _ (Ne.symm h1)] using this
      · simpa [Array.getD, Array.size_setIfInBounds, h2] using this
theorem put_size (a : Act) (d : Option Tmp) (v : Value) : (a.put d v).tmps.size = a.tmps.size := by cases d <;> simp [Act.put]
theorem put_defers (a : Act) (d : Option Tmp) (v : Value) : (a.put d v).defers = a.defers := by cases d <;> rfl

theorem Inv.put {s : Nat → AV} {H H' : AHeap} {φ φ' : Phi} {N N' : Addr → Prop} {a : Act} {w w' : World} (h : Inv H0 φ0 N0 w0 n ds s H φ N a w) (hR : Rel H' φ' N' w') (hS : Since H φ N w H' φ' N' w') {r : AV} {x : Value} (hr : RA H' φ' N' w' r x) (d : Option Tmp) :
    Inv H0 φ0 N0 w0 n ds (aput n s d r) H' φ' N' (a.put d x) w' where
  rel := hR
  tmps := TRel.put (fun t => (h.tmps t).since h.rel hS) hr h.size
  since := h.since.trans hS
  size := (put_size _ _ _).trans h.size
  defers := (put_defers _ _ _).trans h.defers

theorem astep_ok {s : Nat → AV} {H : AHeap} {φ : Phi} {N : Addr → Prop} {a : Act} {w : World} {o : Oper} (hI : Inv H0 φ0 N0 w0 n ds s H φ N a w) {K : AV → AHeap → Prop} {KP : Value → AHeap → Prop} (h : astep P hint s H o K KP)
    {next : Act → World → Prop} {Q : Exit → Act → World → Prop}
    (hn : ∀ r H' φ' N' x w', K r H' → Rel H' φ' N' w' → Since H φ N w H' φ' N' w' → RA H' φ' N' w' r x → next (a.put o.dst x) w')
    (hp : ∀ v H' φ' N' w', KP v H' → Rel H' φ' N' w' → Since H φ N w H' φ' N' w' → Q (.panic [{ v := v, recovered := false }]) a w') : o.wp P a w next Q := by
  have plain : ∀ r H', K r H' ∧ OpOk P o a w H φ N r H' → o.wp P a w next Q := by
    rintro r H' ⟨hK, x, w', φ', N', hrun, hR, hS, hr⟩
    unfold Oper.wp
    rcases hrun with hrun | ⟨hrun, rfl⟩
    · rw [hrun]; exact hn r H' φ' N' x w' hK hR hS hr
    · rw [hrun]; exact hn r H' φ' N' undef w' hK hR hS hr
  unfold astep at h
  split at h
  · rename_i x ho
    split at h
    · rename_i t u hx
      have hv := closed_ok (aeval_ok hI.tmps x) hx
      unfold Oper.wp
      have hrun : (execOp a.eval o).run P w = .halt (.panic (.iface t u)) w := by simp [execOp, ho, hv, Instr.panic, goPanic]
      rw [hrun]
      exact hp _ H φ N w h hI.rel Since.refl
    · exact h.elim
  · rename_i c ho
    split at h
    · rename_i f hc
      split at h
      · rename_i g caps hf
        obtain ⟨res, H', hD, h⟩ := h
        have hfv := aeval_ok hI.tmps f
        rw [hf] at hfv
        generalize hfe : a.eval f = fv at hfv
        cases hfv with
        | fn _ _ vs hl hh =>
        have hargs : RAs H φ N w (c.args.toList.map (aeval s) ++ caps) (c.args.map a.eval ++ vs) := by
          refine ⟨by simp [hl], fun i h1 h2 => ?_⟩
          by_cases hi : i < c.args.size
          · rw [List.getElem_append_left (by simpa using hi), Array.getElem_append_left (by simpa using hi)]
            simp only [List.getElem_map, Array.getElem_map, Array.getElem_toList]
            exact aeval_ok hI.tmps _
          · rw [List.getElem_append_right (by simpa using hi), Array.getElem_append_right (by simpa using hi)]
            simp only [List.length_map, Array.length_toList, Array.size_map]
            exact hh _ (by simp at h1; omega) (by simp at h2; omega)
        have hcall := hD φ N w _ hI.rel hargs
        have hex : ∀ r, (callFunc g (c.args.map a.eval ++ vs)).run P w = r → (execOp a.eval o).run P w = r := by
          intro r hr
          simp [execOp, ho, resolve, hc, hfe, Deferred.ofValue, invoke, hr]
        unfold Oper.wp
        rcases hcall with ⟨hrun, hC⟩ | ⟨v, w', hrun, φ', N', hR, hS, hE⟩
        · rw [hex _ hrun]
          refine Calls.mono hC ?_
          rintro e w' ⟨φ', N', hR, hS, hE⟩
          cases res with
          | ok r =>
            cases e with
            | returned v => exact hn r H' φ' N' v w' h hR hS hE
            | panicked ch => exact hE.elim
            | outgrown => exact hE.elim
          | panic v =>
            cases e with
            | returned _ => exact hE.elim
            | panicked ch =>
              cases ch with
              | nil => exact hE.elim
              | cons p ps =>
                cases ps with
                | nil =>
                  have : p = { v := v, recovered := false } := hE
                  subst this
                  exact hp v H' φ' N' w' h hR hS
                | cons _ _ => exact hE.elim
            | outgrown => exact hE.elim
        · rw [hex _ hrun]
          cases res with
          | ok r => exact hn r H' φ' N' v w' h hR hS hE
          | panic _ => exact hE.elim
      · exact h.elim
    · rename_i b hc
      obtain ⟨r, H', hK, hok⟩ := abuiltin_ok hI.rel hI.tmps ho hc h
      exact plain r H' ⟨hK, hok⟩
    · exact h.elim
  · obtain ⟨r, H', hK, hok⟩ := aop_ok hI.rel hI.tmps h
    exact plain r H' ⟨hK, hok⟩

theorem awpOp_ok {ops : Array Oper} {Q : Post} {s : Nat → AV} {H : AHeap} {φ : Phi} {N : Addr → Prop} {a : Act} {w : World} {o : Oper} (hI : Inv H0 φ0 N0 w0 n ds s H φ N a w) {K : (Nat → AV) → AHeap → Prop} (h : awpOp P hint n ops Q o K s H)
    {next : Act → World → Prop} (hn : ∀ s' H' φ' N' a' w', K s' H' → Inv H0 φ0 N0 w0 n ds s' H' φ' N' a' w' → next a' w') :
    if Region.wanted o (yielded ops a.tmps) then o.wp P a w next (CPost H0 φ0 N0 w0 n ds Q) ∨ (o.asks P a w ∧ LetsOut (CPost H0 φ0 N0 w0 n ds Q)) else next (a.put o.dst undef) w := by
  have step : astep P hint s H o (fun r H' => K (aput n s o.dst r) H') (fun v H' => Q (.panic v) s H') → o.wp P a w next (CPost H0 φ0 N0 w0 n ds Q) := fun h =>
    astep_ok hI h (fun r H' φ' N' x w' hK hR hS hr => hn _ _ φ' N' _ _ hK (hI.put hR hS hr _))
      (fun v H' φ' N' w' hq hR hS => ⟨.panic v, s, H', φ', N', rfl, hq, hR, fun t => (hI.tmps t).since hI.rel hS, hI.since.trans hS, hI.size, hI.defers⟩)
  unfold awpOp at h
  split at h
  · rename_i hg
    have : Region.wanted o (yielded ops a.tmps) = true := by simp [Region.wanted, hg]
    rw [if_pos this]
    exact .inl (step h)
  · rename_i j want hg
    split at h
    · rename_i b hb
      have hw : Region.wanted o (yielded ops a.tmps) = b := by
        unfold ayield at hb
        split at hb
        · rename_i d hd
          split at hb
          · rename_i hdn
            have := hI.tmps d
            have hlt : d < a.tmps.size := by rw [hI.size]; exact hdn
            simp only [Array.getD, hlt, dif_pos] at this
            have this : RA H φ N w (s d) a.tmps[d] := this
            unfold asW at hb
            split at hb
            · rename_i b' hs
              cases hb
              rw [hs] at this
              have hv := this.closed
              have hv' : a.tmps[d] = .bool b' := hv
              simp [Region.wanted, hg, yielded, hd, hlt, hv']
            · rename_i hs
              cases hb
              rw [hs] at this
              generalize hx : a.tmps[d] = x at this
              cases this with
              | tup cs vs hl h =>
                simp [Region.wanted, hg, yielded, hd, hlt, hx]
            · cases hb
          · cases hb
        · cases hb
      cases b with
      | true =>
        rw [if_pos rfl] at h
        rw [if_pos hw]
        exact .inl (step h)
      | false =>
        rw [if_neg (by simp)] at h
        rw [if_neg (by simp [hw])]
        exact hn _ _ φ N _ _ h (hI.put hI.rel Since.refl (.tup [] #[] rfl fun i h => by simp at h) _)
    · exact h.elim

theorem awpList_ok {ops : Array Oper} {Q : Post} : ∀ (l : List Oper) (k : Nat), (∀ j, l[j]? = ops[k + j]?) → ∀ {s : Nat → AV} {H : AHeap} {φ : Phi} {N : Addr → Prop} {a : Act} {w : World}, Inv H0 φ0 N0 w0 n ds s H φ N a w →
    awpList P hint n ops Q l s H → wpOps P ops (CPost H0 φ0 N0 w0 n ds Q) (List.range' k l.length) a w
  | [], k, hl, s, H, φ, N, a, w, hI, h => ⟨.normal, s, H, φ, N, rfl, h, hI⟩
  | o :: rest, k, hl, s, H, φ, N, a, w, hI, h => by
    have h0 : ops[k]? = some o := by simpa using (hl 0).symm
    simp only [List.length_cons, List.range'_succ]
    rw [wpOps_cons]
    unfold wpOp
    simp only [h0]
    exact awpOp_ok hI h fun s' H' φ' N' a' w' hK hI' => awpList_ok rest (k + 1) (fun j => by have := hl (j + 1); rw [List.getElem?_cons_succ] at this; rw [this]; congr 1; omega) hI' hK

theorem awpAny_ok {ops : Array Oper} {Q : Post} : ∀ (fuel : Nat) (listed : Array Bool) {s : Nat → AV} {H : AHeap} {φ : Phi} {N : Addr → Prop} {a : Act} {w : World}, Inv H0 φ0 N0 w0 n ds s H φ N a w →
    awpAny P hint n ops Q fuel listed s H → wpAny P .any ops (CPost H0 φ0 N0 w0 n ds Q) fuel listed a w
  | 0, listed, s, H, φ, N, a, w, hI, h => ⟨h.1, .normal, s, H, φ, N, rfl, h.2, hI⟩
  | fuel + 1, listed, s, H, φ, N, a, w, hI, h => by
    refine ⟨fun hr => ⟨.normal, s, H, φ, N, rfl, h.1 hr, hI⟩, fun i hi => ?_⟩
    have hi' := h.2 i hi
    unfold wpOp
    split at hi'
    · rename_i hop
      simp only [hop]
      exact awpAny_ok fuel _ hI hi'
    · rename_i o hop
      simp only [hop]
      exact awpOp_ok hI hi' fun s' H' φ' N' a' w' hK hI' => awpAny_ok fuel _ hI' hK

/-! ### Forgetting -/
inductive Bel (m : Nat) : AV → Prop
  | top : Bel m .top
  | d (x : D) : Bel m (.d x)
  | cap0 : Bel m .cap0
  | ptr (id ver i j : Nat) (h : id < m) : Bel m (.ptr id ver i j)
  | iptr (cs : List D) : Bel m (.iptr cs)
  | sl (id ver off len : Nat) (h : id < m) : Bel m (.sl id ver off len)
  | agg (cs : List AV) (h : ∀ i (hi : i < cs.length), Bel m (cs[i])) : Bel m (.agg cs)
  | tup (cs : List AV) (h : ∀ i (hi : i < cs.length), Bel m (cs[i])) : Bel m (.tup cs)
  | fn (f : FuncId) (cs : List AV) (h : ∀ i (hi : i < cs.length), Bel m (cs[i])) : Bel m (.fn f cs)
  | mp (id : Nat) (h : id < m) : Bel m (.mp id)
theorem Bel.mono {m m' : Nat} {x : AV} (h : Bel m x) (hm : m ≤ m') : Bel m' x := by
  induction h with
  | top => exact .top
  | d => exact .d _
  | cap0 => exact .cap0
  | ptr _ _ _ _ h => exact .ptr _ _ _ _ (by omega)
  | iptr => exact .iptr _
  | sl _ _ _ _ h => exact .sl _ _ _ _ (by omega)
  | agg cs _ ih => exact .agg cs ih
  | tup cs _ ih => exact .tup cs ih
  | fn f cs _ ih => exact .fn f cs ih
  | mp _ h => exact .mp _ (by omega)
theorem RA.bel {H : AHeap} {φ : Phi} {N : Addr → Prop} {w : World} {x : AV} {v : Value} (h : RA H φ N w x v) : Bel H.length x := by
  induction h with
  | top => exact .top
  | d => exact .d _
  | cap0 => exact .cap0
  | ptr id ver i j A o ho => exact .ptr _ _ _ _ (len_of_get ho)
  | iptr => exact .iptr _
  | sl id ver off len A l m o ho => exact .sl _ _ _ _ (len_of_get ho)
  | agg cs vs hl _ ih => exact .agg cs fun i hi => ih i hi (by omega)
  | tup cs vs hl _ ih => exact .tup cs fun i hi => ih i hi (by omega)
  | fn f cs vs hl _ ih => exact .fn f cs fun i hi => ih i hi (by omega)
  | mp id B c kk es ho => exact .mp _ (len_of_get ho)
theorem bel0 {m : Nat} {x : AV} (h : below0 m x = true) : Bel m x := by
  cases x with
  | top => exact .top
  | d => exact .d _
  | cap0 => exact .cap0
  | ptr id _ _ _ => exact .ptr _ _ _ _ (by simpa [below0] using h)
  | iptr => exact .iptr _
  | sl id _ _ _ => exact .sl _ _ _ _ (by simpa [below0] using h)
  | agg => cases h
  | tup => cases h
  | fn f cs =>
    have : cs = [] := by simpa [below0] using h
    subst this
    exact .fn f [] fun i hi => by simp at hi
  | mp id => exact .mp _ (by simpa [below0] using h)
theorem bel1 {m : Nat} {x : AV} (h : below1 m x = true) : Bel m x := by
  cases x with
  | agg cs =>
    simp only [below1, List.all_eq_true] at h
    exact .agg cs fun i hi => bel0 (h _ (List.getElem_mem hi))
  | fn f cs =>
    simp only [below1, List.all_eq_true] at h
    exact .fn f cs fun i hi => bel0 (h _ (List.getElem_mem hi))
  | _ => exact bel0 h

def Frozen (H : AHeap) (φ : Phi) (m : Nat) (N : Addr → Prop) : Addr → Prop := fun a =>
  N a ∨ ∃ id B c e k ver es, m ≤ id ∧ H[id]? = some (.arr e k ver es) ∧ φ id = some (B, c) ∧ a.block = B ∧ a.spot = none ∧ a.off < es.length * k

theorem get_take {H : AHeap} {m id : Nat} (h : id < m) : (H.take m)[id]? = H[id]? := by rw [List.getElem?_take, if_pos h]
theorem RD.frozen {H : AHeap} {φ : Phi} {m : Nat} {N : Addr → Prop} {w : World} {x : D} {v : Value} (h : RD N w x v) : RD (Frozen H φ m N) w x v := h.mono (fun _ h => .inl h) fun _ _ _ h => h
theorem RA.take {H : AHeap} {φ : Phi} {N : Addr → Prop} {w : World} {x : AV} {v : Value} (h : RA H φ N w x v) {m : Nat} (hb : Bel m x) : RA (H.take m) φ (Frozen H φ m N) w x v := by
  induction h with
  | top => exact .top _
  | d hd => exact .d hd.frozen
  | cap0 => exact .cap0 _
  | ptr id ver i j A o ho hv hp => cases hb with | ptr _ _ _ _ h => exact .ptr _ _ _ _ _ o (by rw [get_take h]; exact ho) hv hp
  | iptr cs ad c hc hd => exact .iptr cs ad c (fun t ht => ⟨.inl (hc t ht).1, (hc t ht).2⟩) fun t ht => (hd t ht).frozen
  | sl id ver off len A l m' o ho hv hp => cases hb with | sl _ _ _ _ h => exact .sl _ _ _ _ _ _ _ o (by rw [get_take h]; exact ho) hv hp
  | agg cs vs hl _ ih => cases hb with | agg _ hb => exact .agg cs vs hl fun i h1 h2 => ih i h1 h2 (hb i h1)
  | tup cs vs hl _ ih => cases hb with | tup _ hb => exact .tup cs vs hl fun i h1 h2 => ih i h1 h2 (hb i h1)
  | fn f cs vs hl _ ih => cases hb with | fn _ _ hb => exact .fn f cs vs hl fun i h1 h2 => ih i h1 h2 (hb i h1)
  | mp id B c kk es ho hp => cases hb with | mp _ h => exact .mp id B c kk es (by rw [get_take h]; exact ho) hp

theorem frz0_ok {H : AHeap} {φ : Phi} {N : Addr → Prop} {w : World} (hR : Rel H φ N w) (m : Nat) {x : AV} {v : Value} (h : RA H φ N w x v) : RA (H.take m) φ (Frozen H φ m N) w (frz0 H m x) v := by
  cases x with
  | ptr id ver i j =>
    simp only [frz0]
    split
    · rename_i hlt; exact h.take (.ptr _ _ _ _ hlt)
    · exact .top _
  | mp id =>
    simp only [frz0]
    split
    · rename_i hlt; exact h.take (.mp _ hlt)
    · exact .top _
  | sl id ver off len =>
    simp only [frz0]
    split
    · rename_i hlt; exact h.take (.sl _ _ _ _ hlt)
    · rename_i hge
      split
      · rename_i e k v' es hob
        split
        · rename_i hv
          subst hv
          cases h with
          | sl _ _ _ _ A l m' o ho hv hp =>
          rw [hob] at ho; cases ho
          obtain ⟨rfl, h1, h2⟩ := hp rfl
          simp only [AObj.len] at h1
          by_cases hl0 : l = 0
          · subst hl0
            simp only [List.take_zero]
            exact .d (.nil _ _ (by rcases h2 with ⟨_, _, _, rfl⟩ | ⟨B, c, _, _, rfl, _⟩; exact fun _ => rfl; exact fun h => by cases h))
          rcases h2 with ⟨_, h3, _⟩ | ⟨B, c, h3, h4, rfl, rfl⟩
          · omega
          have hobj := hR.obj id _ hob
          cases hobj with
          | arr _ _ _ _ hk hes hbl =>
          rcases hbl with ⟨g0, _⟩ | ⟨B', cap, cur, g1, g2, g3, g4, g5, g6⟩
          · rw [g0] at h3; cases h3
          have hφ := h3
          obtain ⟨e1, e2⟩ := Prod.mk.inj (Option.some.inj (g1.symm.trans h3))
          subst e1 e2
          have hel : ((es.drop off).take l).length = l := by simp; omega
          have key := RD.list (N := Frozen H φ m N) (w := w) false ((es.drop off).take l) ⟨B', off * k, none⟩ (cap - off) k (fun i j => cur.getD ((off + i) * k + j) undef) (by rw [hel]; omega)
            (fun e he => hes e (List.mem_of_mem_drop (List.mem_of_mem_take he))) (fun i j hi hj => by
              rw [hel] at hi
              have hlt : (off + i) * k + j < es.length * k := place_lt hj (by omega)
              have hlt2 : (off + i) * k + j < cur.size := by have := Nat.mul_le_mul_right k g3; omega
              have hpos : off * k + (i * k + j) = (off + i) * k + j := by rw [Nat.add_mul]; omega
              rw [add_plain, hpos]
              refine ⟨.inr ⟨id, B', cap, e, k, v', es, by omega, hob, hφ, rfl, rfl, hlt⟩, ?_⟩
              simp [World.cell?, g2, Array.getD, hlt2]) (fun i hi j hj => by
              rw [hel] at hi
              simp only [List.getElem_take, List.getElem_drop] at hj ⊢
              obtain ⟨u, hu, hd⟩ := g6 (off + i) (by omega) j hj
              have hget : cur.getD ((off + i) * k + j) undef = u := by
                rw [Array.getD_eq_getD_getElem?, hu]; rfl
              simp only [hget]
              exact hd.frozen)
          rw [hel] at key
          exact .d key
        · exact .top _
      · exact .top _
  | agg => exact .top _
  | tup => exact .top _
  | fn f cs =>
    cases cs with
    | nil => exact h.take (.fn f [] fun i hi => by simp at hi)
    | cons _ _ => exact .top _
  | top => exact .top _
  | d => exact h.take (.d _)
  | cap0 => exact h.take .cap0
  | iptr => exact h.take (.iptr _)
theorem frz1_ok {H : AHeap} {φ : Phi} {N : Addr → Prop} {w : World} (hR : Rel H φ N w) (m : Nat) {x : AV} {v : Value} (h : RA H φ N w x v) : RA (H.take m) φ (Frozen H φ m N) w (frz1 H m x) v := by
  cases x with
  | agg cs =>
    cases h with
    | agg _ vs hl hh => exact .agg _ vs (by simpa using hl) fun i h1 h2 => by simpa using frz0_ok hR m (hh i (by simpa using h1) h2)
  | fn f cs =>
    cases h with
    | fn _ _ vs hl hh => exact .fn f _ vs (by simpa using hl) fun i h1 h2 => by simpa using frz0_ok hR m (hh i (by simpa using h1) h2)
  | _ => exact frz0_ok hR m h
theorem frz_ok {H : AHeap} {φ : Phi} {N : Addr → Prop} {w : World} (hR : Rel H φ N w) (m : Nat) {x : AV} {v : Value} (h : RA H φ N w x v) : RA (H.take m) φ (Frozen H φ m N) w (frz H m x) v := by
  cases x with
  | tup cs =>
    cases h with
    | tup _ vs hl hh => exact .tup _ vs (by simpa using hl) fun i h1 h2 => by simpa using frz1_ok hR m (hh i (by simpa using h1) h2)
  | _ => exact frz1_ok hR m h

theorem Rel.take {H : AHeap} {φ : Phi} {N : Addr → Prop} {w : World} (hR : Rel H φ N w) (m : Nat) (hb : ∀ i o, i < m → H[i]? = some o → (∀ e k ver n cs, o = .box e k ver n cs → ∀ c ∈ cs, Bel m c) ∧ ∀ kk es, o = .mp kk es → ∀ e ∈ es, Bel m e.2) :
    Rel (H.take m) φ (Frozen H φ m N) w where
  obj id o h := by
    have hlt : id < m := by have := len_of_get h; simp at this; omega
    rw [get_take hlt] at h
    obtain ⟨hb1, hb2⟩ := hb id o hlt h
    cases hR.obj id o h with
    | arr e k ver es hk hes hh =>
      refine .arr e k ver es hk hes ?_
      rcases hh with hh | ⟨B, cap, cur, g1, g2, g3, g4, g5, g6⟩
      · exact .inl hh
      · refine .inr ⟨B, cap, cur, g1, g2, g3, g4, g5, fun i hi j hj => ?_⟩
        obtain ⟨c, hc, hd⟩ := g6 i hi j hj
        exact ⟨c, hc, hd.frozen⟩
    | box e k ver n cs B cap cur hk hn hp hbk hc hm hs hh =>
      refine .box e k ver n cs B cap cur hk hn hp hbk hc hm hs fun j hj => ?_
      obtain ⟨c, hc, hd⟩ := hh j hj
      exact ⟨c, hc, hd.take (hb1 e k ver n cs rfl _ (List.getElem_mem hj))⟩
    | mp kk es B cap ents clock hp hbk hs hh => exact .mp kk es B cap ents clock hp hbk hs fun j hj hj2 => ⟨(hh j hj hj2).1, (hh j hj hj2).2.take (hb2 kk es rfl _ (List.getElem_mem hj))⟩
    | dead ver hp => exact .dead ver hp
  inj i j B c c' hi hj h1 h2 := hR.inj i j B c c' (by simp at hi; omega) (by simp at hj; omega) h1 h2
  live a ha := by
    rcases ha with ha | ⟨id, B, c, e, k, ver, es, hid, ho, hp, h1, h2, h3⟩
    · exact hR.live a ha
    · cases hR.obj id _ ho with
      | arr _ _ _ _ hk hes hh =>
      rcases hh with ⟨g0, _⟩ | ⟨B', cap, cur, g1, g2, g3, g4, g5, g6⟩
      · rw [g0] at hp; cases hp
      · rw [g1] at hp; cases hp
        have hlt : a.off < cur.size := by have := Nat.mul_le_mul_right k g3; omega
        exact ⟨cur[a.off], by simp [World.cell?, h1, g2, h2, hlt]⟩
  apart a id B c ha hid hp := by
    simp at hid
    rcases ha with ha | ⟨id', B', c', e, k, ver, es, hid', ho, hp', h1, h2, h3⟩
    · exact hR.apart a id B c ha (by omega) hp
    · intro he
      have := hR.inj id id' B c c' (by omega) (len_of_get ho) hp (by rw [← he, h1]; exact hp')
      omega

theorem Since.take {H : AHeap} {φ : Phi} {N : Addr → Prop} {w : World} (h : Since H0 φ0 N0 w0 H φ N w) (m : Nat) (hm : H0.length ≤ m) (hl : m ≤ H.length) : Since H0 φ0 N0 w0 (H.take m) φ (Frozen H φ m N) w where
  len := by simp; omega
  os := h.os
  tape := h.tape
  output := h.output
  size := h.size
  keep := h.keep
  own id B c hid := h.own id B c (by simp at hid; omega)
  mono a ha := .inl (h.mono a ha)
  compat id o ho := by
    obtain ⟨o', h1, h2⟩ := h.compat id o ho
    exact ⟨o', by rw [get_take (by have := len_of_get ho; omega)]; exact h1, h2⟩

theorem Weak.ok {s s' : Nat → AV} {H H' : AHeap} (hW : Weak H0 s H s' H') (hR0 : Rel H0 φ0 N0 w0) : ∀ {φ : Phi} {N : Addr → Prop} {a : Act} {w : World}, Inv H0 φ0 N0 w0 n ds s H φ N a w → ∃ φ' N', Inv H0 φ0 N0 w0 n ds s' H' φ' N' a w := by
  induction hW with
  | refl => exact fun h => ⟨_, _, h⟩
  | trunc s H m hm hl hb =>
    intro φ N a w hI
    refine ⟨φ, Frozen H φ m N, hI.rel.take m fun i o hi ho => ?_, fun t => frz_ok hI.rel m (hI.tmps t), hI.since.take m hm hl, hI.size, hI.defers⟩
    rcases hb i o hi ho with h0 | h0
    · have hob := hR0.obj i o h0
      refine ⟨?_, ?_⟩
      · rintro e k ver n cs rfl c hc
        cases hob with
        | box _ _ _ _ _ B cap cur hk hn hp hbk hc' hm' hs hh =>
        obtain ⟨j, hj, rfl⟩ := List.mem_iff_getElem.1 hc
        obtain ⟨u, _, hu⟩ := hh j hj
        exact hu.bel.mono hm
      · rintro kk es rfl e he
        cases hob with
        | mp _ _ B cap ents clock hp hbk hs hh =>
        obtain ⟨j, hj, rfl⟩ := List.mem_iff_getElem.1 he
        exact (hh j hj (by omega)).2.bel.mono hm
    · refine ⟨?_, ?_⟩
      · rintro e k ver n cs rfl c hc
        simp only [AObj.below, List.all_eq_true] at h0
        exact bel1 (h0 c hc)
      · rintro kk es rfl e he
        simp only [AObj.below, List.all_eq_true] at h0
        exact bel1 (h0 e he)
  | virt s H t e k hk h =>
    intro φ N a w hI
    have hS := Since.virt hI.rel (.arr e k 0 [])
    refine ⟨φ.put H.length none, N, hI.rel.virt e k hk, fun u => ?_, hI.since.trans hS, hI.size, hI.defers⟩
    by_cases hu : u = t
    · subst hu
      simp only [if_pos]
      obtain ⟨A, hA⟩ := isNone_ok (hI.tmps u) h
      rw [hA]
      exact .sl _ _ _ _ _ _ _ (.arr e k 0 []) (by simp) (Nat.le_refl _) fun _ => ⟨rfl, by simp [AObj.len], .inl ⟨Phi.put_same _ _ _, rfl, rfl, rfl⟩⟩
    · simp only [if_neg hu]
      exact (hI.tmps u).since hI.rel hS
  | imp s s' H h => exact fun hI => ⟨_, _, hI.rel, fun u => h _ _ _ _ _ (hI.tmps u), hI.since, hI.size, hI.defers⟩
  | virtV s H t e k ver hk h =>
    intro φ N a w hI
    have hS := Since.virt hI.rel (.arr e k ver [])
    refine ⟨φ.put H.length none, N, hI.rel.virt e k hk ver, fun u => ?_, hI.since.trans hS, hI.size, hI.defers⟩
    by_cases hu : u = t
    · subst hu
      simp only [if_pos]
      obtain ⟨A, hA⟩ := isNone_ok (hI.tmps u) h
      rw [hA]
      exact .sl _ _ _ _ _ _ _ (.arr e k ver []) (by simp) (Nat.le_refl _) fun _ => ⟨rfl, by simp [AObj.len], .inl ⟨Phi.put_same _ _ _, rfl, rfl, rfl⟩⟩
    · simp only [if_neg hu]
      exact (hI.tmps u).since hI.rel hS
  | virtBox s H id e0 k0 ver m cs j x e k hk ho hj hx =>
    intro φ N a w hI
    have hS := Since.virt hI.rel (.arr e k 0 [])
    have hR := hI.rel.virt e k hk
    have ho' : (H ++ [AObj.arr e k 0 []])[id]? = some (.box e0 k0 ver m cs) := by rw [List.getElem?_append_left (len_of_get ho)]; exact ho
    have hob := hR.obj id _ ho'
    cases hob with
    | box _ _ _ _ _ B cap cur g1 g2 g3 g4 g5 g6 g7 g8 =>
    have hS2 : Since (H ++ [AObj.arr e k 0 []]) (φ.put H.length none) N w ((H ++ [AObj.arr e k 0 []]).set id (.box e0 k0 ver m (cs.set j (.sl H.length 0 0 0)))) (φ.put H.length none) N w :=
      Since.set ho' g3 rfl rfl rfl (fun kk es he => by cases he) rfl rfl rfl rfl fun _ _ => rfl
    have hset : (H ++ [AObj.arr e k 0 []]).set id (.box e0 k0 ver m (cs.set j (.sl H.length 0 0 0))) = H.set id (.box e0 k0 ver m (cs.set j (.sl H.length 0 0 0))) ++ [.arr e k 0 []] := List.set_append_left _ _ (len_of_get ho)
    rw [← hset]
    refine ⟨φ.put H.length none, N, hR.set ho' g3 hS2 (fun _ _ => rfl) ?_, fun u => ((hI.tmps u).since hI.rel hS).since hR hS2, (hI.since.trans hS).trans hS2, hI.size, hI.defers⟩
    refine .box e0 k0 ver m _ B cap cur g1 (by simpa using g2) g3 g4 g5 g6 g7 fun i hi => ?_
    simp only [List.length_set] at hi
    obtain ⟨c, hc, hd⟩ := g8 i hi
    refine ⟨c, hc, ?_⟩
    by_cases he : i = j
    · subst he
      simp only [List.getElem_set_self]
      rw [List.getElem?_eq_getElem (by simpa using hi)] at hj
      cases hj
      obtain ⟨A, hA⟩ := isNone_ok hd hx
      rw [hA]
      refine .sl _ _ _ _ _ _ _ (.arr e k 0 []) ?_ (Nat.le_refl _) fun _ => ⟨rfl, by simp [AObj.len], .inl ⟨Phi.put_same _ _ _, rfl, rfl, rfl⟩⟩
      rw [List.getElem?_set_ne (by have := len_of_get ho; omega)]
      simp
    · rw [List.getElem_set_ne (Ne.symm he)]
      exact hd.since hR hS2
  | trans _ _ ih1 ih2 =>
    intro φ N a w hI
    obtain ⟨φ1, N1, h1⟩ := ih1 hI
    exact ih2 h1

/-! ### Code -/
theorem rounds_mono {P : Program} {c : Code} {Q : Exit → Act → World → Prop} : ∀ (m n : Nat), m ≤ n → ∀ a w, Code.rounds P c Q m a w → Code.rounds P c Q n a w
  | 0, _, _, _, _, h => h.elim
  | m + 1, 0, hle, _, _, _ => by omega
  | m + 1, n + 1, hle, a, w, h => wp_mono h fun e a w hq => by
    cases e with
    | normal => exact rounds_mono m n (by omega) a w hq
    | _ => exact hq
theorem wp_loop_ind {P : Program} {c : Code} {Q : Exit → Act → World → Prop} (J : Nat → Act → World → Prop) {n : Nat} {a : Act} {w : World}
    (round : ∀ n a w, J n a w → c.wp P (Exit.then (fun a' w' => ∃ m, m < n ∧ J m a' w') Q) a w) (h0 : J n a w) : (Code.loop c).wp P Q a w := by
  refine wp_loop_rounds (n + 1) ?_
  induction n using Nat.strongRecOn generalizing a w with
  | _ n ih =>
    rw [rounds_succ]
    refine wp_mono (round n a w h0) fun e a' w' hq => ?_
    cases e with
    | normal =>
      obtain ⟨m, hm, hJ⟩ := hq
      exact rounds_mono (m + 1) n (by omega) _ _ (ih m hm hJ)
    | _ => exact hq
theorem awp_ok (hR0 : Rel H0 φ0 N0 w0) : ∀ (c : Code) (Q : Post) {s : Nat → AV} {H : AHeap} {φ : Phi} {N : Addr → Prop} {a : Act} {w : World}, Inv H0 φ0 N0 w0 n ds s H φ N a w → awp P hint n H0 c Q s H → c.wp P (CPost H0 φ0 N0 w0 n ds Q) a w := by
  intro c
  induction c with
  | skip => exact fun Q s H φ N a w hI h => wp_skip ⟨.normal, s, H, φ, N, rfl, h, hI⟩
  | label l => exact fun Q s H φ N a w hI h => wp_label ⟨.normal, s, H, φ, N, rfl, h, hI⟩
  | region id ops draw =>
    intro Q s H φ N a w hI h
    cases draw with
    | false =>
      have h' : awpList P hint n ops Q ops.toList s H := h
      refine wp_region ?_
      have := awpList_ok ops.toList 0 (fun j => by simp) hI h'
      rw [List.range_eq_range']
      simpa using this
    | true =>
      obtain ⟨hm, h'⟩ : P.follows .mixedOrders = true ∧ awpAny P hint n ops Q ops.size (Array.replicate ops.size false) s H := h
      refine wp_region_any hm ?_
      have hI' : Inv H0 φ0 N0 w0 n ds s H φ N a { w with drawn := w.drawn + 1 } :=
        ⟨hI.rel.drawn rfl rfl rfl rfl, fun t => RA.since hI.rel (Since.drawn (w' := { w with drawn := w.drawn + 1 }) rfl rfl rfl rfl) (hI.tmps t), hI.since.trans (Since.drawn rfl rfl rfl rfl), hI.size, hI.defers⟩
      exact awpAny_ok _ _ hI' h'
  | seq x y ihx ihy =>
    intro Q s H φ N a w hI h
    refine wp_seq (wp_mono (ihx _ hI h) ?_)
    rintro e a' w' ⟨ax, s', H', φ', N', rfl, hq, hI'⟩
    cases ax with
    | normal =>
      have hq : if hintAt hint y = true then ∃ s'' H'', Weak H0 s' H' s'' H'' ∧ awp P hint n H0 y Q s'' H'' else awp P hint n H0 y Q s' H' := hq
      split at hq
      · obtain ⟨s'', H'', hW, hq⟩ := hq
        obtain ⟨φ1, N1, hI1⟩ := hW.ok hR0 hI'
        exact ihy Q hI1 hq
      · exact ihy Q hI' hq
    | exit id => exact ⟨.exit id, s', H', φ', N', rfl, hq, hI'⟩
    | ret => exact ⟨.ret, s', H', φ', N', rfl, hq, hI'⟩
    | panic v => exact ⟨.panic v, s', H', φ', N', rfl, hq, hI'⟩
  | cond c x y ihx ihy =>
    intro Q s H φ N a w hI h
    unfold awp at h
    split at h
    · rename_i b hb
      have hv := (show RA H φ N w (.d (.v (.bool b))) (a.eval c) from by rw [← hb]; exact aeval_ok hI.tmps c).closed
      cases b with
      | true => exact wp_cond_true hv (ihx Q hI (by simpa using h))
      | false => exact wp_cond_false hv (ihy Q hI (by simpa using h))
    · exact h.elim
  | block id x ih =>
    intro Q s H φ N a w hI h
    refine wp_block (wp_mono (ih _ hI h) ?_)
    rintro e a' w' ⟨ax, s', H', φ', N', rfl, hq, hI'⟩
    cases ax with
    | normal => exact ⟨.normal, s', H', φ', N', rfl, hq, hI'⟩
    | exit i =>
      simp only [AX.exitOf, Exit.inBlock]
      have hq : if i = id then Q .normal s' H' else Q (.exit i) s' H' := hq
      by_cases hi : i = id
      · rw [if_pos hi]
        rw [if_pos hi] at hq
        exact ⟨.normal, s', H', φ', N', rfl, hq, hI'⟩
      · rw [if_neg hi]
        rw [if_neg hi] at hq
        exact ⟨.exit i, s', H', φ', N', rfl, hq, hI'⟩
    | ret => exact ⟨.ret, s', H', φ', N', rfl, hq, hI'⟩
    | panic v => exact ⟨.panic v, s', H', φ', N', rfl, hq, hI'⟩
  | scope x ih =>
    intro Q s H φ N a w hI h
    refine wp_scope_straight (wp_mono (ih _ hI h) ?_)
    rintro e a' w' ⟨ax, s', H', φ', N', rfl, hq, hI'⟩
    cases ax with
    | normal => exact ⟨.normal, s', H', φ', N', rfl, hq, hI'⟩
    | exit i => exact ⟨.exit i, s', H', φ', N', rfl, hq, hI'⟩
    | ret => exact ⟨.ret, s', H', φ', N', rfl, hq, hI'⟩
    | panic v => exact ⟨.panic v, s', H', φ', N', rfl, hq, hI'⟩
  | loop x ih =>
    intro Q s H φ N a w hI h
    obtain ⟨I, m, ⟨s1, H1, hW, h1⟩, hstep⟩ := h
    obtain ⟨φ1, N1, hI1⟩ := hW.ok hR0 hI
    refine wp_loop_ind (fun m a w => ∃ s H φ N, I m s H ∧ Inv H0 φ0 N0 w0 n ds s H φ N a w) (n := m) ?_ ⟨s1, H1, φ1, N1, h1, hI1⟩
    rintro m a w ⟨s, H, φ, N, hIm, hI⟩
    refine wp_mono (ih _ hI (hstep m s H hIm)) ?_
    rintro e a' w' ⟨ax, s', H', φ', N', rfl, hq, hI'⟩
    cases ax with
    | normal =>
      obtain ⟨s2, H2, m', hW2, hm, hlt⟩ := hq
      obtain ⟨φ2, N2, hI2⟩ := hW2.ok hR0 hI'
      exact ⟨m', hlt, s2, H2, φ2, N2, hm, hI2⟩
    | exit i => exact ⟨.exit i, s', H', φ', N', rfl, hq, hI'⟩
    | ret => exact ⟨.ret, s', H', φ', N', rfl, hq, hI'⟩
    | panic v => exact ⟨.panic v, s', H', φ', N', rfl, hq, hI'⟩
  | exit id => exact fun Q s H φ N a w hI h => wp_exit ⟨.exit id, s, H, φ, N, rfl, h, hI⟩
  | ret => exact fun Q s H φ N a w hI h => wp_ret ⟨.ret, s, H, φ, N, rfl, h, hI⟩
  | _ => intros; rename_i h; exact h.elim

/-! ### A function's contract -/
def ares (rs : List Tmp) (s : Nat → AV) : AV :=
  match rs with
  | [t] => s t
  | l => .tup (l.map s)
/-- What is left to show where a body has ended. -/
def AEnd (rs : List Tmp) (H0 : AHeap) (res : ARes) (H' : AHeap) : Post := fun e s H =>
  match e with
  | .normal => ∃ s', Weak H0 s H s' H' ∧ res = .ok (ares rs s')
  | .ret => ∃ s', Weak H0 s H s' H' ∧ res = .ok (ares rs s')
  | .panic v => ∃ s', Weak H0 s H s' H' ∧ res = .panic v
  | _ => False
def ainit (args : List AV) : Nat → AV := fun t => args.getD t .top

theorem run_results {fn : Func} (rs : List Tmp) (h : fn.results.toList = rs.map .tmp) (hl : rs.length ≤ 4) (tmps : Array Value) (w : World) :
    (results fn tmps).run P w = .ok (match rs with | [t] => tmps.getD t undef | l => .tuple (l.map fun t => tmps.getD t undef).toArray) w := by
  have h' : fn.results = (rs.map .tmp).toArray := by rw [← h]
  match rs, hl, h' with
  | [], _, h' => simp [results, h']
  | [_], _, h' => simp [results, h']
  | [_, _], _, h' => simp [results, h']
  | [_, _, _], _, h' => simp [results, h']
  | [_, _, _, _], _, h' => simp [results, h']
  | _ :: _ :: _ :: _ :: _ :: _, hl, _ => simp at hl

theorem enter_run {f : FuncId} {fn : Func} (hf : P.funcs[f]? = some fn) (hn : (fn.name == "runtime.NumGoroutine") = false) (hb : fn.body.isSome = true) (vals : Array Value) (w : World) : (callFunc f vals).run P w = .ok (.enter f vals) w := by
  have h1 : fn.name ≠ "runtime.NumGoroutine" := by simpa using hn
  have h2 : fn.body ≠ none := by intro h; rw [h] at hb; cases hb
  simp [callFunc, hf, h1, h2]

theorem Does.of_awp {f : FuncId} {fn : Func} {body : Code} (hf : P.funcs[f]? = some fn) (hn : (fn.name == "runtime.NumGoroutine") = false) (hb : fn.body = some body) (rs : List Tmp) (hr : fn.results.toList = rs.map .tmp) (hl : rs.length ≤ 4)
    {args : List AV} {H : AHeap} {res : ARes} {H' : AHeap} (ha : args.length ≤ fn.ntmps) (h : awp P hint fn.ntmps H body (AEnd rs H res H') (ainit args) H) : Does P f args H res H' := by
  intro φ N w vals hR hA
  refine .inl ⟨enter_run hf hn (by rw [hb]; rfl) vals w, calls_of_wp hf hb ?_⟩
  have hI : Inv H φ N w fn.ntmps [] (ainit args) H φ N { tmps := vals ++ Array.replicate (fn.ntmps - vals.size) undef, defers := [] } w := by
    refine ⟨hR, fun t => ?_, Since.refl, by simp; have := hA.1; omega, rfl⟩
    simp only [ainit]
    by_cases ht : t < args.length
    · have ht' : t < vals.size := by rw [← hA.1]; exact ht
      have := hA.2 t ht ht'
      have e1 : args.getD t .top = args[t] := by simp [List.getD, ht]
      have e2 : (vals ++ Array.replicate (fn.ntmps - vals.size) undef).getD t undef = vals[t] := by
        rw [Array.getD_eq_getD_getElem?, Array.getElem?_append_left ht']; simp [ht']
      rw [e1, e2]
      exact this
    · have e1 : args.getD t .top = .top := by simp [List.getD, List.getElem?_eq_none (Nat.le_of_not_lt ht)]
      rw [e1]
      exact .top _
  refine wp_mono (awp_ok hR body _ hI h) ?_
  rintro e a' w' ⟨ax, s', H1, φ1, N1, rfl, hq, hI1⟩
  have fin : ∀ (s'' : Nat → AV), Weak H s' H1 s'' H' → res = .ok (ares rs s'') → a'.defers = [] ∧ ∃ v, (results fn a'.tmps).run P w' = .ok v w' ∧ ∃ φ' N', Rel H' φ' N' w' ∧ Since H φ N w H' φ' N' w' ∧ REnd H' φ' N' w' res (.returned v) := by
    intro s'' hW hres
    obtain ⟨φ2, N2, hI2⟩ := hW.ok hR hI1
    refine ⟨hI2.defers, _, run_results rs hr hl _ _, φ2, N2, hI2.rel, hI2.since, ?_⟩
    subst hres
    have many : ∀ l : List Tmp, RA H' φ2 N2 w' (.tup (l.map s'')) (.tuple (l.map fun t => a'.tmps.getD t undef).toArray) := fun l => .tup _ _ (by simp) fun i h1 h2 => by simpa using hI2.tmps _
    show RA H' φ2 N2 w' (ares rs s'') _
    match rs with
    | [] => exact many []
    | [t] => exact hI2.tmps t
    | t :: u :: l => exact many (t :: u :: l)
  cases ax with
  | normal =>
    obtain ⟨s'', hW, hres⟩ := hq
    exact fin s'' hW hres
  | ret =>
    obtain ⟨s'', hW, hres⟩ := hq
    exact fin s'' hW hres
  | exit i => exact hq.elim
  | panic v =>
    obtain ⟨s'', hW, rfl⟩ := hq
    obtain ⟨φ2, N2, hI2⟩ := hW.ok hR hI1
    exact ⟨hI2.defers, φ2, N2, hI2.rel, hI2.since, rfl⟩
end
end Go.Proofs.YtfmmemboakdeiaaAw

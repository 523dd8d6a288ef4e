/- Code: the evaluator over whole bodies, loops, calls; its soundness; the contract of a function out of its body. What the program says of its types. Printed by a small program of this session. The words by which the evaluator is unfolded. From Does to the walk that a row asks for. What comes in: readings as abstract data. More of what the program says of its types. Printed by a small program of this session. Loops and regions, as they most often stand. -/
import Derived.Test.YtkapgooedfompaaProg
import Derived.KernelRfl
import Derived.ChangeArms
import Derived.Carry
import Derived.WideShapes
import Derived.SizedLaws
import Derived.Test.YtkapgooedfompaaM01
namespace Go.Proofs.YtkapgooedfompaaAw
open Go.RowKit
set_option linter.unusedVariables false
set_option linter.unusedSimpArgs false

inductive AX where
  | normal
  | exit (id : Nat)
  | ret
  | panic (v : Value)
def AX.exitOf : AX → Exit
  | .normal => .normal
  | .exit id => .exit id
  | .ret => .ret
  | .panic v => .panic [{ v := v, recovered := false }]

abbrev Post := AX → (Nat → AV) → AHeap → Prop

def aput (n : Nat) (s : Nat → AV) (d : Option Tmp) (v : AV) : Nat → AV :=
  match d with
  | some d => fun t => if t = d then (if d < n then v else .top) else s t
  | none => s

/-- A call, a panic, or an operation. -/
def astep (P : Program) (hint : Nat → Bool) (s : Nat → AV) (H : AHeap) (o : Oper) (K : AV → AHeap → Prop) (KP : Value → AHeap → Prop) : Prop :=
  match o.op with
  | .panic x => (match closed (aeval s x) with | some (.iface t u) => KP (.iface t u) H | _ => False)
  | .call c => (match c.callee with
    | .value f => (match aeval s f with
      | .fn g caps => ∃ res H', Does P g (c.args.toList.map (aeval s) ++ caps) H res H' ∧ (match res with | .ok r => K r H' | .panic v => KP v H')
      | _ => False)
    | .builtin b => abuiltin P s H b c.args.toList c.argTypes.toList K
    | _ => False)
  | op => aop P s H (match o.dst with | some d => hint d | none => false) op K

/-- Whether a guard's word is the wanted one; what was left out holds no word. -/
def asW (want : Bool) : AV → Option Bool
  | .d (.v (.bool b)) => some (b == want)
  | .tup [] => some false
  | _ => none
def ayield (ops : Array Oper) (s : Nat → AV) (n : Nat) (j : Nat) (want : Bool) : Option Bool :=
  match (ops[j]?).bind (·.dst) with
  | some d => if d < n then asW want (s d) else none
  | none => none

def awpOp (P : Program) (hint : Nat → Bool) (n : Nat) (ops : Array Oper) (Q : Post) (o : Oper) (K : (Nat → AV) → AHeap → Prop) (s : Nat → AV) (H : AHeap) : Prop :=
  match o.guard with
  | none => astep P hint s H o (fun r H' => K (aput n s o.dst r) H') fun v H' => Q (.panic v) s H'
  | some (j, want) => (match ayield ops s n j want with
    | some b => if b = true then astep P hint s H o (fun r H' => K (aput n s o.dst r) H') (fun v H' => Q (.panic v) s H') else K (aput n s o.dst (.tup [])) H
    | none => False)

def awpList (P : Program) (hint : Nat → Bool) (n : Nat) (ops : Array Oper) (Q : Post) : List Oper → (Nat → AV) → AHeap → Prop
  | [], s, H => Q .normal s H
  | o :: rest, s, H => awpOp P hint n ops Q o (awpList P hint n ops Q rest) s H

/-- All orders of a region that draws. -/
def awpAny (P : Program) (hint : Nat → Bool) (n : Nat) (ops : Array Oper) (Q : Post) : Nat → Array Bool → (Nat → AV) → AHeap → Prop
  | 0, listed, s, H => Region.ready .any ops listed = [] ∧ Q .normal s H
  | fuel + 1, listed, s, H => (Region.ready .any ops listed = [] → Q .normal s H) ∧
      ∀ i ∈ Region.ready .any ops listed, match ops[i]? with
        | none => awpAny P hint n ops Q fuel (listed.setIfInBounds i true) s H
        | some o => awpOp P hint n ops Q o (awpAny P hint n ops Q fuel (listed.setIfInBounds i true)) s H

/-! ### What may be forgotten -/
def frz0 (H : AHeap) (m : Nat) : AV → AV
  | .ptr id v i j => if id < m then .ptr id v i j else .top
  | .mp id => if id < m then .mp id else .top
  | .sl id v off len => if id < m then .sl id v off len else match H[id]? with
    | some (.arr _ _ ver es) => if ver = v then .d (.list false ((es.drop off).take len)) else .top
    | _ => .top
  | .agg _ => .top
  | .tup _ => .top
  | .fn f [] => .fn f []
  | .fn _ _ => .top
  | x => x
def frz1 (H : AHeap) (m : Nat) : AV → AV
  | .agg cs => .agg (cs.map (frz0 H m))
  | .fn f cs => .fn f (cs.map (frz0 H m))
  | x => frz0 H m x
def frz (H : AHeap) (m : Nat) : AV → AV
  | .tup cs => .tup (cs.map (frz1 H m))
  | x => frz1 H m x
def below0 (m : Nat) : AV → Bool
  | .ptr id _ _ _ => decide (id < m)
  | .mp id => decide (id < m)
  | .sl id _ _ _ => decide (id < m)
  | .agg _ => false
  | .tup _ => false
  | .fn _ cs => cs.isEmpty
  | _ => true
def below1 (m : Nat) : AV → Bool
  | .agg cs => cs.all (below0 m)
  | .fn _ cs => cs.all (below0 m)
  | x => below0 m x
def AObj.below (m : Nat) : AObj → Bool
  | .arr _ _ _ _ => true
  | .box _ _ _ _ cs => cs.all (below1 m)
  | .mp _ es => es.all fun e => below1 m e.2
  | .dead _ => true
  | .iter m' _ _ => decide (m' < m)

inductive Weak (H0 : AHeap) : (Nat → AV) → AHeap → (Nat → AV) → AHeap → Prop
  | refl (s : Nat → AV) (H : AHeap) : Weak H0 s H s H
  | trunc (s : Nat → AV) (H : AHeap) (m : Nat) (hm : H0.length ≤ m) (hl : m ≤ H.length) (h : ∀ i o, i < m → H[i]? = some o → H0[i]? = some o ∨ o.below m = true) : Weak H0 s H (fun t => frz H m (s t)) (H.take m)
  | virt (s : Nat → AV) (H : AHeap) (t : Nat) (e : TypeId) (k : Nat) (hk : 0 < k) (h : isNone (s t) = true) : Weak H0 s H (fun u => if u = t then .sl H.length 0 0 0 else s u) (H ++ [.arr e k 0 []])
  | virtBox (s : Nat → AV) (H : AHeap) (id : Nat) (e0 : TypeId) (k0 ver m : Nat) (cs : List AV) (j : Nat) (x : AV) (e : TypeId) (k : Nat) (hk : 0 < k) (ho : H[id]? = some (.box e0 k0 ver m cs)) (hj : cs[j]? = some x) (hx : isNone x = true) :
      Weak H0 s H s (H.set id (.box e0 k0 ver m (cs.set j (.sl H.length 0 0 0))) ++ [.arr e k 0 []])
  | virtV (s : Nat → AV) (H : AHeap) (t : Nat) (e : TypeId) (k ver : Nat) (hk : 0 < k) (h : isNone (s t) = true) : Weak H0 s H (fun u => if u = t then .sl H.length ver 0 0 else s u) (H ++ [.arr e k ver []])
  | imp (s s' : Nat → AV) (H : AHeap) (h : ∀ φ N w u v, RA H φ N w (s u) v → RA H φ N w (s' u) v) : Weak H0 s H s' H
  | trans {s1 s2 s3 : Nat → AV} {H1 H2 H3 : AHeap} (h : Weak H0 s1 H1 s2 H2) (g : Weak H0 s2 H2 s3 H3) : Weak H0 s1 H1 s3 H3

/-- Where a walk may forget: ahead of a region that the hint names (1000000 + its number). -/
def firstR : Code → Option Nat
  | .region id _ _ => some id
  | .seq x _ => firstR x
  | _ => none
def hintAt (hint : Nat → Bool) (c : Code) : Bool := match firstR c with | some r => hint (r + 1000000) | none => false
def awp (P : Program) (hint : Nat → Bool) (n : Nat) (H0 : AHeap) : Code → Post → (Nat → AV) → AHeap → Prop
  | .skip, Q, s, H => Q .normal s H
  | .label _, Q, s, H => Q .normal s H
  | .scope x, Q, s, H => awp P hint n H0 x Q s H
  | .region _ ops draw, Q, s, H => if draw then P.follows .mixedOrders = true ∧ awpAny P hint n ops Q ops.size (Array.replicate ops.size false) s H else awpList P hint n ops Q ops.toList s H
  | .seq x y, Q, s, H => awp P hint n H0 x (fun e s' H' => match e with | .normal => (if hintAt hint y = true then ∃ s'' H'', Weak H0 s' H' s'' H'' ∧ awp P hint n H0 y Q s'' H'' else awp P hint n H0 y Q s' H') | e => Q e s' H') s H
  | .cond c x y, Q, s, H => (match aeval s c with | .d (.v (.bool b)) => if b = true then awp P hint n H0 x Q s H else awp P hint n H0 y Q s H | _ => False)
  | .block id x, Q, s, H => awp P hint n H0 x (fun e s' H' => match e with | .exit i => if i = id then Q .normal s' H' else Q (.exit i) s' H' | e => Q e s' H') s H
  | .loop x, Q, s, H => ∃ (I : Nat → (Nat → AV) → AHeap → Prop) (m : Nat), (∃ s' H', Weak H0 s H s' H' ∧ I m s' H') ∧
      ∀ m s H, I m s H → awp P hint n H0 x (fun e s' H' => match e with | .normal => ∃ s'' H'' m', Weak H0 s' H' s'' H'' ∧ I m' s'' H'' ∧ m' < m | e => Q e s' H') s H
  | .exit id, Q, s, H => Q (.exit id) s H
  | .ret, Q, s, H => Q .ret s H
  | _, _, _, _ => False

/-! ### Soundness -/
structure Inv (H0 : AHeap) (φ0 : Phi) (N0 : Addr → Prop) (w0 : World) (n : Nat) (ds : List Deferred) (s : Nat → AV) (H : AHeap) (φ : Phi) (N : Addr → Prop) (a : Act) (w : World) : Prop where
  rel : Rel H φ N w
  tmps : TRel H φ N w s a
  since : Since H0 φ0 N0 w0 H φ N w
  size : a.tmps.size = n
  defers : a.defers = ds

section
variable {P : Program} {H0 : AHeap} {φ0 : Phi} {N0 : Addr → Prop} {w0 : World} {n : Nat} {ds : List Deferred} {hint : Nat → Bool}

def CPost (H0 : AHeap) (φ0 : Phi) (N0 : Addr → Prop) (w0 : World) (n : Nat) (ds : List Deferred) (Q : Post) : Exit → Act → World → Prop := fun e a w =>
  ∃ x s H φ N, e = AX.exitOf x ∧ Q x s H ∧ Inv H0 φ0 N0 w0 n ds s H φ N a w

theorem TRel.put {H : AHeap} {φ : Phi} {N : Addr → Prop} {w : World} {s : Nat → AV} {a : Act} (hT : TRel H φ N w s a) {d : Option Tmp} {r : AV} {x : Value} (hr : RA H φ N w r x) (hs : a.tmps.size = n) :
    TRel H φ N w (aput n s d r) (a.put d x) := by
  intro t
  cases d with
  | none => exact hT t
  | some d =>
    simp only [aput, Act.put]
    by_cases h1 : t = d
    · subst h1
      rw [if_pos rfl]
      by_cases h2 : t < n
      · rw [if_pos h2]
        simpa [Array.getD, Array.size_setIfInBounds, hs, h2] using hr
      · rw [if_neg h2]; exact .top _
    · rw [if_neg h1]
      have := hT t
      by_cases h2 : t < a.tmps.size
      · simpa [Array.getD, Array.size_setIfInBounds, h2, Array.getElem_setIfInBounds_ne _ (Ne.symm h1)] using this
      · simpa [Array.getD, Array.size_setIfInBounds, h2] using this
theorem put_size (a : Act) (d : Option Tmp) (v : Value) : (a.put d v).tmps.size = a.tmps.size := by cases d <;> simp [Act.put]
theorem put_defers (a : Act) (d : Option Tmp) (v : Value) : (a.put d v).defers = a.defers := by cases d <;> rfl

theorem Inv.put {s : Nat → AV} {H H' : AHeap} {φ φ' : Phi} {N N' : Addr → Prop} {a : Act} {w w' : World} (h : Inv H0 φ0 N0 w0 n ds s H φ N a w) (hR : Rel H' φ' N' w') (hS : Since H φ N w H' φ' N' w') {r : AV} {x : Value} (hr : RA H' φ' N' w' r x) (d : Option Tmp) :
    Inv H0 φ0 N0 w0 n ds (aput n s d r) H' φ' N' (a.put d x) w' where
  rel := hR
  tmps := TRel.put (fun t => (h.tmps t).since h.rel hS) hr h.size
  since := h.since.trans hS
  size := (put_size _ _ _).trans h.size
  defers := (put_defers _ _ _).trans h.defers

theorem astep_ok {s : Nat → AV} {H : AHeap} {φ : Phi} {N : Addr → Prop} {a : Act} {w : World} {o : Oper} (hI : Inv H0 φ0 N0 w0 n ds s H φ N a w) {K : AV → AHeap → Prop} {KP : Value → AHeap → Prop} (h : astep P hint s H o K KP)
    {next : Act → World → Prop} {Q : Exit → Act → World → Prop}
    (hn : ∀ r H' φ' N' x w', K r H' → Rel H' φ' N' w' → Since H φ N w H' φ' N' w' → RA H' φ' N' w' r x → next (a.put o.dst x) w')
    (hp : ∀ v H' φ' N' w', KP v H' → Rel H' φ' N' w' → Since H φ N w H' φ' N' w' → Q (.panic [{ v := v, recovered := false }]) a w') : o.wp P a w next Q := by
  have plain : ∀ r H', K r H' ∧ OpOk P o a w H φ N r H' → o.wp P a w next Q := by
    rintro r H' ⟨hK, x, w', φ', N', hrun, hR, hS, hr⟩
    unfold Oper.wp
    rcases hrun with hrun | ⟨hrun, rfl⟩
    · rw [hrun]; exact hn r H' φ' N' x w' hK hR hS hr
    · rw [hrun]; exact hn r H' φ' N' undef w' hK hR hS hr
  unfold astep at h
  split at h
  · rename_i x ho
    split at h
    · rename_i t u hx
      have hv := closed_ok (aeval_ok hI.tmps x) hx
      unfold Oper.wp
      have hrun : (execOp a.eval o).run P w = .halt (.panic (.iface t u)) w := by simp [execOp, ho, hv, Instr.panic, goPanic]
      rw [hrun]
      exact hp _ H φ N w h hI.rel Since.refl
    · exact h.elim
  · rename_i c ho
    split at h
    · rename_i f hc
      split at h
      · rename_i g caps hf
        obtain ⟨res, H', hD, h⟩ := h
        have hfv := aeval_ok hI.tmps f
        rw [hf] at hfv
        generalize hfe : a.eval f = fv at hfv
        cases hfv with
        | fn _ _ vs hl hh =>
        have hargs : RAs H φ N w (c.args.toList.map (aeval s) ++ caps) (c.args.map a.eval ++ vs) := by
          refine ⟨by simp [hl], fun i h1 h2 => ?_⟩
          by_cases hi : i < c.args.size
          · rw [List.getElem_append_left (by simpa using hi), Array.getElem_append_left (by simpa using hi)]
            simp only [List.getElem_map, Array.getElem_map, Array.getElem_toList]
            exact aeval_ok hI.tmps _
          · rw [List.getElem_append_right (by simpa using hi), Array.getElem_append_right (by simpa using hi)]
            simp only [List.length_map, Array.length_toList, Array.size_map]
            exact hh _ (by simp at h1; omega) (by simp at h2; omega)
        have hcall := hD φ N w _ hI.rel hargs
        have hex : ∀ r, (callFunc g (c.args.map a.eval ++ vs)).run P w = r → (execOp a.eval o).run P w = r := by
          intro r hr
          simp [execOp, ho, resolve, hc, hfe, Deferred.ofValue, invoke, hr]
        unfold Oper.wp
        rcases hcall with ⟨hrun, hC⟩ | ⟨v, w', hrun, φ', N', hR, hS, hE⟩
        · rw [hex _ hrun]
          refine Calls.mono hC ?_
          rintro e w' ⟨φ', N', hR, hS, hE⟩
          cases res with
          | ok r =>
            cases e with
            | returned v => exact hn r H' φ' N' v w' h hR hS hE
            | panicked ch => exact hE.elim
            | outgrown => exact hE.elim
          | panic v =>
            cases e with
            | returned _ => exact hE.elim
            | panicked ch =>
              cases ch with
              | nil => exact hE.elim
              | cons p ps =>
                cases ps with
                | nil =>
                  have : p = { v := v, recovered := false } := hE
                  subst this
                  exact hp v H' φ' N' w' h hR hS
                | cons _ _ => exact hE.elim
            | outgrown => exact hE.elim
        · rw [hex _ hrun]
          cases res with
          | ok r => exact hn r H' φ' N' v w' h hR hS hE
          | panic _ => exact hE.elim
      · exact h.elim
    · rename_i b hc
      obtain ⟨r, H', hK, hok⟩ := abuiltin_ok hI.rel hI.tmps ho hc h
      exact plain r H' ⟨hK, hok⟩
    · exact h.elim
  · obtain ⟨r, H', hK, hok⟩ := aop_ok hI.rel hI.tmps h
    exact plain r H' ⟨hK, hok⟩

theorem awpOp_ok {ops : Array Oper} {Q : Post} {s : Nat → AV} {H : AHeap} {φ : Phi} {N : Addr → Prop} {a : Act} {w : World} {o : Oper} (hI : Inv H0 φ0 N0 w0 n ds s H φ N a w) {K : (Nat → AV) → AHeap → Prop} (h : awpOp P hint n ops Q o K s H)
    {next : Act → World → Prop} (hn : ∀ s' H' φ' N' a' w', K s' H' → Inv H0 φ0 N0 w0 n ds s' H' φ' N' a' w' → next a' w') :
    if Region.wanted o (yielded ops a.tmps) then o.wp P a w next (CPost H0 φ0 N0 w0 n ds Q) ∨ (o.asks P a w ∧ LetsOut (CPost H0 φ0 N0 w0 n ds Q)) else next (a.put o.dst undef) w := by
  have step : astep P hint s H o (fun r H' => K (aput n s o.dst r) H') (fun v H' => Q (.panic v) s H') → o.wp P a w next (CPost H0 φ0 N0 w0 n ds Q) := fun h =>
    astep_ok hI h (fun r H' φ' N' x w' hK hR hS hr => hn _ _ φ' N' _ _ hK (hI.put hR hS hr _))
      (fun v H' φ' N' w' hq hR hS => ⟨.panic v, s, H', φ', N', rfl, hq, hR, fun t => (hI.tmps t).since hI.rel hS, hI.since.trans hS, hI.size, hI.defers⟩)
  unfold awpOp at h
  split at h
  · rename_i hg
    have : Region.wanted o (yielded ops a.tmps) = true := by simp [Region.wanted, hg]
    rw [if_pos this]
    exact .inl (step h)
  · rename_i j want hg
    split at h
    · rename_i b hb
      have hw : Region.wanted o (yielded ops a.tmps) = b := by
        unfold ayield at hb
        split at hb
        · rename_i d hd
          split at hb
          · rename_i hdn
            have := hI.tmps d
            have hlt : d < a.tmps.size := by rw [hI.size]; exact hdn
            simp only [Array.getD, hlt, dif_pos] at this
            have this : RA H φ N w (s d) a.tmps[d] := this
            unfold asW at hb
            split at hb
            · rename_i b' hs
              cases hb
              rw [hs] at this
              have hv := this.closed
              have hv' : a.tmps[d] = .bool b' := hv
              simp [Region.wanted, hg, yielded, hd, hlt, hv']
            · rename_i hs
              cases hb
              rw [hs] at this
              generalize hx : a.tmps[d] = x at this
              cases this with
              | tup cs vs hl h =>
                simp [Region.wanted, hg, yielded, hd, hlt, hx]
            · cases hb
          · cases hb
        · cases hb
      cases b with
      | true =>
        rw [if_pos rfl] at h
        rw [if_pos hw]
        exact .inl (step h)
      | false =>
        rw [if_neg (by simp)] at h
        rw [if_neg (by simp [hw])]
        exact hn _ _ φ N _ _ h (hI.put hI.rel Since.refl (.tup [] #[] rfl fun i h => by simp at h) _)
    · exact h.elim

theorem awpList_ok {ops : Array Oper} {Q : Post} : ∀ (l : List Oper) (k : Nat), (∀ j, l[j]? = ops[k + j]?) → ∀ {s : Nat → AV} {H : AHeap} {φ : Phi} {N : Addr → Prop} {a : Act} {w : World}, Inv H0 φ0 N0 w0 n ds s H φ N a w →
    awpList P hint n ops Q l s H → wpOps P ops (CPost H0 φ0 N0 w0 n ds Q) (List.range' k l.length) a w
  | [], k, hl, s, H, φ, N, a, w, hI, h => ⟨.normal, s, H, φ, N, rfl, h, hI⟩
  | o :: rest, k, hl, s, H, φ, N, a, w, hI, h => by
    have h0 : ops[k]? = some o := by simpa using (hl 0).symm
    simp only [List.length_cons, List.range'_succ]
    rw [wpOps_cons]
    unfold wpOp
    simp only [h0]
    exact awpOp_ok hI h fun s' H' φ' N' a' w' hK hI' => awpList_ok rest (k + 1) (fun j => by have := hl (j + 1); rw [List.getElem?_cons_succ] at this; rw [this]; congr 1; omega) hI' hK

theorem awpAny_ok {ops : Array Oper} {Q : Post} : ∀ (fuel : Nat) (listed : Array Bool) {s : Nat → AV} {H : AHeap} {φ : Phi} {N : Addr → Prop} {a : Act} {w : World}, Inv H0 φ0 N0 w0 n ds s H φ N a w →
    awpAny P hint n ops Q fuel listed s H → wpAny P .any ops (CPost H0 φ0 N0 w0 n ds Q) fuel listed a w
  | 0, listed, s, H, φ, N, a, w, hI, h => ⟨h.1, .normal, s, H, φ, N, rfl, h.2, hI⟩
  | fuel + 1, listed, s, H, φ, N, a, w, hI, h => by
    refine ⟨fun hr => ⟨.normal, s, H, φ, N, rfl, h.1 hr, hI⟩, fun i hi => ?_⟩
    have hi' := h.2 i hi
    unfold wpOp
    split at hi'
    · rename_i hop
      simp only [hop]
      exact awpAny_ok fuel _ hI hi'
    · rename_i o hop
      simp only [hop]
      exact awpOp_ok hI hi' fun s' H' φ' N' a' w' hK hI' => awpAny_ok fuel _ hI' hK

/-! ### Forgetting -/
inductive Bel (m : Nat) : AV → Prop
  | top : Bel m .top
  | d (x : D) : Bel m (.d x)
  | cap0 : Bel m .cap0
  | ptr (id ver i j : Nat) (h : id < m) : Bel m (.ptr id ver i j)
  | iptr (cs : List D) : Bel m (.iptr cs)
  | sl (id ver off len : Nat) (h : id < m) : Bel m (.sl id ver off len)
  | agg (cs : List AV) (h : ∀ i (hi : i < cs.length), Bel m (cs[i])) : Bel m (.agg cs)
  | tup (cs : List AV) (h : ∀ i (hi : i < cs.length), Bel m (cs[i])) : Bel m (.tup cs)
  | fn (f : FuncId) (cs : List AV) (h : ∀ i (hi : i < cs.length), Bel m (cs[i])) : Bel m (.fn f cs)
  | mp (id : Nat) (h : id < m) : Bel m (.mp id)
theorem Bel.mono {m m' : Nat} {x : AV} (h : Bel m x) (hm : m ≤ m') : Bel m' x := by
  induction h with
  | top => exact .top
  | d => exact .d _
  | cap0 => exact .cap0
  | ptr _ _ _ _ h => exact .ptr _ _ _ _ (by omega)
  | iptr => exact .iptr _
  | sl _ _ _ _ h => exact .sl _ _ _ _ (by omega)
  | agg cs _ ih => exact .agg cs ih
  | tup cs _ ih => exact .tup cs ih
  | fn f cs _ ih => exact .fn f cs ih
  | mp _ h => exact .mp _ (by omega)
theorem RA.bel {H : AHeap} {φ : Phi} {N : Addr → Prop} {w : World} {x : AV} {v : Value} (h : RA H φ N w x v) : Bel H.length x := by
  induction h with
  | top => exact .top
  | d => exact .d _
  | cap0 => exact .cap0
  | ptr id ver i j A o ho => exact .ptr _ _ _ _ (len_of_get ho)
  | iptr => exact .iptr _
  | sl id ver off len A l m o ho => exact .sl _ _ _ _ (len_of_get ho)
  | agg cs vs hl _ ih => exact .agg cs fun i hi => ih i hi (by omega)
  | tup cs vs hl _ ih => exact .tup cs fun i hi => ih i hi (by omega)
  | fn f cs vs hl _ ih => exact .fn f cs fun i hi => ih i hi (by omega)
  | mp id B c kk es ho => exact .mp _ (len_of_get ho)
theorem bel0 {m : Nat} {x : AV} (h : below0 m x = true) : Bel m x := by
  cases x with
  | top => exact .top
  | d => exact .d _
  | cap0 => exact .cap0
  | ptr id _ _ _ => exact .ptr _ _ _ _ (by simpa [below0] using h)
  | iptr => exact .iptr _
  | sl id _ _ _ => exact .sl _ _ _ _ (by simpa [below0] using h)
  | agg => cases h
  | tup => cases h
  | fn f cs =>
    have : cs = [] := by simpa [below0] using h
    subst this
    exact .fn f [] fun i hi => by simp at hi
  | mp id => exact .mp _ (by simpa [below0] using h)
theorem bel1 {m : Nat} {x : AV} (h : below1 m x = true) : Bel m x := by
  cases x with
  | agg cs =>
    simp only [below1, List.all_eq_true] at h
    exact .agg cs fun i hi => bel0 (h _ (List.getElem_mem hi))
  | fn f cs =>
    simp only [below1, List.all_eq_true] at h
    exact .fn f cs fun i hi => bel0 (h _ (List.getElem_mem hi))
  | _ => exact bel0 h

def Frozen (H : AHeap) (φ : Phi) (m : Nat) (N : Addr → Prop) : Addr → Prop := fun a =>
  N a ∨ ∃ id B c e k ver es, m ≤ id ∧ H[id]? = some (.arr e k ver es) ∧ φ id = some (B, c) ∧ a.block = B ∧ a.spot = none ∧ a.off < es.length * k

theorem get_take {H : AHeap} {m id : Nat} (h : id < m) : (H.take m)[id]? = H[id]? := by rw [List.getElem?_take, if_pos h]
theorem RD.frozen {H : AHeap} {φ : Phi} {m : Nat} {N : Addr → Prop} {w : World} {x : D} {v : Value} (h : RD N w x v) : RD (Frozen H φ m N) w x v := h.mono (fun _ h => .inl h) fun _ _ _ h => h
theorem RA.take {H : AHeap} {φ : Phi} {N : Addr → Prop} {w : World} {x : AV} {v : Value} (h : RA H φ N w x v) {m : Nat} (hb : Bel m x) : RA (H.take m) φ (Frozen H φ m N) w x v := by
  induction h with
  | top => exact .top _
  | d hd => exact .d hd.frozen
  | cap0 => exact .cap0 _
  | ptr id ver i j A o ho hv hp => cases hb with | ptr _ _ _ _ h => exact .ptr _ _ _ _ _ o (by rw [get_take h]; exact ho) hv hp
  | iptr cs ad c hc hd => exact .iptr cs ad c (fun t ht => ⟨.inl (hc t ht).1, (hc t ht).2⟩) fun t ht => (hd t ht).frozen
  | sl id ver off len A l m' o ho hv hp => cases hb with | sl _ _ _ _ h => exact .sl _ _ _ _ _ _ _ o (by rw [get_take h]; exact ho) hv hp
  | agg cs vs hl _ ih => cases hb with | agg _ hb => exact .agg cs vs hl fun i h1 h2 => ih i h1 h2 (hb i h1)
  | tup cs vs hl _ ih => cases hb with | tup _ hb => exact .tup cs vs hl fun i h1 h2 => ih i h1 h2 (hb i h1)
  | fn f cs vs hl _ ih => cases hb with | fn _ _ hb => exact .fn f cs vs hl fun i h1 h2 => ih i h1 h2 (hb i h1)
  | mp id B c kk es ho hp => cases hb with | mp _ h => exact .mp id B c kk es (by rw [get_take h]; exact ho) hp

theorem frz0_ok {H : AHeap} {φ : Phi} {N : Addr → Prop} {w : World} (hR : Rel H φ N w) (m : Nat) {x : AV} {v : Value} (h : RA H φ N w x v) : RA (H.take m) φ (Frozen H φ m N) w (frz0 H m x) v := by
  cases x with
  | ptr id ver i j =>
    simp only [frz0]
    split
    · rename_i hlt; exact h.take (.ptr _ _ _ _ hlt)
    · exact .top _
  | mp id =>
    simp only [frz0]
    split
    · rename_i hlt; exact h.take (.mp _ hlt)
    · exact .top _
  | sl id ver off len =>
    simp only [frz0]
    split
    · rename_i hlt; exact h.take (.sl _ _ _ _ hlt)
    · rename_i hge
      split
      · rename_i e k v' es hob
        split
        · rename_i hv
          subst hv
          cases h with
          | sl _ _ _ _ A l m' o ho hv hp =>
          rw [hob] at ho; cases ho
          obtain ⟨rfl, h1, h2⟩ := hp rfl
          simp only [AObj.len] at h1
          by_cases hl0 : l = 0
          · subst hl0
            simp only [List.take_zero]
            exact .d (.nil _ _ (by rcases h2 with ⟨_, _, _, rfl⟩ | ⟨B, c, _, _, rfl, _⟩; exact fun _ => rfl; exact fun h => by cases h))
          rcases h2 with ⟨_, h3, _⟩ | ⟨B, c, h3, h4, rfl, rfl⟩
          · omega
          have hobj := hR.obj id _ hob
          cases hobj with
          | arr _ _ _ _ hk hes hbl =>
          rcases hbl with ⟨g0, _⟩ | ⟨B', cap, cur, g1, g2, g3, g4, g5, g6⟩
          · rw [g0] at h3; cases h3
          have hφ := h3
          obtain ⟨e1, e2⟩ := Prod.mk.inj (Option.some.inj (g1.symm.trans h3))
          subst e1 e2
          have hel : ((es.drop off).take l).length = l := by simp; omega
          have key := RD.list (N := Frozen H φ m N) (w := w) false ((es.drop off).take l) ⟨B', off * k, none⟩ (cap - off) k (fun i j => cur.getD ((off + i) * k + j) undef) (by rw [hel]; omega)
            (fun e he => hes e (List.mem_of_mem_drop (List.mem_of_mem_take he))) (fun i j hi hj => by
              rw [hel] at hi
              have hlt : (off + i) * k + j < es.length * k := place_lt hj (by omega)
              have hlt2 : (off + i) * k + j < cur.size := by have := Nat.mul_le_mul_right k g3; omega
              have hpos : off * k + (i * k + j) = (off + i) * k + j := by rw [Nat.add_mul]; omega
              rw [add_plain, hpos]
              refine ⟨.inr ⟨id, B', cap, e, k, v', es, by omega, hob, hφ, rfl, rfl, hlt⟩, ?_⟩
              simp [World.cell?, g2, Array.getD, hlt2]) (fun i hi j hj => by
              rw [hel] at hi
              simp only [List.getElem_take, List.getElem_drop] at hj ⊢
              obtain ⟨u, hu, hd⟩ := g6 (off + i) (by omega) j hj
              have hget : cur.getD ((off + i) * k + j) undef = u := by
                rw [Array.getD_eq_getD_getElem?, hu]; rfl
              simp only [hget]
              exact hd.frozen)
          rw [hel] at key
          exact .d key
        · exact .top _
      · exact .top _
  | agg => exact .top _
  | tup => exact .top _
  | fn f cs =>
    cases cs with
    | nil => exact h.take (.fn f [] fun i hi => by simp at hi)
    | cons _ _ => exact .top _
  | top => exact .top _
  | d => exact h.take (.d _)
  | cap0 => exact h.take .cap0
  | iptr => exact h.take (.iptr _)
theorem frz1_ok {H : AHeap} {φ : Phi} {N : Addr → Prop} {w : World} (hR : Rel H φ N w) (m : Nat) {x : AV} {v : Value} (h : RA H φ N w x v) : RA (H.take m) φ (Frozen H φ m N) w (frz1 H m x) v := by
  cases x with
  | agg cs =>
    cases h with
    | agg _ vs hl hh => exact .agg _ vs (by simpa using hl) fun i h1 h2 => by simpa using frz0_ok hR m (hh i (by simpa using h1) h2)
  | fn f cs =>
    cases h with
    | fn _ _ vs hl hh => exact .fn f _ vs (by simpa using hl) fun i h1 h2 => by simpa using frz0_ok hR m (hh i (by simpa using h1) h2)
  | _ => exact frz0_ok hR m h
theorem frz_ok {H : AHeap} {φ : Phi} {N : Addr → Prop} {w : World} (hR : Rel H φ N w) (m : Nat) {x : AV} {v : Value} (h : RA H φ N w x v) : RA (H.take m) φ (Frozen H φ m N) w (frz H m x) v := by
  cases x with
  | tup cs =>
    cases h with
    | tup _ vs hl hh => exact .tup _ vs (by simpa using hl) fun i h1 h2 => by simpa using frz1_ok hR m (hh i (by simpa using h1) h2)
  | _ => exact frz1_ok hR m h

theorem Rel.take {H : AHeap} {φ : Phi} {N : Addr → Prop} {w : World} (hR : Rel H φ N w) (m : Nat) (hb : ∀ i o, i < m → H[i]? = some o → (∀ e k ver n cs, o = .box e k ver n cs → ∀ c ∈ cs, Bel m c) ∧ (∀ kk es, o = .mp kk es → ∀ e ∈ es, Bel m e.2) ∧ ∀ m' since seen, o = .iter m' since seen → m' < m) :
    Rel (H.take m) φ (Frozen H φ m N) w where
  obj id o h := by
    have hlt : id < m := by have := len_of_get h; simp at this; omega
    rw [get_take hlt] at h
    obtain ⟨hb1, hb2, hb3⟩ := hb id o hlt h
    cases hR.obj id o h with
    | arr e k ver es hk hes hh =>
      refine .arr e k ver es hk hes ?_
      rcases hh with hh | ⟨B, cap, cur, g1, g2, g3, g4, g5, g6⟩
      · exact .inl hh
      · refine .inr ⟨B, cap, cur, g1, g2, g3, g4, g5, fun i hi j hj => ?_⟩
        obtain ⟨c, hc, hd⟩ := g6 i hi j hj
        exact ⟨c, hc, hd.frozen⟩
    | box e k ver n cs B cap cur hk hn hp hbk hc hm hs hh =>
      refine .box e k ver n cs B cap cur hk hn hp hbk hc hm hs fun j hj => ?_
      obtain ⟨c, hc, hd⟩ := hh j hj
      exact ⟨c, hc, hd.take (hb1 e k ver n cs rfl _ (List.getElem_mem hj))⟩
    | mp kk es B cap ents clock hp hbk hs hck hbn hh => exact .mp kk es B cap ents clock hp hbk hs hck hbn fun j hj hj2 => ⟨(hh j hj hj2).1, (hh j hj hj2).2.take (hb2 kk es rfl _ (List.getElem_mem hj))⟩
    | dead ver hp => exact .dead ver hp
    | iter m' since seen B cap bm cm kk es hp hbk hm hpm => exact .iter m' since seen B cap bm cm kk es hp hbk (by rw [get_take (hb3 m' since seen rfl)]; exact hm) hpm
  inj i j B c c' hi hj h1 h2 := hR.inj i j B c c' (by simp at hi; omega) (by simp at hj; omega) h1 h2
  live a ha := by
    rcases ha with ha | ⟨id, B, c, e, k, ver, es, hid, ho, hp, h1, h2, h3⟩
    · exact hR.live a ha
    · cases hR.obj id _ ho with
      | arr _ _ _ _ hk hes hh =>
      rcases hh with ⟨g0, _⟩ | ⟨B', cap, cur, g1, g2, g3, g4, g5, g6⟩
      · rw [g0] at hp; cases hp
      · rw [g1] at hp; cases hp
        have hlt : a.off < cur.size := by have := Nat.mul_le_mul_right k g3; omega
        exact ⟨cur[a.off], by simp [World.cell?, h1, g2, h2, hlt]⟩
  apart a id B c ha hid hp := by
    simp at hid
    rcases ha with ha | ⟨id', B', c', e, k, ver, es, hid', ho, hp', h1, h2, h3⟩
    · exact hR.apart a id B c ha (by omega) hp
    · intro he
      have := hR.inj id id' B c c' (by omega) (len_of_get ho) hp (by rw [← he, h1]; exact hp')
      omega

theorem Since.take {H : AHeap} {φ : Phi} {N : Addr → Prop} {w : World} (h : Since H0 φ0 N0 w0 H φ N w) (m : Nat) (hm : H0.length ≤ m) (hl : m ≤ H.length) : Since H0 φ0 N0 w0 (H.take m) φ (Frozen H φ m N) w where
  len := by simp; omega
  os := h.os
  tape := h.tape
  output := h.output
  size := h.size
  keep := h.keep
  own id B c hid := h.own id B c (by simp at hid; omega)
  mono a ha := .inl (h.mono a ha)
  compat id o ho := by
    obtain ⟨o', h1, h2⟩ := h.compat id o ho
    exact ⟨o', by rw [get_take (by have := len_of_get ho; omega)]; exact h1, h2⟩

theorem Weak.ok {s s' : Nat → AV} {H H' : AHeap} (hW : Weak H0 s H s' H') (hR0 : Rel H0 φ0 N0 w0) : ∀ {φ : Phi} {N : Addr → Prop} {a : Act} {w : World}, Inv H0 φ0 N0 w0 n ds s H φ N a w → ∃ φ' N', Inv H0 φ0 N0 w0 n ds s' H' φ' N' a w := by
  induction hW with
  | refl => exact fun h => ⟨_, _, h⟩
  | trunc s H m hm hl hb =>
    intro φ N a w hI
    refine ⟨φ, Frozen H φ m N, hI.rel.take m fun i o hi ho => ?_, fun t => frz_ok hI.rel m (hI.tmps t), hI.since.take m hm hl, hI.size, hI.defers⟩
    rcases hb i o hi ho with h0 | h0
    · have hob := hR0.obj i o h0
      refine ⟨?_, ?_, ?_⟩
      · rintro e k ver n cs rfl c hc
        cases hob with
        | box _ _ _ _ _ B cap cur hk hn hp hbk hc' hm' hs hh =>
        obtain ⟨j, hj, rfl⟩ := List.mem_iff_getElem.1 hc
        obtain ⟨u, _, hu⟩ := hh j hj
        exact hu.bel.mono hm
      · rintro kk es rfl e he
        cases hob with
        | mp _ _ B cap ents clock hp hbk hs hck hbn hh =>
        obtain ⟨j, hj, rfl⟩ := List.mem_iff_getElem.1 he
        exact (hh j hj (by omega)).2.bel.mono hm
      · rintro m' since seen rfl
        cases hob with
        | iter _ _ _ B cap bm cm kk es hp hbk hmm hpm => exact Nat.lt_of_lt_of_le (len_of_get hmm) hm
    · refine ⟨?_, ?_, ?_⟩
      · rintro e k ver n cs rfl c hc
        simp only [AObj.below, List.all_eq_true] at h0
        exact bel1 (h0 c hc)
      · rintro kk es rfl e he
        simp only [AObj.below, List.all_eq_true] at h0
        exact bel1 (h0 e he)
      · rintro m' since seen rfl
        simpa [AObj.below] using h0
  | virt s H t e k hk h =>
    intro φ N a w hI
    have hS := Since.virt hI.rel (.arr e k 0 [])
    refine ⟨φ.put H.length none, N, hI.rel.virt e k hk, fun u => ?_, hI.since.trans hS, hI.size, hI.defers⟩
    by_cases hu : u = t
    · subst hu
      simp only [if_pos]
      obtain ⟨A, hA⟩ := isNone_ok (hI.tmps u) h
      rw [hA]
      exact .sl _ _ _ _ _ _ _ (.arr e k 0 []) (by simp) (Nat.le_refl _) fun _ => ⟨rfl, by simp [AObj.len], .inl ⟨Phi.put_same _ _ _, rfl, rfl, rfl⟩⟩
    · simp only [if_neg hu]
      exact (hI.tmps u).since hI.rel hS
  | imp s s' H h => exact fun hI => ⟨_, _, hI.rel, fun u => h _ _ _ _ _ (hI.tmps u), hI.since, hI.size, hI.defers⟩
  | virtV s H t e k ver hk h =>
    intro φ N a w hI
    have hS := Since.virt hI.rel (.arr e k ver [])
    refine ⟨φ.put H.length none, N, hI.rel.virt e k hk ver, fun u => ?_, hI.since.trans hS, hI.size, hI.defers⟩
    by_cases hu : u = t
    · subst hu
      simp only [if_pos]
      obtain ⟨A, hA⟩ := isNone_ok (hI.tmps u) h
      rw [hA]
      exact .sl _ _ _ _ _ _ _ (.arr e k ver []) (by simp) (Nat.le_refl _) fun _ => ⟨rfl, by simp [AObj.len], .inl ⟨Phi.put_same _ _ _, rfl, rfl, rfl⟩⟩
    · simp only [if_neg hu]
      exact (hI.tmps u).since hI.rel hS
  | virtBox s H id e0 k0 ver m cs j x e k hk ho hj hx =>
    intro φ N a w hI
    have hS := Since.virt hI.rel (.arr e k 0 [])
    have hR := hI.rel.virt e k hk
    have ho' : (H ++ [AObj.arr e k 0 []])[id]? = some (.box e0 k0 ver m cs) := by rw [List.getElem?_append_left (len_of_get ho)]; exact ho
    have hob := hR.obj id _ ho'
    cases hob with
    | box _ _ _ _ _ B cap cur g1 g2 g3 g4 g5 g6 g7 g8 =>
    have hS2 : Since (H ++ [AObj.arr e k 0 []]) (φ.put H.length none) N w ((H ++ [AObj.arr e k 0 []]).set id (.box e0 k0 ver m (cs.set j (.sl H.length 0 0 0)))) (φ.put H.length none) N w :=
      Since.set ho' g3 rfl rfl rfl (fun kk es he => by cases he) rfl rfl rfl rfl fun _ _ => rfl
    have hset : (H ++ [AObj.arr e k 0 []]).set id (.box e0 k0 ver m (cs.set j (.sl H.length 0 0 0))) = H.set id (.box e0 k0 ver m (cs.set j (.sl H.length 0 0 0))) ++ [.arr e k 0 []] := List.set_append_left _ _ (len_of_get ho)
    rw [← hset]
    refine ⟨φ.put H.length none, N, hR.set ho' g3 hS2 (fun _ _ => rfl) ?_, fun u => ((hI.tmps u).since hI.rel hS).since hR hS2, (hI.since.trans hS).trans hS2, hI.size, hI.defers⟩
    refine .box e0 k0 ver m _ B cap cur g1 (by simpa using g2) g3 g4 g5 g6 g7 fun i hi => ?_
    simp only [List.length_set] at hi
    obtain ⟨c, hc, hd⟩ := g8 i hi
    refine ⟨c, hc, ?_⟩
    by_cases he : i = j
    · subst he
      simp only [List.getElem_set_self]
      rw [List.getElem?_eq_getElem (by simpa using hi)] at hj
      cases hj
      obtain ⟨A, hA⟩ := isNone_ok hd hx
      rw [hA]
      refine .sl _ _ _ _ _ _ _ (.arr e k 0 []) ?_ (Nat.le_refl _) fun _ => ⟨rfl, by simp [AObj.len], .inl ⟨Phi.put_same _ _ _, rfl, rfl, rfl⟩⟩
      rw [List.getElem?_set_ne (by have := len_of_get ho; omega)]
      simp
    · rw [List.getElem_set_ne (Ne.symm he)]
      exact hd.since hR hS2
  | trans _ _ ih1 ih2 =>
    intro φ N a w hI
    obtain ⟨φ1, N1, h1⟩ := ih1 hI
    exact ih2 h1

/-! ### Code -/
theorem rounds_mono {P : Program} {c : Code} {Q : Exit → Act → World → Prop} : ∀ (m n : Nat), m ≤ n → ∀ a w, Code.rounds P c Q m a w → Code.rounds P c Q n a w
  | 0, _, _, _, _, h => h.elim
  | m + 1, 0, hle, _, _, _ => by omega
  | m + 1, n + 1, hle, a, w, h => wp_mono h fun e a w hq => by
    cases e with
    | normal => exact rounds_mono m n (by omega) a w hq
    | _ => exact hq
theorem wp_loop_ind {P : Program} {c : Code} {Q : Exit → Act → World → Prop} (J : Nat → Act → World → Prop) {n : Nat} {a : Act} {w : World}
    (round : ∀ n a w, J n a w → c.wp P (Exit.then (fun a' w' => ∃ m, m < n ∧ J m a' w') Q) a w) (h0 : J n a w) : (Code.loop c).wp P Q a w := by
  refine wp_loop_rounds (n + 1) ?_
  induction n using Nat.strongRecOn generalizing a w with
  | _ n ih =>
    rw [rounds_succ]
    refine wp_mono (round n a w h0) fun e a' w' hq => ?_
    cases e with
    | normal =>
      obtain ⟨m, hm, hJ⟩ := hq
      exact rounds_mono (m + 1) n (by omega) _ _ (ih m hm hJ)
    | _ => exact hq
theorem awp_ok (hR0 : Rel H0 φ0 N0 w0) : ∀ (c : Code) (Q : Post) {s : Nat → AV} {H : AHeap} {φ : Phi} {N : Addr → Prop} {a : Act} {w : World}, Inv H0 φ0 N0 w0 n ds s H φ N a w → awp P hint n H0 c Q s H → c.wp P (CPost H0 φ0 N0 w0 n ds Q) a w := by
  intro c
  induction c with
  | skip => exact fun Q s H φ N a w hI h => wp_skip ⟨.normal, s, H, φ, N, rfl, h, hI⟩
  | label l => exact fun Q s H φ N a w hI h => wp_label ⟨.normal, s, H, φ, N, rfl, h, hI⟩
  | region id ops draw =>
    intro Q s H φ N a w hI h
    cases draw with
    | false =>
      have h' : awpList P hint n ops Q ops.toList s H := h
      refine wp_region ?_
      have := awpList_ok ops.toList 0 (fun j => by simp) hI h'
      rw [List.range_eq_range']
      simpa using this
    | true =>
      obtain ⟨hm, h'⟩ : P.follows .mixedOrders = true ∧ awpAny P hint n ops Q ops.size (Array.replicate ops.size false) s H := h
      refine wp_region_any hm ?_
      have hI' : Inv H0 φ0 N0 w0 n ds s H φ N a { w with drawn := w.drawn + 1 } :=
        ⟨hI.rel.drawn rfl rfl rfl rfl, fun t => RA.since hI.rel (Since.drawn (w' := { w with drawn := w.drawn + 1 }) rfl rfl rfl rfl) (hI.tmps t), hI.since.trans (Since.drawn rfl rfl rfl rfl), hI.size, hI.defers⟩
      exact awpAny_ok _ _ hI' h'
  | seq x y ihx ihy =>
    intro Q s H φ N a w hI h
    refine wp_seq (wp_mono (ihx _ hI h) ?_)
    rintro e a' w' ⟨ax, s', H', φ', N', rfl, hq, hI'⟩
    cases ax with
    | normal =>
      have hq : if hintAt hint y = true then ∃ s'' H'', Weak H0 s' H' s'' H'' ∧ awp P hint n H0 y Q s'' H'' else awp P hint n H0 y Q s' H' := hq
      split at hq
      · obtain ⟨s'', H'', hW, hq⟩ := hq
        obtain ⟨φ1, N1, hI1⟩ := hW.ok hR0 hI'
        exact ihy Q hI1 hq
      · exact ihy Q hI' hq
    | exit id => exact ⟨.exit id, s', H', φ', N', rfl, hq, hI'⟩
    | ret => exact ⟨.ret, s', H', φ', N', rfl, hq, hI'⟩
    | panic v => exact ⟨.panic v, s', H', φ', N', rfl, hq, hI'⟩
  | cond c x y ihx ihy =>
    intro Q s H φ N a w hI h
    unfold awp at h
    split at h
    · rename_i b hb
      have hv := (show RA H φ N w (.d (.v (.bool b))) (a.eval c) from by rw [← hb]; exact aeval_ok hI.tmps c).closed
      cases b with
      | true => exact wp_cond_true hv (ihx Q hI (by simpa using h))
      | false => exact wp_cond_false hv (ihy Q hI (by simpa using h))
    · exact h.elim
  | block id x ih =>
    intro Q s H φ N a w hI h
    refine wp_block (wp_mono (ih _ hI h) ?_)
    rintro e a' w' ⟨ax, s', H', φ', N', rfl, hq, hI'⟩
    cases ax with
    | normal => exact ⟨.normal, s', H', φ', N', rfl, hq, hI'⟩
    | exit i =>
      simp only [AX.exitOf, Exit.inBlock]
      have hq : if i = id then Q .normal s' H' else Q (.exit i) s' H' := hq
      by_cases hi : i = id
      · rw [if_pos hi]
        rw [if_pos hi] at hq
        exact ⟨.normal, s', H', φ', N', rfl, hq, hI'⟩
      · rw [if_neg hi]
        rw [if_neg hi] at hq
        exact ⟨.exit i, s', H', φ', N', rfl, hq, hI'⟩
    | ret => exact ⟨.ret, s', H', φ', N', rfl, hq, hI'⟩
    | panic v => exact ⟨.panic v, s', H', φ', N', rfl, hq, hI'⟩
  | scope x ih =>
    intro Q s H φ N a w hI h
    refine wp_scope_straight (wp_mono (ih _ hI h) ?_)
    rintro e a' w' ⟨ax, s', H', φ', N', rfl, hq, hI'⟩
    cases ax with
    | normal => exact ⟨.normal, s', H', φ', N', rfl, hq, hI'⟩
    | exit i => exact ⟨.exit i, s', H', φ', N', rfl, hq, hI'⟩
    | ret => exact ⟨.ret, s', H', φ', N', rfl, hq, hI'⟩
    | panic v => exact ⟨.panic v, s', H', φ', N', rfl, hq, hI'⟩
  | loop x ih =>
    intro Q s H φ N a w hI h
    obtain ⟨I, m, ⟨s1, H1, hW, h1⟩, hstep⟩ := h
    obtain ⟨φ1, N1, hI1⟩ := hW.ok hR0 hI
    refine wp_loop_ind (fun m a w => ∃ s H φ N, I m s H ∧ Inv H0 φ0 N0 w0 n ds s H φ N a w) (n := m) ?_ ⟨s1, H1, φ1, N1, h1, hI1⟩
    rintro m a w ⟨s, H, φ, N, hIm, hI⟩
    refine wp_mono (ih _ hI (hstep m s H hIm)) ?_
    rintro e a' w' ⟨ax, s', H', φ', N', rfl, hq, hI'⟩
    cases ax with
    | normal =>
      obtain ⟨s2, H2, m', hW2, hm, hlt⟩ := hq
      obtain ⟨φ2, N2, hI2⟩ := hW2.ok hR0 hI'
      exact ⟨m', hlt, s2, H2, φ2, N2, hm, hI2⟩
    | exit i => exact ⟨.exit i, s', H', φ', N', rfl, hq, hI'⟩
    | ret => exact ⟨.ret, s', H', φ', N', rfl, hq, hI'⟩
    | panic v => exact ⟨.panic v, s', H', φ', N', rfl, hq, hI'⟩
  | exit id => exact fun Q s H φ N a w hI h => wp_exit ⟨.exit id, s, H, φ, N, rfl, h, hI⟩
  | ret => exact fun Q s H φ N a w hI h => wp_ret ⟨.ret, s, H, φ, N, rfl, h, hI⟩
  | _ => intros; rename_i h; exact h.elim

/-! ### A function's contract -/
def ares (rs : List Tmp) (s : Nat → AV) : AV :=
  match rs with
  | [t] => s t
  | l => .tup (l.map s)
/-- What is left to show where a body has ended. -/
def AEnd (rs : List Tmp) (H0 : AHeap) (res : ARes) (H' : AHeap) : Post := fun e s H =>
  match e with
  | .normal => ∃ s', Weak H0 s H s' H' ∧ res = .ok (ares rs s')
  | .ret => ∃ s', Weak H0 s H s' H' ∧ res = .ok (ares rs s')
  | .panic v => ∃ s', Weak H0 s H s' H' ∧ res = .panic v
  | _ => False
def ainit (args : List AV) : Nat → AV := fun t => args.getD t .top

theorem run_results {fn : Func} (rs : List Tmp) (h : fn.results.toList = rs.map .tmp) (hl : rs.length ≤ 4) (tmps : Array Value) (w : World) :
    (results fn tmps).run P w = .ok (match rs with | [t] => tmps.getD t undef | l => .tuple (l.map fun t => tmps.getD t undef).toArray) w := by
  have h' : fn.results = (rs.map .tmp).toArray := by rw [← h]
  match rs, hl, h' with
  | [], _, h' => simp [results, h']
  | [_], _, h' => simp [results, h']
  | [_, _], _, h' => simp [results, h']
  | [_, _, _], _, h' => simp [results, h']
  | [_, _, _, _], _, h' => simp [results, h']
  | _ :: _ :: _ :: _ :: _ :: _, hl, _ => simp at hl

theorem enter_run {f : FuncId} {fn : Func} (hf : P.funcs[f]? = some fn) (hn : (fn.name == "runtime.NumGoroutine") = false) (hb : fn.body.isSome = true) (vals : Array Value) (w : World) : (callFunc f vals).run P w = .ok (.enter f vals) w := by
  have h1 : fn.name ≠ "runtime.NumGoroutine" := by simpa using hn
  have h2 : fn.body ≠ none := by intro h; rw [h] at hb; cases hb
  simp [callFunc, hf, h1, h2]

theorem Does.of_awp {f : FuncId} {fn : Func} {body : Code} (hf : P.funcs[f]? = some fn) (hn : (fn.name == "runtime.NumGoroutine") = false) (hb : fn.body = some body) (rs : List Tmp) (hr : fn.results.toList = rs.map .tmp) (hl : rs.length ≤ 4)
    {args : List AV} {H : AHeap} {res : ARes} {H' : AHeap} (ha : args.length ≤ fn.ntmps) (h : awp P hint fn.ntmps H body (AEnd rs H res H') (ainit args) H) : Does P f args H res H' := by
  intro φ N w vals hR hA
  refine .inl ⟨enter_run hf hn (by rw [hb]; rfl) vals w, calls_of_wp hf hb ?_⟩
  have hI : Inv H φ N w fn.ntmps [] (ainit args) H φ N { tmps := vals ++ Array.replicate (fn.ntmps - vals.size) undef, defers := [] } w := by
    refine ⟨hR, fun t => ?_, Since.refl, by simp; have := hA.1; omega, rfl⟩
    simp only [ainit]
    by_cases ht : t < args.length
    · have ht' : t < vals.size := by rw [← hA.1]; exact ht
      have := hA.2 t ht ht'
      have e1 : args.getD t .top = args[t] := by simp [List.getD, ht]
      have e2 : (vals ++ Array.replicate (fn.ntmps - vals.size) undef).getD t undef = vals[t] := by
        rw [Array.getD_eq_getD_getElem?, Array.getElem?_append_left ht']; simp [ht']
      rw [e1, e2]
      exact this
    · have e1 : args.getD t .top = .top := by simp [List.getD, List.getElem?_eq_none (Nat.le_of_not_lt ht)]
      rw [e1]
      exact .top _
  refine wp_mono (awp_ok hR body _ hI h) ?_
  rintro e a' w' ⟨ax, s', H1, φ1, N1, rfl, hq, hI1⟩
  have fin : ∀ (s'' : Nat → AV), Weak H s' H1 s'' H' → res = .ok (ares rs s'') → a'.defers = [] ∧ ∃ v, (results fn a'.tmps).run P w' = .ok v w' ∧ ∃ φ' N', Rel H' φ' N' w' ∧ Since H φ N w H' φ' N' w' ∧ REnd H' φ' N' w' res (.returned v) := by
    intro s'' hW hres
    obtain ⟨φ2, N2, hI2⟩ := hW.ok hR hI1
    refine ⟨hI2.defers, _, run_results rs hr hl _ _, φ2, N2, hI2.rel, hI2.since, ?_⟩
    subst hres
    have many : ∀ l : List Tmp, RA H' φ2 N2 w' (.tup (l.map s'')) (.tuple (l.map fun t => a'.tmps.getD t undef).toArray) := fun l => .tup _ _ (by simp) fun i h1 h2 => by simpa using hI2.tmps _
    show RA H' φ2 N2 w' (ares rs s'') _
    match rs with
    | [] => exact many []
    | [t] => exact hI2.tmps t
    | t :: u :: l => exact many (t :: u :: l)
  cases ax with
  | normal =>
    obtain ⟨s'', hW, hres⟩ := hq
    exact fin s'' hW hres
  | ret =>
    obtain ⟨s'', hW, hres⟩ := hq
    exact fin s'' hW hres
  | exit i => exact hq.elim
  | panic v =>
    obtain ⟨s'', hW, rfl⟩ := hq
    obtain ⟨φ2, N2, hI2⟩ := hW.ok hR hI1
    exact ⟨hI2.defers, φ2, N2, hI2.rel, hI2.since, rfl⟩
end
end Go.Proofs.YtkapgooedfompaaAw
namespace Go.Proofs.Ytkapgooedfompaa.K
open Go.Proofs.YtkapgooedfompaaAw
theorem TI1 : TI Try.prog 1 = some ((.nilFunc : Value), 1, 8) := by kernel_rfl
theorem agB1 : agB Try.prog 1 = some false := by kernel_rfl
theorem SE1 : SE Try.prog 1 = none := by kernel_rfl
theorem AE1 : AE Try.prog 1 = none := by kernel_rfl
theorem MT1 : MT Try.prog 1 = none := by kernel_rfl
theorem SP1 : SP Try.prog 1 = none := by kernel_rfl
theorem TI2 : TI Try.prog 2 = some ((.int .i64 0 : Value), 1, 8) := by kernel_rfl
theorem agB2 : agB Try.prog 2 = some false := by kernel_rfl
theorem SE2 : SE Try.prog 2 = none := by kernel_rfl
theorem AE2 : AE Try.prog 2 = none := by kernel_rfl
theorem MT2 : MT Try.prog 2 = none := by kernel_rfl
theorem UK2 : UK Try.prog 2 = some .i64 := by kernel_rfl
theorem NI2 : isIface Try.prog 2 = false := by kernel_rfl
theorem SP2 : SP Try.prog 2 = none := by kernel_rfl
theorem TI3 : TI Try.prog 3 = some ((.int .i64 0 : Value), 1, 8) := by kernel_rfl
theorem agB3 : agB Try.prog 3 = some false := by kernel_rfl
theorem SE3 : SE Try.prog 3 = none := by kernel_rfl
theorem AE3 : AE Try.prog 3 = none := by kernel_rfl
theorem MT3 : MT Try.prog 3 = none := by kernel_rfl
theorem UK3 : UK Try.prog 3 = some .i64 := by kernel_rfl
theorem NI3 : isIface Try.prog 3 = false := by kernel_rfl
theorem SP3 : SP Try.prog 3 = none := by kernel_rfl
theorem TI4 : TI Try.prog 4 = some ((.bool false : Value), 1, 1) := by kernel_rfl
theorem agB4 : agB Try.prog 4 = some false := by kernel_rfl
theorem SE4 : SE Try.prog 4 = none := by kernel_rfl
theorem AE4 : AE Try.prog 4 = none := by kernel_rfl
theorem MT4 : MT Try.prog 4 = none := by kernel_rfl
theorem UB4 : Try.prog.underlying 4 = some .bool := by kernel_rfl
theorem NI4 : isIface Try.prog 4 = false := by kernel_rfl
theorem SP4 : SP Try.prog 4 = none := by kernel_rfl
theorem TI5 : TI Try.prog 5 = some ((.int .u8 0 : Value), 1, 1) := by kernel_rfl
theorem agB5 : agB Try.prog 5 = some false := by kernel_rfl
theorem SE5 : SE Try.prog 5 = none := by kernel_rfl
theorem AE5 : AE Try.prog 5 = none := by kernel_rfl
theorem MT5 : MT Try.prog 5 = none := by kernel_rfl
theorem UK5 : UK Try.prog 5 = some .u8 := by kernel_rfl
theorem NI5 : isIface Try.prog 5 = false := by kernel_rfl
theorem SP5 : SP Try.prog 5 = none := by kernel_rfl
theorem TI9 : TI Try.prog 9 = some ((.string ⟨#[]⟩ : Value), 1, 16) := by kernel_rfl
theorem agB9 : agB Try.prog 9 = some false := by kernel_rfl
theorem SE9 : SE Try.prog 9 = none := by kernel_rfl
theorem AE9 : AE Try.prog 9 = none := by kernel_rfl
theorem MT9 : MT Try.prog 9 = none := by kernel_rfl
theorem US9 : Try.prog.underlying 9 = some .string := by kernel_rfl
theorem NI9 : isIface Try.prog 9 = false := by kernel_rfl
theorem SP9 : SP Try.prog 9 = none := by kernel_rfl
theorem TI12 : TI Try.prog 12 = some ((.int .u64 0 : Value), 1, 8) := by kernel_rfl
theorem agB12 : agB Try.prog 12 = some false := by kernel_rfl
theorem SE12 : SE Try.prog 12 = none := by kernel_rfl
theorem AE12 : AE Try.prog 12 = none := by kernel_rfl
theorem MT12 : MT Try.prog 12 = none := by kernel_rfl
theorem UK12 : UK Try.prog 12 = some .u64 := by kernel_rfl
theorem NI12 : isIface Try.prog 12 = false := by kernel_rfl
theorem SP12 : SP Try.prog 12 = none := by kernel_rfl
theorem TI21 : TI Try.prog 21 = some ((.int .i32 0 : Value), 1, 4) := by kernel_rfl
theorem agB21 : agB Try.prog 21 = some false := by kernel_rfl
theorem SE21 : SE Try.prog 21 = none := by kernel_rfl
theorem AE21 : AE Try.prog 21 = none := by kernel_rfl
theorem MT21 : MT Try.prog 21 = none := by kernel_rfl
theorem UK21 : UK Try.prog 21 = some .i32 := by kernel_rfl
theorem NI21 : isIface Try.prog 21 = false := by kernel_rfl
theorem SP21 : SP Try.prog 21 = none := by kernel_rfl
theorem TI22 : TI Try.prog 22 = some ((.slice none 0 0 : Value), 1, 24) := by kernel_rfl
theorem agB22 : agB Try.prog 22 = some false := by kernel_rfl
theorem SE22 : SE Try.prog 22 = some 24 := by kernel_rfl
theorem AE22 : AE Try.prog 22 = none := by kernel_rfl
theorem MT22 : MT Try.prog 22 = none := by kernel_rfl
theorem NI22 : isIface Try.prog 22 = false := by kernel_rfl
theorem SP22 : SP Try.prog 22 = none := by kernel_rfl
theorem TI23 : TI Try.prog 23 = some ((.agg #[.int .i64 0, .int .i64 0, .string ⟨#[]⟩] : Value), 3, 32) := by kernel_rfl
theorem agB23 : agB Try.prog 23 = some true := by kernel_rfl
theorem SE23 : SE Try.prog 23 = none := by kernel_rfl
theorem AE23 : AE Try.prog 23 = none := by kernel_rfl
theorem MT23 : MT Try.prog 23 = none := by kernel_rfl
theorem NI23 : isIface Try.prog 23 = false := by kernel_rfl
theorem FO23_0 : FO Try.prog 23 0 = some (0, 3) := by kernel_rfl
theorem FO23_1 : FO Try.prog 23 1 = some (1, 2) := by kernel_rfl
theorem FO23_2 : FO Try.prog 23 2 = some (2, 9) := by kernel_rfl
theorem SP23 : SP Try.prog 23 = some [(0, 1), (1, 1), (2, 1)] := by kernel_rfl
theorem TI24 : TI Try.prog 24 = some ((.agg #[.int .i64 0, .int .i64 0, .string ⟨#[]⟩] : Value), 3, 32) := by kernel_rfl
theorem agB24 : agB Try.prog 24 = some true := by kernel_rfl
theorem SE24 : SE Try.prog 24 = none := by kernel_rfl
theorem AE24 : AE Try.prog 24 = none := by kernel_rfl
theorem MT24 : MT Try.prog 24 = none := by kernel_rfl
theorem NI24 : isIface Try.prog 24 = false := by kernel_rfl
theorem FO24_0 : FO Try.prog 24 0 = some (0, 3) := by kernel_rfl
theorem FO24_1 : FO Try.prog 24 1 = some (1, 2) := by kernel_rfl
theorem FO24_2 : FO Try.prog 24 2 = some (2, 9) := by kernel_rfl
theorem SP24 : SP Try.prog 24 = some [(0, 1), (1, 1), (2, 1)] := by kernel_rfl
theorem TI25 : TI Try.prog 25 = some ((.nilFunc : Value), 1, 8) := by kernel_rfl
theorem agB25 : agB Try.prog 25 = some false := by kernel_rfl
theorem SE25 : SE Try.prog 25 = none := by kernel_rfl
theorem AE25 : AE Try.prog 25 = none := by kernel_rfl
theorem MT25 : MT Try.prog 25 = none := by kernel_rfl
theorem SP25 : SP Try.prog 25 = none := by kernel_rfl
theorem TI26 : TI Try.prog 26 = some ((.nilFunc : Value), 1, 8) := by kernel_rfl
theorem agB26 : agB Try.prog 26 = some false := by kernel_rfl
theorem SE26 : SE Try.prog 26 = none := by kernel_rfl
theorem AE26 : AE Try.prog 26 = none := by kernel_rfl
theorem MT26 : MT Try.prog 26 = none := by kernel_rfl
theorem SP26 : SP Try.prog 26 = none := by kernel_rfl
theorem TI27 : TI Try.prog 27 = some ((.slice none 0 0 : Value), 1, 24) := by kernel_rfl
theorem agB27 : agB Try.prog 27 = some false := by kernel_rfl
theorem SE27 : SE Try.prog 27 = some 37 := by kernel_rfl
theorem AE27 : AE Try.prog 27 = none := by kernel_rfl
theorem MT27 : MT Try.prog 27 = none := by kernel_rfl
theorem NI27 : isIface Try.prog 27 = false := by kernel_rfl
theorem SP27 : SP Try.prog 27 = none := by kernel_rfl
theorem TI28 : TI Try.prog 28 = some ((.int .i64 0 : Value), 1, 8) := by kernel_rfl
theorem agB28 : agB Try.prog 28 = some false := by kernel_rfl
theorem SE28 : SE Try.prog 28 = none := by kernel_rfl
theorem AE28 : AE Try.prog 28 = none := by kernel_rfl
theorem MT28 : MT Try.prog 28 = none := by kernel_rfl
theorem UK28 : UK Try.prog 28 = some .i64 := by kernel_rfl
theorem NI28 : isIface Try.prog 28 = false := by kernel_rfl
theorem SP28 : SP Try.prog 28 = none := by kernel_rfl
theorem TI30 : TI Try.prog 30 = some ((.nilFunc : Value), 1, 8) := by kernel_rfl
theorem agB30 : agB Try.prog 30 = some false := by kernel_rfl
theorem SE30 : SE Try.prog 30 = none := by kernel_rfl
theorem AE30 : AE Try.prog 30 = none := by kernel_rfl
theorem MT30 : MT Try.prog 30 = none := by kernel_rfl
theorem SP30 : SP Try.prog 30 = none := by kernel_rfl
theorem TI32 : TI Try.prog 32 = some ((.nilFunc : Value), 1, 8) := by kernel_rfl
theorem agB32 : agB Try.prog 32 = some false := by kernel_rfl
theorem SE32 : SE Try.prog 32 = none := by kernel_rfl
theorem AE32 : AE Try.prog 32 = none := by kernel_rfl
theorem MT32 : MT Try.prog 32 = none := by kernel_rfl
theorem SP32 : SP Try.prog 32 = none := by kernel_rfl
theorem TI33 : TI Try.prog 33 = some ((.nilFunc : Value), 1, 8) := by kernel_rfl
theorem agB33 : agB Try.prog 33 = some false := by kernel_rfl
theorem SE33 : SE Try.prog 33 = none := by kernel_rfl
theorem AE33 : AE Try.prog 33 = none := by kernel_rfl
theorem MT33 : MT Try.prog 33 = none := by kernel_rfl
theorem SP33 : SP Try.prog 33 = none := by kernel_rfl
theorem TI34 : TI Try.prog 34 = some ((.nilFunc : Value), 1, 8) := by kernel_rfl
theorem agB34 : agB Try.prog 34 = some false := by kernel_rfl
theorem SE34 : SE Try.prog 34 = none := by kernel_rfl
theorem AE34 : AE Try.prog 34 = none := by kernel_rfl
theorem MT34 : MT Try.prog 34 = none := by kernel_rfl
theorem SP34 : SP Try.prog 34 = none := by kernel_rfl
theorem TI35 : TI Try.prog 35 = some ((.nilFunc : Value), 1, 8) := by kernel_rfl
theorem agB35 : agB Try.prog 35 = some false := by kernel_rfl
theorem SE35 : SE Try.prog 35 = none := by kernel_rfl
theorem AE35 : AE Try.prog 35 = none := by kernel_rfl
theorem MT35 : MT Try.prog 35 = none := by kernel_rfl
theorem SP35 : SP Try.prog 35 = none := by kernel_rfl
theorem TI36 : TI Try.prog 36 = some ((.nilFunc : Value), 1, 8) := by kernel_rfl
theorem agB36 : agB Try.prog 36 = some false := by kernel_rfl
theorem SE36 : SE Try.prog 36 = none := by kernel_rfl
theorem AE36 : AE Try.prog 36 = none := by kernel_rfl
theorem MT36 : MT Try.prog 36 = none := by kernel_rfl
theorem SP36 : SP Try.prog 36 = none := by kernel_rfl
theorem TI37 : TI Try.prog 37 = some ((.int .u64 0 : Value), 1, 8) := by kernel_rfl
theorem agB37 : agB Try.prog 37 = some false := by kernel_rfl
theorem SE37 : SE Try.prog 37 = none := by kernel_rfl
theorem AE37 : AE Try.prog 37 = none := by kernel_rfl
theorem MT37 : MT Try.prog 37 = none := by kernel_rfl
theorem UK37 : UK Try.prog 37 = some .u64 := by kernel_rfl
theorem NI37 : isIface Try.prog 37 = false := by kernel_rfl
theorem SP37 : SP Try.prog 37 = none := by kernel_rfl
theorem TI38 : TI Try.prog 38 = some ((.nilFunc : Value), 1, 8) := by kernel_rfl
theorem agB38 : agB Try.prog 38 = some false := by kernel_rfl
theorem SE38 : SE Try.prog 38 = none := by kernel_rfl
theorem AE38 : AE Try.prog 38 = none := by kernel_rfl
theorem MT38 : MT Try.prog 38 = none := by kernel_rfl
theorem SP38 : SP Try.prog 38 = none := by kernel_rfl
theorem TI39 : TI Try.prog 39 = some ((.nilFunc : Value), 1, 8) := by kernel_rfl
theorem agB39 : agB Try.prog 39 = some false := by kernel_rfl
theorem SE39 : SE Try.prog 39 = none := by kernel_rfl
theorem AE39 : AE Try.prog 39 = none := by kernel_rfl
theorem MT39 : MT Try.prog 39 = none := by kernel_rfl
theorem SP39 : SP Try.prog 39 = none := by kernel_rfl
theorem TI40 : TI Try.prog 40 = some ((.nilFunc : Value), 1, 8) := by kernel_rfl
theorem agB40 : agB Try.prog 40 = some false := by kernel_rfl
theorem SE40 : SE Try.prog 40 = none := by kernel_rfl
theorem AE40 : AE Try.prog 40 = none := by kernel_rfl
theorem MT40 : MT Try.prog 40 = none := by kernel_rfl
theorem SP40 : SP Try.prog 40 = none := by kernel_rfl
theorem TI41 : TI Try.prog 41 = some ((.slice none 0 0 : Value), 1, 24) := by kernel_rfl
theorem agB41 : agB Try.prog 41 = some false := by kernel_rfl
theorem SE41 : SE Try.prog 41 = some 5 := by kernel_rfl
theorem AE41 : AE Try.prog 41 = none := by kernel_rfl
theorem MT41 : MT Try.prog 41 = none := by kernel_rfl
theorem NI41 : isIface Try.prog 41 = false := by kernel_rfl
theorem SP41 : SP Try.prog 41 = none := by kernel_rfl
theorem TI43 : TI Try.prog 43 = some ((.nilFunc : Value), 1, 8) := by kernel_rfl
theorem agB43 : agB Try.prog 43 = some false := by kernel_rfl
theorem SE43 : SE Try.prog 43 = none := by kernel_rfl
theorem AE43 : AE Try.prog 43 = none := by kernel_rfl
theorem MT43 : MT Try.prog 43 = none := by kernel_rfl
theorem SP43 : SP Try.prog 43 = none := by kernel_rfl
theorem TI44 : TI Try.prog 44 = some ((.nilFunc : Value), 1, 8) := by kernel_rfl
theorem agB44 : agB Try.prog 44 = some false := by kernel_rfl
theorem SE44 : SE Try.prog 44 = none := by kernel_rfl
theorem AE44 : AE Try.prog 44 = none := by kernel_rfl
theorem MT44 : MT Try.prog 44 = none := by kernel_rfl
theorem SP44 : SP Try.prog 44 = none := by kernel_rfl
theorem TI46 : TI Try.prog 46 = some ((.nilFunc : Value), 1, 8) := by kernel_rfl
theorem agB46 : agB Try.prog 46 = some false := by kernel_rfl
theorem SE46 : SE Try.prog 46 = none := by kernel_rfl
theorem AE46 : AE Try.prog 46 = none := by kernel_rfl
theorem MT46 : MT Try.prog 46 = none := by kernel_rfl
theorem SP46 : SP Try.prog 46 = none := by kernel_rfl
theorem TI47 : TI Try.prog 47 = some ((.nilFunc : Value), 1, 8) := by kernel_rfl
theorem agB47 : agB Try.prog 47 = some false := by kernel_rfl
theorem SE47 : SE Try.prog 47 = none := by kernel_rfl
theorem AE47 : AE Try.prog 47 = none := by kernel_rfl
theorem MT47 : MT Try.prog 47 = none := by kernel_rfl
theorem SP47 : SP Try.prog 47 = none := by kernel_rfl
theorem TI48 : TI Try.prog 48 = some ((.nilFunc : Value), 1, 8) := by kernel_rfl
theorem agB48 : agB Try.prog 48 = some false := by kernel_rfl
theorem SE48 : SE Try.prog 48 = none := by kernel_rfl
theorem AE48 : AE Try.prog 48 = none := by kernel_rfl
theorem MT48 : MT Try.prog 48 = none := by kernel_rfl
theorem SP48 : SP Try.prog 48 = none := by kernel_rfl
theorem TI49 : TI Try.prog 49 = some ((.nilFunc : Value), 1, 8) := by kernel_rfl
theorem agB49 : agB Try.prog 49 = some false := by kernel_rfl
theorem SE49 : SE Try.prog 49 = none := by kernel_rfl
theorem AE49 : AE Try.prog 49 = none := by kernel_rfl
theorem MT49 : MT Try.prog 49 = none := by kernel_rfl
theorem SP49 : SP Try.prog 49 = none := by kernel_rfl
theorem TI50 : TI Try.prog 50 = some ((.nilFunc : Value), 1, 8) := by kernel_rfl
theorem agB50 : agB Try.prog 50 = some false := by kernel_rfl
theorem SE50 : SE Try.prog 50 = none := by kernel_rfl
theorem AE50 : AE Try.prog 50 = none := by kernel_rfl
theorem MT50 : MT Try.prog 50 = none := by kernel_rfl
theorem SP50 : SP Try.prog 50 = none := by kernel_rfl
theorem TI51 : TI Try.prog 51 = some ((.nilFunc : Value), 1, 8) := by kernel_rfl
theorem agB51 : agB Try.prog 51 = some false := by kernel_rfl
theorem SE51 : SE Try.prog 51 = none := by kernel_rfl
theorem AE51 : AE Try.prog 51 = none := by kernel_rfl
theorem MT51 : MT Try.prog 51 = none := by kernel_rfl
theorem SP51 : SP Try.prog 51 = none := by kernel_rfl
theorem TI52 : TI Try.prog 52 = some ((.nilFunc : Value), 1, 8) := by kernel_rfl
theorem agB52 : agB Try.prog 52 = some false := by kernel_rfl
theorem SE52 : SE Try.prog 52 = none := by kernel_rfl
theorem AE52 : AE Try.prog 52 = none := by kernel_rfl
theorem MT52 : MT Try.prog 52 = none := by kernel_rfl
theorem SP52 : SP Try.prog 52 = none := by kernel_rfl
theorem TI53 : TI Try.prog 53 = some ((.nilFunc : Value), 1, 8) := by kernel_rfl
theorem agB53 : agB Try.prog 53 = some false := by kernel_rfl
theorem SE53 : SE Try.prog 53 = none := by kernel_rfl
theorem AE53 : AE Try.prog 53 = none := by kernel_rfl
theorem MT53 : MT Try.prog 53 = none := by kernel_rfl
theorem SP53 : SP Try.prog 53 = none := by kernel_rfl
theorem TI54 : TI Try.prog 54 = some ((.nilFunc : Value), 1, 8) := by kernel_rfl
theorem agB54 : agB Try.prog 54 = some false := by kernel_rfl
theorem SE54 : SE Try.prog 54 = none := by kernel_rfl
theorem AE54 : AE Try.prog 54 = none := by kernel_rfl
theorem MT54 : MT Try.prog 54 = none := by kernel_rfl
theorem SP54 : SP Try.prog 54 = none := by kernel_rfl
theorem TI55 : TI Try.prog 55 = some ((.nilFunc : Value), 1, 8) := by kernel_rfl
theorem agB55 : agB Try.prog 55 = some false := by kernel_rfl
theorem SE55 : SE Try.prog 55 = none := by kernel_rfl
theorem AE55 : AE Try.prog 55 = none := by kernel_rfl
theorem MT55 : MT Try.prog 55 = none := by kernel_rfl
theorem SP55 : SP Try.prog 55 = none := by kernel_rfl
theorem TI56 : TI Try.prog 56 = some ((.nilFunc : Value), 1, 8) := by kernel_rfl
theorem agB56 : agB Try.prog 56 = some false := by kernel_rfl
theorem SE56 : SE Try.prog 56 = none := by kernel_rfl
theorem AE56 : AE Try.prog 56 = none := by kernel_rfl
theorem MT56 : MT Try.prog 56 = none := by kernel_rfl
theorem SP56 : SP Try.prog 56 = none := by kernel_rfl
theorem TI57 : TI Try.prog 57 = some ((.nilFunc : Value), 1, 8) := by kernel_rfl
theorem agB57 : agB Try.prog 57 = some false := by kernel_rfl
theorem SE57 : SE Try.prog 57 = none := by kernel_rfl
theorem AE57 : AE Try.prog 57 = none := by kernel_rfl
theorem MT57 : MT Try.prog 57 = none := by kernel_rfl
theorem SP57 : SP Try.prog 57 = none := by kernel_rfl
theorem TI58 : TI Try.prog 58 = some ((.nilFunc : Value), 1, 8) := by kernel_rfl
theorem agB58 : agB Try.prog 58 = some false := by kernel_rfl
theorem SE58 : SE Try.prog 58 = none := by kernel_rfl
theorem AE58 : AE Try.prog 58 = none := by kernel_rfl
theorem MT58 : MT Try.prog 58 = none := by kernel_rfl
theorem SP58 : SP Try.prog 58 = none := by kernel_rfl
theorem TI59 : TI Try.prog 59 = some ((.nilFunc : Value), 1, 8) := by kernel_rfl
theorem agB59 : agB Try.prog 59 = some false := by kernel_rfl
theorem SE59 : SE Try.prog 59 = none := by kernel_rfl
theorem AE59 : AE Try.prog 59 = none := by kernel_rfl
theorem MT59 : MT Try.prog 59 = none := by kernel_rfl
theorem SP59 : SP Try.prog 59 = none := by kernel_rfl
theorem TI60 : TI Try.prog 60 = some ((.nilFunc : Value), 1, 8) := by kernel_rfl
theorem agB60 : agB Try.prog 60 = some false := by kernel_rfl
theorem SE60 : SE Try.prog 60 = none := by kernel_rfl
theorem AE60 : AE Try.prog 60 = none := by kernel_rfl
theorem MT60 : MT Try.prog 60 = none := by kernel_rfl
theorem SP60 : SP Try.prog 60 = none := by kernel_rfl
theorem TI62 : TI Try.prog 62 = some ((.nilFunc : Value), 1, 8) := by kernel_rfl
theorem agB62 : agB Try.prog 62 = some false := by kernel_rfl
theorem SE62 : SE Try.prog 62 = none := by kernel_rfl
theorem AE62 : AE Try.prog 62 = none := by kernel_rfl
theorem MT62 : MT Try.prog 62 = none := by kernel_rfl
theorem SP62 : SP Try.prog 62 = none := by kernel_rfl
theorem TI63 : TI Try.prog 63 = some ((.nilFunc : Value), 1, 8) := by kernel_rfl
theorem agB63 : agB Try.prog 63 = some false := by kernel_rfl
theorem SE63 : SE Try.prog 63 = none := by kernel_rfl
theorem AE63 : AE Try.prog 63 = none := by kernel_rfl
theorem MT63 : MT Try.prog 63 = none := by kernel_rfl
theorem SP63 : SP Try.prog 63 = none := by kernel_rfl
theorem TI64 : TI Try.prog 64 = some ((.nilFunc : Value), 1, 8) := by kernel_rfl
theorem agB64 : agB Try.prog 64 = some false := by kernel_rfl
theorem SE64 : SE Try.prog 64 = none := by kernel_rfl
theorem AE64 : AE Try.prog 64 = none := by kernel_rfl
theorem MT64 : MT Try.prog 64 = none := by kernel_rfl
theorem SP64 : SP Try.prog 64 = none := by kernel_rfl
theorem TI65 : TI Try.prog 65 = some ((.nilFunc : Value), 1, 8) := by kernel_rfl
theorem agB65 : agB Try.prog 65 = some false := by kernel_rfl
theorem SE65 : SE Try.prog 65 = none := by kernel_rfl
theorem AE65 : AE Try.prog 65 = none := by kernel_rfl
theorem MT65 : MT Try.prog 65 = none := by kernel_rfl
theorem SP65 : SP Try.prog 65 = none := by kernel_rfl
theorem TI66 : TI Try.prog 66 = some ((.nilFunc : Value), 1, 8) := by kernel_rfl
theorem agB66 : agB Try.prog 66 = some false := by kernel_rfl
theorem SE66 : SE Try.prog 66 = none := by kernel_rfl
theorem AE66 : AE Try.prog 66 = none := by kernel_rfl
theorem MT66 : MT Try.prog 66 = none := by kernel_rfl
theorem SP66 : SP Try.prog 66 = none := by kernel_rfl
theorem TI67 : TI Try.prog 67 = some ((.nilFunc : Value), 1, 8) := by kernel_rfl
theorem agB67 : agB Try.prog 67 = some false := by kernel_rfl
theorem SE67 : SE Try.prog 67 = none := by kernel_rfl
theorem AE67 : AE Try.prog 67 = none := by kernel_rfl
theorem MT67 : MT Try.prog 67 = none := by kernel_rfl
theorem SP67 : SP Try.prog 67 = none := by kernel_rfl
theorem TI68 : TI Try.prog 68 = some ((.nilFunc : Value), 1, 8) := by kernel_rfl
theorem agB68 : agB Try.prog 68 = some false := by kernel_rfl
theorem SE68 : SE Try.prog 68 = none := by kernel_rfl
theorem AE68 : AE Try.prog 68 = none := by kernel_rfl
theorem MT68 : MT Try.prog 68 = none := by kernel_rfl
theorem SP68 : SP Try.prog 68 = none := by kernel_rfl
theorem TI69 : TI Try.prog 69 = some ((.int .u64 0 : Value), 1, 8) := by kernel_rfl
theorem agB69 : agB Try.prog 69 = some false := by kernel_rfl
theorem SE69 : SE Try.prog 69 = none := by kernel_rfl
theorem AE69 : AE Try.prog 69 = none := by kernel_rfl
theorem MT69 : MT Try.prog 69 = none := by kernel_rfl
theorem UK69 : UK Try.prog 69 = some .u64 := by kernel_rfl
theorem NI69 : isIface Try.prog 69 = false := by kernel_rfl
theorem SP69 : SP Try.prog 69 = none := by kernel_rfl
theorem TI70 : TI Try.prog 70 = some ((.nilFunc : Value), 1, 8) := by kernel_rfl
theorem agB70 : agB Try.prog 70 = some false := by kernel_rfl
theorem SE70 : SE Try.prog 70 = none := by kernel_rfl
theorem AE70 : AE Try.prog 70 = none := by kernel_rfl
theorem MT70 : MT Try.prog 70 = none := by kernel_rfl
theorem SP70 : SP Try.prog 70 = none := by kernel_rfl
theorem TI71 : TI Try.prog 71 = some ((.nilFunc : Value), 1, 8) := by kernel_rfl
theorem agB71 : agB Try.prog 71 = some false := by kernel_rfl
theorem SE71 : SE Try.prog 71 = none := by kernel_rfl
theorem AE71 : AE Try.prog 71 = none := by kernel_rfl
theorem MT71 : MT Try.prog 71 = none := by kernel_rfl
theorem SP71 : SP Try.prog 71 = none := by kernel_rfl
theorem TI72 : TI Try.prog 72 = some ((.pointer none : Value), 1, 8) := by kernel_rfl
theorem agB72 : agB Try.prog 72 = some false := by kernel_rfl
theorem SE72 : SE Try.prog 72 = none := by kernel_rfl
theorem AE72 : AE Try.prog 72 = none := by kernel_rfl
theorem MT72 : MT Try.prog 72 = none := by kernel_rfl
theorem SP72 : SP Try.prog 72 = none := by kernel_rfl
theorem TI73 : TI Try.prog 73 = some ((.agg #[.slice none 0 0, .int .i64 0] : Value), 2, 32) := by kernel_rfl
theorem agB73 : agB Try.prog 73 = some true := by kernel_rfl
theorem SE73 : SE Try.prog 73 = none := by kernel_rfl
theorem AE73 : AE Try.prog 73 = none := by kernel_rfl
theorem MT73 : MT Try.prog 73 = none := by kernel_rfl
theorem NI73 : isIface Try.prog 73 = false := by kernel_rfl
theorem FO73_0 : FO Try.prog 73 0 = some (0, 41) := by kernel_rfl
theorem FO73_1 : FO Try.prog 73 1 = some (1, 3) := by kernel_rfl
theorem SP73 : SP Try.prog 73 = some [(0, 1), (1, 1)] := by kernel_rfl
theorem TI74 : TI Try.prog 74 = some ((.agg #[.slice none 0 0, .int .i64 0] : Value), 2, 32) := by kernel_rfl
theorem agB74 : agB Try.prog 74 = some true := by kernel_rfl
theorem SE74 : SE Try.prog 74 = none := by kernel_rfl
theorem AE74 : AE Try.prog 74 = none := by kernel_rfl
theorem MT74 : MT Try.prog 74 = none := by kernel_rfl
theorem NI74 : isIface Try.prog 74 = false := by kernel_rfl
theorem FO74_0 : FO Try.prog 74 0 = some (0, 41) := by kernel_rfl
theorem FO74_1 : FO Try.prog 74 1 = some (1, 3) := by kernel_rfl
theorem SP74 : SP Try.prog 74 = some [(0, 1), (1, 1)] := by kernel_rfl
theorem TI75 : TI Try.prog 75 = some ((.nilFunc : Value), 1, 8) := by kernel_rfl
theorem agB75 : agB Try.prog 75 = some false := by kernel_rfl
theorem SE75 : SE Try.prog 75 = none := by kernel_rfl
theorem AE75 : AE Try.prog 75 = none := by kernel_rfl
theorem MT75 : MT Try.prog 75 = none := by kernel_rfl
theorem SP75 : SP Try.prog 75 = none := by kernel_rfl
theorem TI76 : TI Try.prog 76 = some ((.nilFunc : Value), 1, 8) := by kernel_rfl
theorem agB76 : agB Try.prog 76 = some false := by kernel_rfl
theorem SE76 : SE Try.prog 76 = none := by kernel_rfl
theorem AE76 : AE Try.prog 76 = none := by kernel_rfl
theorem MT76 : MT Try.prog 76 = none := by kernel_rfl
theorem SP76 : SP Try.prog 76 = none := by kernel_rfl
theorem TI77 : TI Try.prog 77 = some ((.nilFunc : Value), 1, 8) := by kernel_rfl
theorem agB77 : agB Try.prog 77 = some false := by kernel_rfl
theorem SE77 : SE Try.prog 77 = none := by kernel_rfl
theorem AE77 : AE Try.prog 77 = none := by kernel_rfl
theorem MT77 : MT Try.prog 77 = none := by kernel_rfl
theorem SP77 : SP Try.prog 77 = none := by kernel_rfl
theorem TI79 : TI Try.prog 79 = some ((.nilFunc : Value), 1, 8) := by kernel_rfl
theorem agB79 : agB Try.prog 79 = some false := by kernel_rfl
theorem SE79 : SE Try.prog 79 = none := by kernel_rfl
theorem AE79 : AE Try.prog 79 = none := by kernel_rfl
theorem MT79 : MT Try.prog 79 = none := by kernel_rfl
theorem SP79 : SP Try.prog 79 = none := by kernel_rfl
theorem TI81 : TI Try.prog 81 = some ((.nilFunc : Value), 1, 8) := by kernel_rfl
theorem agB81 : agB Try.prog 81 = some false := by kernel_rfl
theorem SE81 : SE Try.prog 81 = none := by kernel_rfl
theorem AE81 : AE Try.prog 81 = none := by kernel_rfl
theorem MT81 : MT Try.prog 81 = none := by kernel_rfl
theorem SP81 : SP Try.prog 81 = none := by kernel_rfl
theorem TI82 : TI Try.prog 82 = some ((.nilFunc : Value), 1, 8) := by kernel_rfl
theorem agB82 : agB Try.prog 82 = some false := by kernel_rfl
theorem SE82 : SE Try.prog 82 = none := by kernel_rfl
theorem AE82 : AE Try.prog 82 = none := by kernel_rfl
theorem MT82 : MT Try.prog 82 = none := by kernel_rfl
theorem SP82 : SP Try.prog 82 = none := by kernel_rfl
theorem TI83 : TI Try.prog 83 = some ((.nilFunc : Value), 1, 8) := by kernel_rfl
theorem agB83 : agB Try.prog 83 = some false := by kernel_rfl
theorem SE83 : SE Try.prog 83 = none := by kernel_rfl
theorem AE83 : AE Try.prog 83 = none := by kernel_rfl
theorem MT83 : MT Try.prog 83 = none := by kernel_rfl
theorem SP83 : SP Try.prog 83 = none := by kernel_rfl
theorem TI84 : TI Try.prog 84 = some ((.nilFunc : Value), 1, 8) := by kernel_rfl
theorem agB84 : agB Try.prog 84 = some false := by kernel_rfl
theorem SE84 : SE Try.prog 84 = none := by kernel_rfl
theorem AE84 : AE Try.prog 84 = none := by kernel_rfl
theorem MT84 : MT Try.prog 84 = none := by kernel_rfl
theorem SP84 : SP Try.prog 84 = none := by kernel_rfl
theorem TI85 : TI Try.prog 85 = some ((.nilFunc : Value), 1, 8) := by kernel_rfl
theorem agB85 : agB Try.prog 85 = some false := by kernel_rfl
theorem SE85 : SE Try.prog 85 = none := by kernel_rfl
theorem AE85 : AE Try.prog 85 = none := by kernel_rfl
theorem MT85 : MT Try.prog 85 = none := by kernel_rfl
theorem SP85 : SP Try.prog 85 = none := by kernel_rfl
theorem TI86 : TI Try.prog 86 = some ((.nilFunc : Value), 1, 8) := by kernel_rfl
theorem agB86 : agB Try.prog 86 = some false := by kernel_rfl
theorem SE86 : SE Try.prog 86 = none := by kernel_rfl
theorem AE86 : AE Try.prog 86 = none := by kernel_rfl
theorem MT86 : MT Try.prog 86 = none := by kernel_rfl
theorem SP86 : SP Try.prog 86 = none := by kernel_rfl
theorem TI87 : TI Try.prog 87 = some ((.nilFunc : Value), 1, 8) := by kernel_rfl
theorem agB87 : agB Try.prog 87 = some false := by kernel_rfl
theorem SE87 : SE Try.prog 87 = none := by kernel_rfl
theorem AE87 : AE Try.prog 87 = none := by kernel_rfl
theorem MT87 : MT Try.prog 87 = none := by kernel_rfl
theorem SP87 : SP Try.prog 87 = none := by kernel_rfl
theorem TI89 : TI Try.prog 89 = some ((.nilFunc : Value), 1, 8) := by kernel_rfl
theorem agB89 : agB Try.prog 89 = some false := by kernel_rfl
theorem SE89 : SE Try.prog 89 = none := by kernel_rfl
theorem AE89 : AE Try.prog 89 = none := by kernel_rfl
theorem MT89 : MT Try.prog 89 = none := by kernel_rfl
theorem SP89 : SP Try.prog 89 = none := by kernel_rfl
theorem TI90 : TI Try.prog 90 = some ((.nilFunc : Value), 1, 8) := by kernel_rfl
theorem agB90 : agB Try.prog 90 = some false := by kernel_rfl
theorem SE90 : SE Try.prog 90 = none := by kernel_rfl
theorem AE90 : AE Try.prog 90 = none := by kernel_rfl
theorem MT90 : MT Try.prog 90 = none := by kernel_rfl
theorem SP90 : SP Try.prog 90 = none := by kernel_rfl
theorem TI92 : TI Try.prog 92 = some ((.nilFunc : Value), 1, 8) := by kernel_rfl
theorem agB92 : agB Try.prog 92 = some false := by kernel_rfl
theorem SE92 : SE Try.prog 92 = none := by kernel_rfl
theorem AE92 : AE Try.prog 92 = none := by kernel_rfl
theorem MT92 : MT Try.prog 92 = none := by kernel_rfl
theorem SP92 : SP Try.prog 92 = none := by kernel_rfl
theorem TI93 : TI Try.prog 93 = some ((.nilFunc : Value), 1, 8) := by kernel_rfl
theorem agB93 : agB Try.prog 93 = some false := by kernel_rfl
theorem SE93 : SE Try.prog 93 = none := by kernel_rfl
theorem AE93 : AE Try.prog 93 = none := by kernel_rfl
theorem MT93 : MT Try.prog 93 = none := by kernel_rfl
theorem SP93 : SP Try.prog 93 = none := by kernel_rfl
theorem TI95 : TI Try.prog 95 = some ((.nilFunc : Value), 1, 8) := by kernel_rfl
theorem agB95 : agB Try.prog 95 = some false := by kernel_rfl
theorem SE95 : SE Try.prog 95 = none := by kernel_rfl
theorem AE95 : AE Try.prog 95 = none := by kernel_rfl
theorem MT95 : MT Try.prog 95 = none := by kernel_rfl
theorem SP95 : SP Try.prog 95 = none := by kernel_rfl
theorem TI96 : TI Try.prog 96 = some ((.pointer none : Value), 1, 8) := by kernel_rfl
theorem agB96 : agB Try.prog 96 = some false := by kernel_rfl
theorem SE96 : SE Try.prog 96 = none := by kernel_rfl
theorem AE96 : AE Try.prog 96 = none := by kernel_rfl
theorem MT96 : MT Try.prog 96 = none := by kernel_rfl
theorem SP96 : SP Try.prog 96 = none := by kernel_rfl
theorem TI97 : TI Try.prog 97 = some ((.slice none 0 0 : Value), 1, 24) := by kernel_rfl
theorem agB97 : agB Try.prog 97 = some false := by kernel_rfl
theorem SE97 : SE Try.prog 97 = some 5 := by kernel_rfl
theorem AE97 : AE Try.prog 97 = none := by kernel_rfl
theorem MT97 : MT Try.prog 97 = none := by kernel_rfl
theorem NI97 : isIface Try.prog 97 = false := by kernel_rfl
theorem SP97 : SP Try.prog 97 = none := by kernel_rfl
theorem TI98 : TI Try.prog 98 = some ((.nilFunc : Value), 1, 8) := by kernel_rfl
theorem agB98 : agB Try.prog 98 = some false := by kernel_rfl
theorem SE98 : SE Try.prog 98 = none := by kernel_rfl
theorem AE98 : AE Try.prog 98 = none := by kernel_rfl
theorem MT98 : MT Try.prog 98 = none := by kernel_rfl
theorem SP98 : SP Try.prog 98 = none := by kernel_rfl
theorem TI99 : TI Try.prog 99 = some ((.pointer none : Value), 1, 8) := by kernel_rfl
theorem agB99 : agB Try.prog 99 = some false := by kernel_rfl
theorem SE99 : SE Try.prog 99 = none := by kernel_rfl
theorem AE99 : AE Try.prog 99 = none := by kernel_rfl
theorem MT99 : MT Try.prog 99 = none := by kernel_rfl
theorem SP99 : SP Try.prog 99 = none := by kernel_rfl
theorem TI100 : TI Try.prog 100 = some ((.nilFunc : Value), 1, 8) := by kernel_rfl
theorem agB100 : agB Try.prog 100 = some false := by kernel_rfl
theorem SE100 : SE Try.prog 100 = none := by kernel_rfl
theorem AE100 : AE Try.prog 100 = none := by kernel_rfl
theorem MT100 : MT Try.prog 100 = none := by kernel_rfl
theorem SP100 : SP Try.prog 100 = none := by kernel_rfl
theorem TI101 : TI Try.prog 101 = some ((.nilFunc : Value), 1, 8) := by kernel_rfl
theorem agB101 : agB Try.prog 101 = some false := by kernel_rfl
theorem SE101 : SE Try.prog 101 = none := by kernel_rfl
theorem AE101 : AE Try.prog 101 = none := by kernel_rfl
theorem MT101 : MT Try.prog 101 = none := by kernel_rfl
theorem SP101 : SP Try.prog 101 = none := by kernel_rfl
theorem TI103 : TI Try.prog 103 = some ((.nilFunc : Value), 1, 8) := by kernel_rfl
theorem agB103 : agB Try.prog 103 = some false := by kernel_rfl
theorem SE103 : SE Try.prog 103 = none := by kernel_rfl
theorem AE103 : AE Try.prog 103 = none := by kernel_rfl
theorem MT103 : MT Try.prog 103 = none := by kernel_rfl
theorem SP103 : SP Try.prog 103 = none := by kernel_rfl
theorem TI104 : TI Try.prog 104 = some ((.map none : Value), 1, 8) := by kernel_rfl
theorem agB104 : agB Try.prog 104 = some false := by kernel_rfl
theorem SE104 : SE Try.prog 104 = none := by kernel_rfl
theorem AE104 : AE Try.prog 104 = none := by kernel_rfl
theorem MT104 : MT Try.prog 104 = some (.u64, 37, 4) := by kernel_rfl
theorem SP104 : SP Try.prog 104 = none := by kernel_rfl
theorem TI105 : TI Try.prog 105 = some ((.nilFunc : Value), 1, 8) := by kernel_rfl
theorem agB105 : agB Try.prog 105 = some false := by kernel_rfl
theorem SE105 : SE Try.prog 105 = none := by kernel_rfl
theorem AE105 : AE Try.prog 105 = none := by kernel_rfl
theorem MT105 : MT Try.prog 105 = none := by kernel_rfl
theorem SP105 : SP Try.prog 105 = none := by kernel_rfl
theorem TI106 : TI Try.prog 106 = some ((.float .f64 0 : Value), 1, 8) := by kernel_rfl
theorem agB106 : agB Try.prog 106 = some false := by kernel_rfl
theorem SE106 : SE Try.prog 106 = none := by kernel_rfl
theorem AE106 : AE Try.prog 106 = none := by kernel_rfl
theorem MT106 : MT Try.prog 106 = none := by kernel_rfl
theorem SP106 : SP Try.prog 106 = none := by kernel_rfl
theorem TI107 : TI Try.prog 107 = some ((.nilFunc : Value), 1, 8) := by kernel_rfl
theorem agB107 : agB Try.prog 107 = some false := by kernel_rfl
theorem SE107 : SE Try.prog 107 = none := by kernel_rfl
theorem AE107 : AE Try.prog 107 = none := by kernel_rfl
theorem MT107 : MT Try.prog 107 = none := by kernel_rfl
theorem SP107 : SP Try.prog 107 = none := by kernel_rfl
theorem TI108 : TI Try.prog 108 = some ((.nilFunc : Value), 1, 8) := by kernel_rfl
theorem agB108 : agB Try.prog 108 = some false := by kernel_rfl
theorem SE108 : SE Try.prog 108 = none := by kernel_rfl
theorem AE108 : AE Try.prog 108 = none := by kernel_rfl
theorem MT108 : MT Try.prog 108 = none := by kernel_rfl
theorem SP108 : SP Try.prog 108 = none := by kernel_rfl
theorem TI109 : TI Try.prog 109 = some ((.nilFunc : Value), 1, 8) := by kernel_rfl
theorem agB109 : agB Try.prog 109 = some false := by kernel_rfl
theorem SE109 : SE Try.prog 109 = none := by kernel_rfl
theorem AE109 : AE Try.prog 109 = none := by kernel_rfl
theorem MT109 : MT Try.prog 109 = none := by kernel_rfl
theorem SP109 : SP Try.prog 109 = none := by kernel_rfl
theorem TI111 : TI Try.prog 111 = some ((.nilFunc : Value), 1, 8) := by kernel_rfl
theorem agB111 : agB Try.prog 111 = some false := by kernel_rfl
theorem SE111 : SE Try.prog 111 = none := by kernel_rfl
theorem AE111 : AE Try.prog 111 = none := by kernel_rfl
theorem MT111 : MT Try.prog 111 = none := by kernel_rfl
theorem SP111 : SP Try.prog 111 = none := by kernel_rfl
theorem TI112 : TI Try.prog 112 = some ((.pointer none : Value), 1, 8) := by kernel_rfl
theorem agB112 : agB Try.prog 112 = some false := by kernel_rfl
theorem SE112 : SE Try.prog 112 = none := by kernel_rfl
theorem AE112 : AE Try.prog 112 = none := by kernel_rfl
theorem MT112 : MT Try.prog 112 = none := by kernel_rfl
theorem SP112 : SP Try.prog 112 = none := by kernel_rfl
theorem TI113 : TI Try.prog 113 = some ((.nilFunc : Value), 1, 8) := by kernel_rfl
theorem agB113 : agB Try.prog 113 = some false := by kernel_rfl
theorem SE113 : SE Try.prog 113 = none := by kernel_rfl
theorem AE113 : AE Try.prog 113 = none := by kernel_rfl
theorem MT113 : MT Try.prog 113 = none := by kernel_rfl
theorem SP113 : SP Try.prog 113 = none := by kernel_rfl
theorem TI114 : TI Try.prog 114 = some ((.agg #[.slice none 0 0, .int .i64 0] : Value), 2, 32) := by kernel_rfl
theorem agB114 : agB Try.prog 114 = some true := by kernel_rfl
theorem SE114 : SE Try.prog 114 = none := by kernel_rfl
theorem AE114 : AE Try.prog 114 = none := by kernel_rfl
theorem MT114 : MT Try.prog 114 = none := by kernel_rfl
theorem NI114 : isIface Try.prog 114 = false := by kernel_rfl
theorem FO114_0 : FO Try.prog 114 0 = some (0, 41) := by kernel_rfl
theorem FO114_1 : FO Try.prog 114 1 = some (1, 3) := by kernel_rfl
theorem SP114 : SP Try.prog 114 = some [(0, 1), (1, 1)] := by kernel_rfl
theorem TI115 : TI Try.prog 115 = some ((.agg #[.slice none 0 0, .int .i64 0] : Value), 2, 32) := by kernel_rfl
theorem agB115 : agB Try.prog 115 = some true := by kernel_rfl
theorem SE115 : SE Try.prog 115 = none := by kernel_rfl
theorem AE115 : AE Try.prog 115 = none := by kernel_rfl
theorem MT115 : MT Try.prog 115 = none := by kernel_rfl
theorem NI115 : isIface Try.prog 115 = false := by kernel_rfl
theorem FO115_0 : FO Try.prog 115 0 = some (0, 41) := by kernel_rfl
theorem FO115_1 : FO Try.prog 115 1 = some (1, 3) := by kernel_rfl
theorem SP115 : SP Try.prog 115 = some [(0, 1), (1, 1)] := by kernel_rfl
theorem TI116 : TI Try.prog 116 = some ((.nilFunc : Value), 1, 8) := by kernel_rfl
theorem agB116 : agB Try.prog 116 = some false := by kernel_rfl
theorem SE116 : SE Try.prog 116 = none := by kernel_rfl
theorem AE116 : AE Try.prog 116 = none := by kernel_rfl
theorem MT116 : MT Try.prog 116 = none := by kernel_rfl
theorem SP116 : SP Try.prog 116 = none := by kernel_rfl
theorem TI122 : TI Try.prog 122 = some ((.int .u32 0 : Value), 1, 4) := by kernel_rfl
theorem agB122 : agB Try.prog 122 = some false := by kernel_rfl
theorem SE122 : SE Try.prog 122 = none := by kernel_rfl
theorem AE122 : AE Try.prog 122 = none := by kernel_rfl
theorem MT122 : MT Try.prog 122 = none := by kernel_rfl
theorem UK122 : UK Try.prog 122 = some .u32 := by kernel_rfl
theorem NI122 : isIface Try.prog 122 = false := by kernel_rfl
theorem SP122 : SP Try.prog 122 = none := by kernel_rfl
theorem TI126 : TI Try.prog 126 = some ((.pointer none : Value), 1, 8) := by kernel_rfl
theorem agB126 : agB Try.prog 126 = some false := by kernel_rfl
theorem SE126 : SE Try.prog 126 = none := by kernel_rfl
theorem AE126 : AE Try.prog 126 = none := by kernel_rfl
theorem MT126 : MT Try.prog 126 = none := by kernel_rfl
theorem SP126 : SP Try.prog 126 = none := by kernel_rfl
theorem mixed : Try.prog.follows .mixedOrders = true := by kernel_rfl
attribute [go_sem] TI1 agB1 SE1 AE1 MT1 SP1 TI2 agB2 SE2 AE2 MT2 UK2 NI2 SP2 TI3 agB3 SE3 AE3 MT3 UK3 NI3 SP3 TI4 agB4 SE4 AE4 MT4 UB4 NI4 SP4 TI5 agB5 SE5 AE5 MT5 UK5 NI5 SP5 TI9 agB9 SE9 AE9 MT9 US9 NI9 SP9 TI12 agB12 SE12 AE12 MT12 UK12 NI12 SP12 TI21 agB21 SE21 AE21 MT21 UK21 NI21 SP21 TI22 agB22 SE22 AE22 MT22 NI22 SP22 TI23 agB23 SE23 AE23 MT23 NI23 FO23_0 FO23_1 FO23_2 SP23 TI24 agB24 SE24 AE24 MT24 NI24 FO24_0 FO24_1 FO24_2 SP24 TI25 agB25 SE25 AE25 MT25 SP25 TI26 agB26 SE26 AE26 MT26 SP26 TI27 agB27 SE27 AE27 MT27 NI27 SP27 TI28 agB28 SE28 AE28 MT28 UK28 NI28 SP28 TI30 agB30 SE30 AE30 MT30 SP30 TI32 agB32 SE32 AE32 MT32 SP32 TI33 agB33 SE33 AE33 MT33 SP33 TI34 agB34 SE34 AE34 MT34 SP34 TI35 agB35 SE35 AE35 MT35 SP35 TI36 agB36 SE36 AE36 MT36 SP36 TI37 agB37 SE37 AE37 MT37 UK37 NI37 SP37 TI38 agB38 SE38 AE38 MT38 SP38 TI39 agB39 SE39 AE39 MT39 SP39 TI40 agB40 SE40 AE40 MT40 SP40 TI41 agB41 SE41 AE41 MT41 NI41 SP41 TI43 agB43 SE43 AE43 MT43 SP43 TI44 agB44 SE44 AE44 MT44 SP44 TI46 agB46 SE46 AE46 MT46 SP46 TI47 agB47 SE47 AE47 MT47 SP47 TI48 agB48 SE48 AE48 MT48 SP48 TI49 agB49 SE49 AE49 MT49 SP49 TI50 agB50 SE50 AE50 MT50 SP50 TI51 agB51 SE51 AE51 MT51 SP51 TI52 agB52 SE52 AE52 MT52 SP52 TI53 agB53 SE53 AE53 MT53 SP53 TI54 agB54 SE54 AE54 MT54 SP54 TI55 agB55 SE55 AE55 MT55 SP55 TI56 agB56 SE56 AE56 MT56 SP56 TI57 agB57 SE57 AE57 MT57 SP57 TI58 agB58 SE58 AE58 MT58 SP58 TI59 agB59 SE59 AE59 MT59 SP59 TI60 agB60 SE60 AE60 MT60 SP60 TI62 agB62 SE62 AE62 MT62 SP62 TI63 agB63 SE63 AE63 MT63 SP63 TI64 agB64 SE64 AE64 MT64 SP64 TI65 agB65 SE65 AE65 MT65 SP65 TI66 agB66 SE66 AE66 MT66 SP66 TI67 agB67 SE67 AE67 MT67 SP67 TI68 agB68 SE68 AE68 MT68 SP68 TI69 agB69 SE69 AE69 MT69 UK69 NI69 SP69 TI70 agB70 SE70 AE70 MT70 SP70 TI71 agB71 SE71 AE71 MT71 SP71 TI72 agB72 SE72 AE72 MT72 SP72 TI73 agB73 SE73 AE73 MT73 NI73 FO73_0 FO73_1 SP73 TI74 agB74 SE74 AE74 MT74 NI74 FO74_0 FO74_1 SP74 TI75 agB75 SE75 AE75 MT75 SP75 TI76 agB76 SE76 AE76 MT76 SP76 TI77 agB77 SE77 AE77 MT77 SP77 TI79 agB79 SE79 AE79 MT79 SP79 TI81 agB81 SE81 AE81 MT81 SP81 TI82 agB82 SE82 AE82 MT82 SP82 TI83 agB83 SE83 AE83 MT83 SP83 TI84 agB84 SE84 AE84 MT84 SP84 TI85 agB85 SE85 AE85 MT85 SP85 TI86 agB86 SE86 AE86 MT86 SP86 TI87 agB87 SE87 AE87 MT87 SP87 TI89 agB89 SE89 AE89 MT89 SP89 TI90 agB90 SE90 AE90 MT90 SP90 TI92 agB92 SE92 AE92 MT92 SP92 TI93 agB93 SE93 AE93 MT93 SP93 TI95 agB95 SE95 AE95 MT95 SP95 TI96 agB96 SE96 AE96 MT96 SP96 TI97 agB97 SE97 AE97 MT97 NI97 SP97 TI98 agB98 SE98 AE98 MT98 SP98 TI99 agB99 SE99 AE99 MT99 SP99 TI100 agB100 SE100 AE100 MT100 SP100 TI101 agB101 SE101 AE101 MT101 SP101 TI103 agB103 SE103 AE103 MT103 SP103 TI104 agB104 SE104 AE104 MT104 SP104 TI105 agB105 SE105 AE105 MT105 SP105 TI106 agB106 SE106 AE106 MT106 SP106 TI107 agB107 SE107 AE107 MT107 SP107 TI108 agB108 SE108 AE108 MT108 SP108 TI109 agB109 SE109 AE109 MT109 SP109 TI111 agB111 SE111 AE111 MT111 SP111 TI112 agB112 SE112 AE112 MT112 SP112 TI113 agB113 SE113 AE113 MT113 SP113 TI114 agB114 SE114 AE114 MT114 NI114 FO114_0 FO114_1 SP114 TI115 agB115 SE115 AE115 MT115 NI115 FO115_0 FO115_1 SP115 TI116 agB116 SE116 AE116 MT116 SP116 TI122 agB122 SE122 AE122 MT122 UK122 NI122 SP122 TI126 agB126 SE126 AE126 MT126 SP126 mixed
end Go.Proofs.Ytkapgooedfompaa.K
namespace Go.Proofs.YtkapgooedfompaaAw
theorem aput_at (n : Nat) (s : Nat → AV) (d : Tmp) (v : AV) (t : Nat) : aput n s (some d) v t = if t = d then (if d < n then v else .top) else s t := rfl
theorem aput_no (n : Nat) (s : Nat → AV) (v : AV) : aput n s none v = s := rfl
theorem aeval_tmp (s : Nat → AV) (t : Tmp) : aeval s (.tmp t) = s t := rfl
theorem aeval_const (s : Nat → AV) (v : Value) : aeval s (.const v) = aconst v := rfl
theorem aeval_func (s : Nat → AV) (f : FuncId) : aeval s (.func f) = .fn f [] := rfl
theorem aconst_int (k : IntKind) (n : Int) : aconst (.int k n) = .d (.v (.int k n)) := rfl
theorem aconst_bool (b : Bool) : aconst (.bool b) = .d (.v (.bool b)) := rfl
theorem aconst_string (b : ByteArray) : aconst (.string b) = .d (.v (.string b)) := rfl
theorem aconst_slice (a : Option Addr) (n c : Nat) : aconst (.slice a n c) = .d (.v (.slice a n c)) := rfl
theorem aconst_pointer (a : Option Addr) : aconst (.pointer a) = .d (.v (.pointer a)) := rfl
theorem aconst_agg (cs : Array Value) : aconst (.agg cs) = if cs.all Value.oneCell' then .agg (cs.toList.map fun c => .d (.v c)) else .top := rfl
theorem aconst_iface (t : TypeId) (v : Value) : aconst (.iface t v) = .d (.v (.iface t v)) := rfl
theorem aconst_nilIface : aconst .nilIface = .d (.v .nilIface) := rfl
theorem aconst_nilFunc : aconst .nilFunc = .d (.v .nilFunc) := rfl
theorem ainit_at (args : List AV) (t : Nat) : ainit args t = args.getD t .top := rfl
theorem closed_v (x : Value) : closed (.d (.v x)) = some x := rfl
theorem closed_list (nn : Bool) (es : List (List D)) : closed (.d (.list nn es)) = none := rfl
theorem closed_ptr (id ver i j : Nat) : closed (.ptr id ver i j) = none := rfl
theorem closed_sl (id ver i j : Nat) : closed (.sl id ver i j) = none := rfl
theorem closed_iptr (cs : List D) : closed (.iptr cs) = none := rfl
theorem closed_fn (f : FuncId) (cs : List AV) : closed (.fn f cs) = none := rfl
theorem closed_mp (id : Nat) : closed (.mp id) = none := rfl
theorem closed_cap0 : closed .cap0 = none := rfl
theorem closed_agg (cs : List AV) : closed (.agg cs) = (closedAll cs).map fun l => .agg l.toArray := rfl
theorem cellsOf_d (x : D) : cellsOf (.d x) = some [.d x] := rfl
theorem cellsOf_sl (id ver off len : Nat) : cellsOf (.sl id ver off len) = some [.sl id ver off len] := rfl
theorem cellsOf_ptr (id ver i j : Nat) : cellsOf (.ptr id ver i j) = some [.ptr id ver i j] := rfl
theorem cellsOf_agg (cs : List AV) : cellsOf (.agg cs) = if cs.all AV.one then some cs else none := rfl
theorem cellsOf_fn (f : FuncId) (cs : List AV) : cellsOf (.fn f cs) = some [.fn f cs] := rfl
theorem cellsOf_cap0 : cellsOf .cap0 = some [.cap0] := rfl
theorem cellsOf_mp (id : Nat) : cellsOf (.mp id) = some [.mp id] := rfl
theorem app_get (H T : AHeap) (k : Nat) : (H ++ T)[H.length + k]? = T[k]? := by rw [List.getElem?_append_right (by omega)]; congr 1; omega
theorem app_get0 (H T : AHeap) : (H ++ T)[H.length]? = T[0]? := app_get H T 0
theorem app_set (H T : AHeap) (k : Nat) (o : AObj) : (H ++ T).set (H.length + k) o = H ++ T.set k o := by
  rw [List.set_append_right _ _ (by omega)]; congr 2; omega
theorem app_set0 (H T : AHeap) (o : AObj) : (H ++ T).set H.length o = H ++ T.set 0 o := app_set H T 0 o
theorem app_len1 (H : AHeap) (a : AObj) : (H ++ [a]).length = H.length + 1 := by simp
theorem app_len2 (H : AHeap) (a b : AObj) : (H ++ [a, b]).length = H.length + 2 := by simp
theorem app_len3 (H : AHeap) (a b c : AObj) : (H ++ [a, b, c]).length = H.length + 3 := by simp
theorem app_len4 (H : AHeap) (a b c d : AObj) : (H ++ [a, b, c, d]).length = H.length + 4 := by simp
theorem app_len5 (H : AHeap) (a b c d e : AObj) : (H ++ [a, b, c, d, e]).length = H.length + 5 := by simp
theorem app_len6 (H : AHeap) (a b c d e f : AObj) : (H ++ [a, b, c, d, e, f]).length = H.length + 6 := by simp
theorem app_len7 (H : AHeap) (a b c d e f g : AObj) : (H ++ [a, b, c, d, e, f, g]).length = H.length + 7 := by simp
theorem app_len8 (H : AHeap) (a b c d e f g h : AObj) : (H ++ [a, b, c, d, e, f, g, h]).length = H.length + 8 := by simp
theorem alen_list (H : AHeap) (nn : Bool) (es : List (List D)) : alen H (.d (.list nn es)) = some es.length := rfl
theorem alen_slice (H : AHeap) (a : Option Addr) (n c : Nat) : alen H (.d (.v (.slice a n c))) = some n := rfl
theorem alen_cap0 (H : AHeap) : alen H .cap0 = some 0 := rfl
theorem alen_sl (H : AHeap) (id ver off len : Nat) : alen H (.sl id ver off len) = match H[id]? with | some ob => if ob.ver = ver then some len else none | none => none := rfl
theorem asrc_list (H : AHeap) (nn : Bool) (es : List (List D)) : asrc H (.d (.list nn es)) = some es := rfl
theorem aelem_list (H : AHeap) (k : Nat) (i : Int) (nn : Bool) (es : List (List D)) : aelem H k i (.d (.list nn es)) = if 0 ≤ i then (es[i.toNat]?).bind fun e => if e.length = k then some (.iptr e) else none else none := rfl
theorem aread_iptr (H : AHeap) (n : Nat) (cs : List D) : aread H n (.iptr cs) = if n ≤ cs.length then some ((cs.take n).map .d) else none := rfl
theorem aread_ptr (H : AHeap) (n id ver i j : Nat) : aread H n (.ptr id ver i j) = oread H id ver i j n := rfl
theorem awrite_ptr (H : AHeap) (cs : List AV) (id ver i j : Nat) : awrite H cs (.ptr id ver i j) = owrite H id ver i j cs := rfl
theorem amove_ptr (off id ver i j : Nat) : amove off (.ptr id ver i j) = some (.ptr id ver i (j + off)) := rfl
theorem amove_iptr (off : Nat) (cs : List D) : amove off (.iptr cs) = if off ≤ cs.length then some (.iptr (cs.drop off)) else none := rfl
theorem fresh_ptr (H : AHeap) (id ver i j : Nat) : fresh H (.ptr id ver i j) = match H[id]? with | some o => o.ver == ver | none => false := rfl
theorem fresh_iptr (H : AHeap) (cs : List D) : fresh H (.iptr cs) = true := rfl
theorem toDs_nil : toDs [] = some [] := rfl
theorem toDs_cons (x : AV) (xs : List AV) : toDs (x :: xs) = match x.toD?, toDs xs with | some y, some ys => some (y :: ys) | _, _ => none := rfl
theorem toD_d (x : D) : (AV.d x).toD? = some x := rfl
theorem afill_nil (place : Nat → Option (Nat × Nat)) (cells : List AV) : afill place cells [] = some cells := rfl
theorem afill_cons (place : Nat → Option (Nat × Nat)) (cells : List AV) (i : Nat) (x : AV) (rest : List (Nat × AV)) : afill place cells ((i, x) :: rest) = match place i, cellsOf x with
    | some (off, size), some cs => if cs.length = size ∧ off + size ≤ cells.length then afill place (splice cells off cs) rest else none
    | _, _ => none := rfl
theorem get_snoc_self (H : AHeap) (o : AObj) : (H ++ [o])[H.length]? = some o := by simp
theorem set_snoc_self (H : AHeap) (o o' : AObj) : (H ++ [o]).set H.length o' = H ++ [o'] := by simp
/-! ### Words that let the walk look at what is asked alone -/
/-- A mark: what bears it is looked into. (simp looks into a term's parts by itself where a congruence of ours turned nothing: so each of ours turns this mark.) -/
def nf {α : Sort _} (x : α) : α := x
theorem nf_id {α : Sort _} (x : α) : nf x = x := rfl
def ob {α : Type} (x : Option α) (K : α → Prop) : Prop := match x with | some a => K a | none => False
theorem ob_some {α : Type} (a : α) (K : α → Prop) : ob (some a) K = K a := rfl
theorem ob_none {α : Type} (K : α → Prop) : ob none K = False := rfl
theorem ob_congr {α : Type} {x y : Option α} {K : α → Prop} (h : nf x = y) : ob x K = ob y K := by rw [← h]; rfl
def oalt {α : Type} (x : Option α) (K : α → Prop) (L : Prop) : Prop := match x with | some a => K a | none => L
theorem oalt_some {α : Type} (a : α) (K : α → Prop) (L : Prop) : oalt (some a) K L = K a := rfl
theorem oalt_none {α : Type} (K : α → Prop) (L : Prop) : oalt none K L = L := rfl
theorem oalt_congr {α : Type} {x y : Option α} {K : α → Prop} {L : Prop} (h : nf x = y) : oalt x K L = oalt y K L := by rw [← h]; rfl
def aite (b : Bool) (A B : Prop) : Prop := if b = true then A else B
theorem aite_true (A B : Prop) : aite true A B = A := by simp [aite]
theorem aite_false (A B : Prop) : aite false A B = B := by simp [aite]
theorem aite_congr {b c : Bool} {A B : Prop} (h : nf b = c) : aite b A B = aite c A B := by rw [← h]; rfl
def asB : AV → Option Bool
  | .d (.v (.bool b)) => some b
  | _ => none
theorem asB_bool (b : Bool) : asB (.d (.v (.bool b))) = some b := rfl
def asI : AV → Option Int
  | .d (.v (.int _ i)) => some i
  | _ => none
theorem asI_int (k : IntKind) (i : Int) : asI (.d (.v (.int k i))) = some i := rfl
def asF : AV → Option (FuncId × List AV)
  | .fn f cs => some (f, cs)
  | _ => none
theorem asF_fn (f : FuncId) (cs : List AV) : asF (.fn f cs) = some (f, cs) := rfl
def asT : AV → Option (List AV)
  | .tup cs => some cs
  | _ => none
theorem asT_tup (cs : List AV) : asT (.tup cs) = some cs := rfl
def asAg : AV → Option (List AV)
  | .agg cs => some cs
  | _ => none
theorem asAg_agg (cs : List AV) : asAg (.agg cs) = some cs := rfl
def asL : AV → Option (List (List D))
  | .d (.list _ es) => some es
  | _ => none
theorem asL_list (nn : Bool) (es : List (List D)) : asL (.d (.list nn es)) = some es := rfl
def asSt : Option Value → Option ByteArray
  | some (.string b) => some b
  | _ => none
theorem asSt_string (b : ByteArray) : asSt (some (.string b)) = some b := rfl
def asIn : Option Value → Option Int
  | some (.int _ i) => some i
  | _ => none
theorem asIn_int (k : IntKind) (i : Int) : asIn (some (.int k i)) = some i := rfl
def as1 {α : Type} : Option (List α) → Option α
  | some [c] => some c
  | _ => none
theorem as1_one {α : Type} (c : α) : as1 (some [c]) = some c := rfl
theorem bne_tt : (true != true) = false := rfl
theorem bne_tf : (true != false) = true := rfl
theorem bne_ft : (false != true) = true := rfl
theorem bne_ff : (false != false) = false := rfl
theorem beq_tt : (true == true) = true := rfl
theorem beq_tf : (true == false) = false := rfl
theorem beq_ft : (false == true) = false := rfl
theorem beq_ff : (false == false) = true := rfl
attribute [go_sem] bne_tt bne_tf bne_ft bne_ff nf_id beq_tt beq_tf beq_ft beq_ff ob_some ob_none oalt_some oalt_none aite_true aite_false asB_bool asI_int asF_fn asT_tup asAg_agg asL_list asSt_string asIn_int as1_one

def TIok (P : Program) (t : TypeId) : Bool := match TI P t with | some (z, k, _) => decide (0 < k) && z.cells.size == k && z.cells.all Value.oneCell' | none => false
theorem TIok_eq {P : Program} {t : TypeId} {z : Value} {k b : Nat} (h : TI P t = some (z, k, b)) : (TIok P t = true) = (0 < k ∧ z.cells.size = k ∧ z.cells.all Value.oneCell' = true) := by
  simp [TIok, h, and_assoc]

/-! ### Continuations that the walk does not look into -/
section
variable (P : Program) (hint : Nat → Bool) (n : Nat) (H0 : AHeap)
def KOp (ops : Array Oper) (Q : Post) (rest : List Oper) (s : Nat → AV) (d : Option Tmp) : AV → AHeap → Prop := fun r H' => awpList P hint n ops Q rest (aput n s d r) H'
def KPan (Q : Post) (s : Nat → AV) : Value → AHeap → Prop := fun v H' => Q (.panic v) s H'
def KSeq (y : Code) (Q : Post) : Post := fun e s' H' => match e with | .normal => (if hintAt hint y = true then ∃ s'' H'', Weak H0 s' H' s'' H'' ∧ awp P hint n H0 y Q s'' H'' else awp P hint n H0 y Q s' H') | e => Q e s' H'
def KBlock (id : Nat) (Q : Post) : Post := fun e s' H' => match e with | .exit i => if i = id then Q .normal s' H' else Q (.exit i) s' H' | e => Q e s' H'
def KLoop (R : (Nat → AV) → AHeap → Prop) (Q : Post) : Post := fun e s' H' => match e with | .normal => R s' H' | e => Q e s' H'
def KVal (K : AV → AHeap → Prop) (H : AHeap) : Value → Prop := fun r => K (aconst r) H
theorem KOp_app (ops : Array Oper) (Q : Post) (rest : List Oper) (s : Nat → AV) (d : Option Tmp) (r : AV) (H : AHeap) : KOp P hint n ops Q rest s d r H = awpList P hint n ops Q rest (aput n s d r) H := rfl
theorem KPan_app (Q : Post) (s : Nat → AV) (v : Value) (H : AHeap) : KPan Q s v H = Q (.panic v) s H := rfl
theorem KSeq_normal (y : Code) (Q : Post) (s : Nat → AV) (H : AHeap) : KSeq P hint n H0 y Q .normal s H = aite (hintAt hint y) (∃ s'' H'', Weak H0 s H s'' H'' ∧ awp P hint n H0 y Q s'' H'') (awp P hint n H0 y Q s H) := rfl
theorem hintAt_no (y : Code) : hintAt (fun _ => false) y = false := by unfold hintAt; split <;> rfl
theorem hintAt_seq (x y : Code) : hintAt hint (.seq x y) = hintAt hint x := rfl
theorem hintAt_region (id : Nat) (ops : Array Oper) (b : Bool) : hintAt hint (.region id ops b) = hint (id + 1000000) := rfl
theorem hintAt_cond (c : Operand) (x y : Code) : hintAt hint (.cond c x y) = false := rfl
theorem hintAt_block (id : Nat) (x : Code) : hintAt hint (.block id x) = false := rfl
theorem hintAt_loop (x : Code) : hintAt hint (.loop x) = false := rfl
theorem hintAt_label (l : Nat) : hintAt hint (.label l) = false := rfl
theorem hintAt_scope (x : Code) : hintAt hint (.scope x) = false := rfl
theorem hintAt_skip : hintAt hint .skip = false := rfl
theorem hintAt_ret : hintAt hint .ret = false := rfl
theorem hintAt_exit (id : Nat) : hintAt hint (.exit id) = false := rfl
attribute [go_sem] hintAt_no hintAt_seq hintAt_region hintAt_cond hintAt_block hintAt_loop hintAt_label hintAt_scope hintAt_skip hintAt_ret hintAt_exit
theorem KSeq_exit (y : Code) (Q : Post) (i : Nat) (s : Nat → AV) (H : AHeap) : KSeq P hint n H0 y Q (.exit i) s H = Q (.exit i) s H := rfl
theorem KSeq_ret (y : Code) (Q : Post) (s : Nat → AV) (H : AHeap) : KSeq P hint n H0 y Q .ret s H = Q .ret s H := rfl
theorem KSeq_panic (y : Code) (Q : Post) (v : Value) (s : Nat → AV) (H : AHeap) : KSeq P hint n H0 y Q (.panic v) s H = Q (.panic v) s H := rfl
theorem KBlock_normal (id : Nat) (Q : Post) (s : Nat → AV) (H : AHeap) : KBlock id Q .normal s H = Q .normal s H := rfl
theorem KBlock_exit (id : Nat) (Q : Post) (i : Nat) (s : Nat → AV) (H : AHeap) : KBlock id Q (.exit i) s H = if i = id then Q .normal s H else Q (.exit i) s H := rfl
theorem KBlock_ret (id : Nat) (Q : Post) (s : Nat → AV) (H : AHeap) : KBlock id Q .ret s H = Q .ret s H := rfl
theorem KBlock_panic (id : Nat) (Q : Post) (v : Value) (s : Nat → AV) (H : AHeap) : KBlock id Q (.panic v) s H = Q (.panic v) s H := rfl
theorem KLoop_normal (R : (Nat → AV) → AHeap → Prop) (Q : Post) (s : Nat → AV) (H : AHeap) : KLoop R Q .normal s H = R s H := rfl
theorem KLoop_exit (R : (Nat → AV) → AHeap → Prop) (Q : Post) (i : Nat) (s : Nat → AV) (H : AHeap) : KLoop R Q (.exit i) s H = Q (.exit i) s H := rfl
theorem KLoop_ret (R : (Nat → AV) → AHeap → Prop) (Q : Post) (s : Nat → AV) (H : AHeap) : KLoop R Q .ret s H = Q .ret s H := rfl
theorem KLoop_panic (R : (Nat → AV) → AHeap → Prop) (Q : Post) (v : Value) (s : Nat → AV) (H : AHeap) : KLoop R Q (.panic v) s H = Q (.panic v) s H := rfl
theorem KVal_app (K : AV → AHeap → Prop) (H : AHeap) (r : Value) : KVal K H r = K (aconst r) H := rfl

theorem awp_skip (Q : Post) (s : Nat → AV) (H : AHeap) : awp P hint n H0 .skip Q s H = Q .normal s H := rfl
theorem awp_label (l : Nat) (Q : Post) (s : Nat → AV) (H : AHeap) : awp P hint n H0 (.label l) Q s H = Q .normal s H := rfl
theorem awp_scope (x : Code) (Q : Post) (s : Nat → AV) (H : AHeap) : awp P hint n H0 (.scope x) Q s H = awp P hint n H0 x Q s H := rfl
theorem awp_region (id : Nat) (ops : Array Oper) (Q : Post) (s : Nat → AV) (H : AHeap) : awp P hint n H0 (.region id ops false) Q s H = awpList P hint n ops Q ops.toList s H := rfl
theorem awp_seq (x y : Code) (Q : Post) (s : Nat → AV) (H : AHeap) : awp P hint n H0 (.seq x y) Q s H = awp P hint n H0 x (KSeq P hint n H0 y Q) s H := rfl
theorem awp_cond (c : Operand) (x y : Code) (Q : Post) (s : Nat → AV) (H : AHeap) : awp P hint n H0 (.cond c x y) Q s H = (match aeval s c with | .d (.v (.bool b)) => if b = true then awp P hint n H0 x Q s H else awp P hint n H0 y Q s H | _ => False) := rfl
theorem awp_block (id : Nat) (x : Code) (Q : Post) (s : Nat → AV) (H : AHeap) : awp P hint n H0 (.block id x) Q s H = awp P hint n H0 x (KBlock id Q) s H := rfl
theorem awp_exit (id : Nat) (Q : Post) (s : Nat → AV) (H : AHeap) : awp P hint n H0 (.exit id) Q s H = Q (.exit id) s H := rfl
theorem awp_ret (Q : Post) (s : Nat → AV) (H : AHeap) : awp P hint n H0 .ret Q s H = Q .ret s H := rfl
theorem awp_loop {α : Type} (I : α → (Nat → AV) → AHeap → Prop) (μ : α → Nat) (x0 : α) {body : Code} {Q : Post} {s s' : Nat → AV} {H H' : AHeap} (hW : Weak H0 s H s' H') (h0 : I x0 s' H')
    (step : ∀ x s H, I x s H → awp P hint n H0 body (KLoop (fun s' H' => ∃ s'' H'' y, Weak H0 s' H' s'' H'' ∧ I y s'' H'' ∧ μ y < μ x) Q) s H) : awp P hint n H0 (.loop body) Q s H := by
  refine ⟨fun m s H => ∃ x, μ x = m ∧ I x s H ∧ awp P hint n H0 body (KLoop (fun s' H' => ∃ s'' H'' y, Weak H0 s' H' s'' H'' ∧ I y s'' H'' ∧ μ y < μ x) Q) s H, μ x0, ⟨s', H', hW, x0, rfl, h0, step x0 s' H' h0⟩, ?_⟩
  rintro m s H ⟨x, rfl, hI, h⟩
  have e : (KLoop (fun s' H' => ∃ s'' H'' y, Weak H0 s' H' s'' H'' ∧ I y s'' H'' ∧ μ y < μ x) Q : Post) = fun e s' H' => match e with
      | .normal => ∃ s'' H'' m', Weak H0 s' H' s'' H'' ∧ (∃ x, μ x = m' ∧ I x s'' H'' ∧ awp P hint n H0 body (KLoop (fun s' H' => ∃ s'' H'' y, Weak H0 s' H' s'' H'' ∧ I y s'' H'' ∧ μ y < μ x) Q) s'' H'') ∧ m' < μ x
      | e => Q e s' H' := by
    funext e s' H'
    cases e with
    | normal =>
      refine propext ⟨?_, ?_⟩
      · rintro ⟨s'', H'', y, hW, hI, hlt⟩
        exact ⟨s'', H'', μ y, hW, ⟨y, rfl, hI, step y s'' H'' hI⟩, hlt⟩
      · rintro ⟨s'', H'', m', hW, ⟨y, rfl, hI, _⟩, hlt⟩
        exact ⟨s'', H'', y, hW, hI, hlt⟩
    | _ => rfl
  rw [e] at h
  exact h

theorem awpList_nil (ops : Array Oper) (Q : Post) (s : Nat → AV) (H : AHeap) : awpList P hint n ops Q [] s H = Q .normal s H := rfl
theorem awpList_none (ops : Array Oper) (Q : Post) (d : Option Tmp) (op : Op) (ty : TypeId) (p : String) (af : Array Edge) (rest : List Oper) (s : Nat → AV) (H : AHeap) :
    awpList P hint n ops Q (⟨d, op, ty, p, af, none⟩ :: rest) s H = astep P hint s H ⟨d, op, ty, p, af, none⟩ (KOp P hint n ops Q rest s d) (KPan Q s) := rfl
theorem awpList_guard (ops : Array Oper) (Q : Post) (d : Option Tmp) (op : Op) (ty : TypeId) (p : String) (af : Array Edge) (j : Nat) (b : Bool) (rest : List Oper) (s : Nat → AV) (H : AHeap) :
    awpList P hint n ops Q (⟨d, op, ty, p, af, some (j, b)⟩ :: rest) s H = ob (ayield ops s n j b) fun b' => aite b' (astep P hint s H ⟨d, op, ty, p, af, some (j, b)⟩ (KOp P hint n ops Q rest s d) (KPan Q s)) (awpList P hint n ops Q rest (aput n s d (.tup [])) H) := by
  simp only [awpList, awpOp]
  cases ayield ops s n j b with
  | none => rfl
  | some b' => cases b' <;> rfl
theorem asW_bool (w b : Bool) : asW w (.d (.v (.bool b))) = some (b == w) := rfl
theorem asW_tup (w : Bool) : asW w (.tup []) = some false := rfl
theorem ayield_eq (ops : Array Oper) (s : Nat → AV) (j : Nat) (w : Bool) : ayield ops s n j w = ((ops[j]?).bind (·.dst)).bind fun d => if d < n then asW w (s d) else none := by
  unfold ayield
  cases (ops[j]?).bind (·.dst) with
  | none => rfl
  | some d => rfl
end
section
variable (P : Program) (hint : Nat → Bool) (s : Nat → AV) (H : AHeap) (d : Option Tmp) (ty : TypeId) (p : String) (af : Array Edge) (g : Option (Nat × Bool)) (K : AV → AHeap → Prop) (KP : Value → AHeap → Prop)
def hintOf (hint : Nat → Bool) (d : Option Tmp) : Bool := match d with | some d => hint d | none => false
theorem st_move (x : Operand) : astep P hint s H ⟨d, .move x, ty, p, af, g⟩ K KP = K (aeval s x) H := rfl
theorem st_assign (x : Operand) : astep P hint s H ⟨d, .assign x, ty, p, af, g⟩ K KP = K (aeval s x) H := rfl
theorem st_pick (c x y : Operand) : astep P hint s H ⟨d, .pick c x y, ty, p, af, g⟩ K KP = ob (asB (aeval s c)) fun t => K (if t = true then aeval s x else aeval s y) H := by
  simp only [astep, aop]
  cases aeval s c <;> first | rfl | (rename_i u; cases u <;> first | rfl | (rename_i v; cases v <;> rfl))
theorem st_alloc (e : TypeId) : astep P hint s H ⟨d, .alloc e, ty, p, af, g⟩ K KP = ob (TI P e) fun z => TIok P e = true ∧ K (.ptr H.length 0 0 0) (H ++ [.box e z.2.1 0 1 (dcells z.1.cells)]) := by
  simp only [astep, aop]
  rcases h : TI P e with _ | ⟨z, k, b⟩
  · rfl
  · simp only [ob_some, TIok_eq h]
theorem st_box (e : TypeId) (x : Operand) : astep P hint s H ⟨d, .box e x, ty, p, af, g⟩ K KP = ob (cellsOf (aeval s x)) fun cs => 0 < cs.length ∧ K (.ptr H.length 0 0 0) (H ++ [.box e cs.length 0 1 cs]) := by
  simp only [astep, aop]
  cases cellsOf (aeval s x) <;> rfl
theorem st_build (t : TypeId) (ps : Array (Nat × Operand)) : astep P hint s H ⟨d, .build t ps, ty, p, af, g⟩ K KP = ob (TI P t) fun z => z.1.cells.all Value.oneCell' = true ∧ oalt (SP P t) (fun places => ob (afill (places.toArray[·]?) (dcells z.1.cells) (aparts s ps)) fun out => K (.agg out) H)
    (ob (AE P t) fun ne => ob (TI P ne.2) fun ze => ob (afill (fun i => some (i * ze.2.1, ze.2.1)) (dcells z.1.cells) (aparts s ps)) fun out => K (.agg out) H) := by
  simp only [astep, aop]
  rcases TI P t with _ | ⟨z, k, b⟩
  · rfl
  · simp only [ob_some]
    congr 1
    cases SP P t with
    | some pl => simp only [oalt_some]; cases afill (pl.toArray[·]?) (dcells z.cells) (aparts s ps) <;> rfl
    | none =>
      simp only [oalt_none]
      rcases AE P t with _ | ⟨m, e⟩
      · rfl
      · simp only [ob_some]
        rcases TI P e with _ | ⟨ze, ke, be⟩
        · rfl
        · simp only [ob_some]; cases afill (fun i => some (i * ke, ke)) (dcells z.cells) (aparts s ps) <;> rfl
theorem st_buildSlice (t : TypeId) (m : Nat) (ps : Array (Nat × Operand)) : astep P hint s H ⟨d, .buildSlice t (m + 1) ps, ty, p, af, g⟩ K KP = ob (SE P t) fun e => ob (TI P e) fun z =>
    (TIok P e = true ∧ (m + 1) * z.2.1 ≤ 16777216) ∧ ob (afill (fun i => some (i * z.2.1, z.2.1)) (zcells z.1 ((m + 1) * z.2.1)) (aparts s ps)) fun out => ob (toDs out) fun ds =>
      aite (hintOf hint d) (K (.sl H.length 0 0 (m + 1)) (H ++ [.arr e z.2.1 0 (chunk (m + 1) z.2.1 ds)])) (K (.d (.list true (chunk (m + 1) z.2.1 ds))) H) := by
  simp only [astep, aop]
  cases SE P t with
  | none => rfl
  | some e =>
    simp only [ob_some]
    rcases h : TI P e with _ | ⟨z, k, b⟩
    · rfl
    · simp only [ob_some, Nat.add_one_ne_zero, if_false]
      have hc : (z.cells.size = k ∧ z.cells.all Value.oneCell' = true ∧ (m + 1) * k ≤ 16777216 ∧ 0 < (m + 1) * k) = (TIok P e = true ∧ (m + 1) * k ≤ 16777216) := by
        rw [TIok_eq h]
        refine propext ⟨fun ⟨h1, h2, h3, h4⟩ => ⟨⟨Nat.pos_of_mul_pos_left h4, h1, h2⟩, h3⟩, fun ⟨⟨h0, h1, h2⟩, h3⟩ => ⟨h1, h2, h3, Nat.mul_pos (Nat.succ_pos m) h0⟩⟩
      rw [hc]
      congr 1
      cases afill (fun i => some (i * k, k)) (zcells z ((m + 1) * k)) (aparts s ps) with
      | none => rfl
      | some out =>
        simp only [ob_some]
        cases toDs out with
        | none => rfl
        | some ds => rfl
theorem st_buildSlice0 (t : TypeId) (ps : Array (Nat × Operand)) : astep P hint s H ⟨d, .buildSlice t 0 ps, ty, p, af, g⟩ K KP = ob (SE P t) fun e => ob (TI P e) fun _ => ps = #[] ∧ K .cap0 H := by
  simp only [astep, aop]
  cases SE P t with
  | none => rfl
  | some e =>
    simp only [ob_some]
    rcases TI P e with _ | ⟨z, k, b⟩ <;> simp [ob]
theorem st_load (t : TypeId) (x : Operand) : astep P hint s H ⟨d, .load t x, ty, p, af, g⟩ K KP = ob (agB P t) fun b => aite b (ob (TI P t) fun z => ob (aread H z.2.1 (aeval s x)) fun cs => K (.agg cs) H) (ob (as1 (aread H 1 (aeval s x))) fun c => K c H) := by
  simp only [astep, aop]
  cases agB P t with
  | none => rfl
  | some b =>
    cases b with
    | true =>
      simp only [ob_some, aite_true]
      rcases TI P t with _ | ⟨z, k, b⟩
      · rfl
      · simp only [ob_some]; cases aread H k (aeval s x) <;> rfl
    | false =>
      simp only [ob_some, aite_false]
      cases aread H 1 (aeval s x) with
      | none => rfl
      | some cs => rcases cs with _ | ⟨c, _ | ⟨c', l⟩⟩ <;> rfl
theorem st_store (t : TypeId) (x y : Operand) : astep P hint s H ⟨d, .store t x y, ty, p, af, g⟩ K KP = ob (TI P t) fun z => ob (cellsOf (aeval s y)) fun cs => cs.length = z.2.1 ∧ ob (awrite H cs (aeval s x)) fun H' => K .top H' := by
  simp only [astep, aop]
  rcases TI P t with _ | ⟨z, k, b⟩
  · rfl
  · simp only [ob_some]
    cases cellsOf (aeval s y) with
    | none => rfl
    | some cs => simp only [ob_some]; congr 1; cases awrite H cs (aeval s x) <;> rfl
theorem st_fieldAddr (t : TypeId) (x : Operand) (f : Nat) : astep P hint s H ⟨d, .fieldAddr t x f, ty, p, af, g⟩ K KP = ob (FO P t f) fun o => ob (TI P o.2) fun z => 0 < z.2.1 ∧ fresh H (aeval s x) = true ∧ ob (amove o.1 (aeval s x)) fun y => K y H := by
  simp only [astep, aop]
  rcases FO P t f with _ | ⟨off, ft⟩
  · rfl
  · simp only [ob_some]
    rcases TI P ft with _ | ⟨z, k, b⟩
    · rfl
    · simp only [ob_some]; congr 2; cases amove off (aeval s x) <;> rfl
theorem st_field (t : TypeId) (x : Operand) (f : Nat) : astep P hint s H ⟨d, .field t x f, ty, p, af, g⟩ K KP = ob (FO P t f) fun o => ob (TI P o.2) fun z => ob (asAg (aeval s x)) fun cs => ob (agB P o.2) fun b =>
    aite b (o.1 + z.2.1 ≤ cs.length ∧ K (.agg ((cs.drop o.1).take z.2.1)) H) (ob cs[o.1]? fun y => K y H) := by
  simp only [astep, aop]
  rcases FO P t f with _ | ⟨off, ft⟩
  · rfl
  · simp only [ob_some]
    rcases TI P ft with _ | ⟨z, k, b⟩
    · rfl
    · simp only [ob_some]
      cases aeval s x <;> first | rfl | skip
      rename_i cs
      simp only [asAg_agg, ob_some]
      rcases agB P ft with _ | _ | _
      · rfl
      · simp only [ob_some, aite_false]; cases cs[off]? <;> rfl
      · rfl
theorem st_indexAddr (t : TypeId) (x i : Operand) : astep P hint s H ⟨d, .indexAddr t x i, ty, p, af, g⟩ K KP = ob (asI (aeval s i)) fun i => oalt (SE P t) (fun e => ob (TI P e) fun z => ob (aelem H z.2.1 i (aeval s x)) fun y => K y H)
    (ob (AE P t) fun ne => ob (TI P ne.2) fun z => 0 ≤ i ∧ i < ne.1 ∧ fresh H (aeval s x) = true ∧ ob (amove (i.toNat * z.2.1) (aeval s x)) fun y => K y H) := by
  have main : ∀ n : Int, (match SE P t with
      | some e => (match TI P e with | some (_, k, _) => (match aelem H k n (aeval s x) with | some y => K y H | none => False) | none => False)
      | none => (match AE P t with
        | some (m, e) => (match TI P e with | some (_, k, _) => 0 ≤ n ∧ n < m ∧ fresh H (aeval s x) = true ∧ (match amove (n.toNat * k) (aeval s x) with | some y => K y H | none => False) | none => False)
        | none => False)) = oalt (SE P t) (fun e => ob (TI P e) fun z => ob (aelem H z.2.1 n (aeval s x)) fun y => K y H)
    (ob (AE P t) fun ne => ob (TI P ne.2) fun z => 0 ≤ n ∧ n < ne.1 ∧ fresh H (aeval s x) = true ∧ ob (amove (n.toNat * z.2.1) (aeval s x)) fun y => K y H) := by
    intro n
    cases SE P t with
    | some e =>
      simp only [oalt_some]
      rcases TI P e with _ | ⟨z, k, b⟩
      · rfl
      · simp only [ob_some]; cases aelem H k n (aeval s x) <;> rfl
    | none =>
      simp only [oalt_none]
      rcases AE P t with _ | ⟨m, e⟩
      · rfl
      · simp only [ob_some]
        rcases TI P e with _ | ⟨z, k, b⟩
        · rfl
        · simp only [ob_some]; congr 3; cases amove (n.toNat * k) (aeval s x) <;> rfl
  simp only [astep, aop]
  cases aeval s i <;> first | rfl | skip
  rename_i u
  cases u <;> first | rfl | skip
  rename_i v
  cases v <;> first | rfl | exact main _
def ob2 {α β : Type} (x : Option α) (y : Option β) (F : α → β → Prop) (L : Prop) : Prop := match x, y with | some a, some b => F a b | _, _ => L
theorem ob2_some {α β : Type} (a : α) (b : β) (F : α → β → Prop) (L : Prop) : ob2 (some a) (some b) F L = F a b := rfl
theorem ob2_noneL {α β : Type} (y : Option β) (F : α → β → Prop) (L : Prop) : ob2 none y F L = L := rfl
theorem ob2_noneR {α β : Type} (x : Option α) (F : α → β → Prop) (L : Prop) : ob2 x none F L = L := by cases x <;> rfl
theorem ob2_congr {α β : Type} {x x' : Option α} {y y' : Option β} {F : α → β → Prop} {L : Prop} (g : nf x = x') (h : nf y = y') : ob2 x y F L = ob2 x' y' F L := by rw [← g, ← h]; rfl
attribute [go_sem] ob2_some ob2_noneL ob2_noneR
theorem st_bin (op : BinOp) (t : TypeId) (x y : Operand) (t' : TypeId) : astep P hint s H ⟨d, .binOp op t x y t', ty, p, af, g⟩ K KP = ob2 (closed (aeval s x)) (closed (aeval s y)) (fun u v => binK P op t u v (KVal K H)) (nilCmp P H op t (aeval s x) (aeval s y) = true ∧ K (.d (.v (.bool (isNeq op)))) H) := by
  simp only [astep, aop]
  cases closed (aeval s x) with
  | none => rfl
  | some u => cases closed (aeval s y) <;> rfl
theorem st_un (op : UnOp) (t : TypeId) (x : Operand) : astep P hint s H ⟨d, .unOp op t x, ty, p, af, g⟩ K KP = ob (closed (aeval s x)) fun u => unK op u (KVal K H) := by
  simp only [astep, aop]
  cases closed (aeval s x) <;> rfl
def asLi : AV → Option (List (List D))
  | .d (.list _ es) => some es
  | _ => none
theorem asLi_list (nn : Bool) (es : List (List D)) : asLi (.d (.list nn es)) = some es := rfl
theorem st_convert (a b : TypeId) (x : Operand) : astep P hint s H ⟨d, .convert a b x, ty, p, af, g⟩ K KP = oalt (SE P a) (fun e => UK P e = some .u8 ∧ P.underlying b = some .string ∧ ob (asLi (aeval s x)) fun es => ob (asBytes es) fun ns => K (.d (.v (.string (pushAll ns)))) H)
    (ob (asIn (closed (aeval s x))) fun n => ob (UK P a) fun _ => ob (UK P b) fun k => K (.d (.v (.int k (k.wrap n)))) H) := by
  have main : ∀ n : Int, (match UK P a, UK P b with | some _, some k => K (.d (.v (.int k (k.wrap n)))) H | _, _ => False) = ob (UK P a) fun _ => ob (UK P b) fun k => K (.d (.v (.int k (k.wrap n)))) H := by
    intro n
    cases UK P a with
    | none => rfl
    | some _ => simp only [ob_some]; cases UK P b <;> rfl
  simp only [astep, aop]
  cases SE P a with
  | some e =>
    simp only [oalt_some]
    congr 2
    cases aeval s x <;> first | rfl | (rename_i u; cases u <;> first | rfl | (rename_i es; simp only [asLi_list, ob_some]; cases asBytes es <;> rfl))
  | none =>
    simp only [oalt_none]
    cases closed (aeval s x) with
    | none => rfl
    | some v => cases v <;> first | rfl | exact main _
theorem st_extract (x : Operand) (i : Nat) : astep P hint s H ⟨d, .extract x i, ty, p, af, g⟩ K KP = ob (asT (aeval s x)) fun cs => ob cs[i]? fun c => K c H := by
  simp only [astep, aop]
  cases aeval s x <;> first | rfl | skip
  rename_i cs
  simp only [asT_tup, ob_some]
  cases cs[i]? <;> rfl
theorem st_makeFunc (f : FuncId) (x y : Array Operand) : astep P hint s H ⟨d, .makeFunc (.func f) x y, ty, p, af, g⟩ K KP = (x = #[] ∧ K (.fn f (y.toList.map (aeval s))) H) := rfl
theorem st_nilCheck (x : Operand) : astep P hint s H ⟨d, .nilCheck x, ty, p, af, g⟩ K KP = (nonNil H (aeval s x) = true ∧ K (aeval s x) H) := rfl
theorem st_makeInterface (t : TypeId) (x : Operand) : astep P hint s H ⟨d, .makeInterface t x, ty, p, af, g⟩ K KP = ob (closed (aeval s x)) fun u => isIface P t = false ∧ K (.d (.v (.iface t u))) H := by
  simp only [astep, aop]
  cases closed (aeval s x) <;> rfl
def asMp : AV → Option Nat
  | .mp id => some id
  | _ => none
theorem asMp_mp (id : Nat) : asMp (.mp id) = some id := rfl
def asMo : Option AObj → Option (IntKind × List (Int × AV))
  | some (.mp kk es) => some (kk, es)
  | _ => none
theorem asMo_mp (kk : IntKind) (es : List (Int × AV)) : asMo (some (.mp kk es)) = some (kk, es) := rfl
def asIk : Option Value → Option (IntKind × Int)
  | some (.int k i) => some (k, i)
  | _ => none
theorem asIk_int (k : IntKind) (i : Int) : asIk (some (.int k i)) = some (k, i) := rfl
attribute [go_sem] asMp_mp asMo_mp asIk_int
theorem st_len (x : Operand) (t : TypeId) (ts : Array TypeId) (h : ts.toList = [t]) : astep P hint s H ⟨d, .call ⟨.builtin .len, #[x], ts⟩, ty, p, af, g⟩ K KP = oalt (SE P t) (fun _ => ob (alen H (aeval s x)) fun n => K (.d (.v (.int .i64 n))) H)
    (oalt (MT P t) (fun m => ob (asMp (aeval s x)) fun id => ob (asMo H[id]?) fun o => o.1 = m.1 ∧ K (.d (.v (.int .i64 o.2.length))) H)
    (P.underlying t = some .string ∧ ob (asSt (closed (aeval s x))) fun b => K (.d (.v (.int .i64 b.size))) H)) := by
  simp only [astep, abuiltin, h]
  cases SE P t with
  | some e => simp only [oalt_some]; cases alen H (aeval s x) <;> rfl
  | none =>
    simp only [oalt_none]
    rcases MT P t with _ | ⟨kk, kt, e⟩
    · simp only [oalt_none]
      congr 1
      cases closed (aeval s x) with
      | none => rfl
      | some v => cases v <;> rfl
    · simp only [oalt_some]
      cases aeval s x with
      | mp id =>
        simp only [asMp_mp, ob_some]
        rcases H[id]? with _ | o
        · rfl
        · cases o <;> rfl
      | _ => rfl
theorem st_len1 (x : Operand) (t : TypeId) : astep P hint s H ⟨d, .call ⟨.builtin .len, #[x], #[t]⟩, ty, p, af, g⟩ K KP = oalt (SE P t) (fun _ => ob (alen H (aeval s x)) fun n => K (.d (.v (.int .i64 n))) H)
    (oalt (MT P t) (fun m => ob (asMp (aeval s x)) fun id => ob (asMo H[id]?) fun o => o.1 = m.1 ∧ K (.d (.v (.int .i64 o.2.length))) H)
    (P.underlying t = some .string ∧ ob (asSt (closed (aeval s x))) fun b => K (.d (.v (.int .i64 b.size))) H)) := st_len P hint s H d ty p af g K KP x t #[t] rfl
theorem st_min (x : Operand) (xs : List Operand) (ts : Array TypeId) : astep P hint s H ⟨d, .call ⟨.builtin .min, ⟨x :: xs⟩, ts⟩, ty, p, af, g⟩ K KP = ob (asIk (closed (aeval s x))) fun n => ob (intArgs s n.1 xs) fun ns => K (.d (.v (.int n.1 (ns.foldl min n.2)))) H := by
  simp only [astep, abuiltin]
  cases closed (aeval s x) with
  | none => rfl
  | some v => cases v <;> first | rfl | (rename_i k n; simp only [asIk_int, ob_some]; cases intArgs s k xs <;> rfl)
theorem st_max (x : Operand) (xs : List Operand) (ts : Array TypeId) : astep P hint s H ⟨d, .call ⟨.builtin .max, ⟨x :: xs⟩, ts⟩, ty, p, af, g⟩ K KP = ob (asIk (closed (aeval s x))) fun n => ob (intArgs s n.1 xs) fun ns => K (.d (.v (.int n.1 (ns.foldl max n.2)))) H := by
  simp only [astep, abuiltin]
  cases closed (aeval s x) with
  | none => rfl
  | some v => cases v <;> first | rfl | (rename_i k n; simp only [asIk_int, ob_some]; cases intArgs s k xs <;> rfl)
theorem intArgs_nil (k : IntKind) : intArgs s k [] = some [] := rfl
theorem intArgs_cons (k : IntKind) (x : Operand) (xs : List Operand) : intArgs s k (x :: xs) = (asIk (closed (aeval s x))).bind fun n => (intArgs s k xs).bind fun ns => if n.1 = k then some (n.2 :: ns) else none := by
  show (match closed (aeval s x), intArgs s k xs with | some (.int k' n), some ns => if k' = k then some (n :: ns) else none | _, _ => none) = _
  cases closed (aeval s x) with
  | none => rfl
  | some v => cases v <;> first | rfl | (cases intArgs s k xs <;> rfl)
theorem st_slice (t : TypeId) (x : Operand) (lo hi : Option Operand) : astep P hint s H ⟨d, .slice t x lo hi none, ty, p, af, g⟩ K KP = oalt (SE P t) (fun e => ob (TI P e) fun z => aslice H z.2.1 (sliceLo s lo) (fun n => sliceHi s n hi) K (aeval s x))
    (P.underlying t = some .string ∧ ob (asSt (closed (aeval s x))) fun b => ob (sliceLo s lo) fun l => ob (sliceHi s b.size hi) fun h => 0 ≤ l ∧ l ≤ h ∧ h ≤ b.size ∧ K (.d (.v (.string (b.extract l.toNat h.toNat)))) H) := by
  simp only [astep, aop]
  cases SE P t with
  | some e =>
    simp only [oalt_some]
    rcases TI P e with _ | ⟨z, k, b⟩ <;> rfl
  | none =>
    simp only [oalt_none]
    congr 1
    cases closed (aeval s x) with
    | none => rfl
    | some v =>
      cases v <;> first | rfl | skip
      rename_i b
      simp only [asSt_string, ob_some]
      cases sliceLo s lo with
      | none => rfl
      | some l => simp only [ob_some]; cases sliceHi s b.size hi <;> rfl
theorem aslice_list (k : Nat) (lo : Option Int) (hi : Nat → Option Int) (K : AV → AHeap → Prop) (nn : Bool) (es : List (List D)) : aslice H k lo hi K (.d (.list nn es)) = ((∀ c ∈ es, c.length = k) ∧ ob lo fun l => ob (hi es.length) fun h => 0 ≤ l ∧ l ≤ h ∧ h ≤ es.length ∧ K (.d (.list false ((es.take h.toNat).drop l.toNat))) H) := by
  simp only [aslice]
  congr 1
  cases lo with
  | none => rfl
  | some l => simp only [ob_some]; cases hi es.length <;> rfl
theorem aslice_sl (k : Nat) (lo : Option Int) (hi : Nat → Option Int) (K : AV → AHeap → Prop) (id ver off len : Nat) : aslice H k lo hi K (.sl id ver off len) = (ob H[id]? fun o => ob lo fun l => ob (hi len) fun h => (o.ver = ver ∧ o.k = k) ∧ 0 ≤ l ∧ l ≤ h ∧ h ≤ len ∧ (l = 0 ∨ l < h) ∧ K (.sl id ver (off + l.toNat) (h.toNat - l.toNat)) H) := by
  simp only [aslice]
  cases H[id]? with
  | none => rfl
  | some o =>
    cases lo with
    | none => rfl
    | some l => simp only [ob_some]; cases hi len <;> rfl
theorem st_slice3 (t : TypeId) (x : Operand) (lo : Option Operand) (hi mx : Operand) : astep P hint s H ⟨d, .slice t x lo (some hi) (some mx), ty, p, af, g⟩ K KP = ob (SE P t) fun e => ob (TI P e) fun z => aslice3 H z.2.1 (sliceLo s lo) (sliceLo s (some hi)) (sliceLo s (some mx)) K (aeval s x) := by
  simp only [astep, aop]
  cases SE P t with
  | some e =>
    simp only [ob_some]
    rcases TI P e with _ | ⟨z, k, b⟩ <;> rfl
  | none => rfl
theorem aslice3_list (k : Nat) (lo hi mx : Option Int) (K : AV → AHeap → Prop) (nn : Bool) (es : List (List D)) : aslice3 H k lo hi mx K (.d (.list nn es)) = ((∀ c ∈ es, c.length = k) ∧ ob lo fun l => ob hi fun h => ob mx fun m => 0 ≤ l ∧ l ≤ h ∧ h ≤ m ∧ m ≤ es.length ∧ K (.d (.list false ((es.take h.toNat).drop l.toNat))) H) := by
  cases lo <;> cases hi <;> cases mx <;> rfl
theorem st_typeAssert (x : Operand) (xT t : TypeId) (ok : Bool) : astep P hint s H ⟨d, .typeAssert x xT t ok, ty, p, af, g⟩ K KP = aassert P t ok H K (closed (aeval s x)) := rfl
theorem aassert_iface (t : TypeId) (ok : Bool) (K : AV → AHeap → Prop) (t' : TypeId) (u : Value) : aassert P t ok H K (some (.iface t' u)) = (isIface P t = false ∧ if t' = t then K (if ok = true then .tup [aconst u, .d (.v (.bool true))] else aconst u) H else ok = true ∧ ob (TI P t) fun z => K (.tup [aconst z.1, .d (.v (.bool false))]) H) := by
  simp only [aassert, assertR]
  by_cases h : t' = t
  · simp only [h, if_true]
  · simp only [h, if_false, assertNo]
    cases ok
    · simp
    · cases TI P t <;> simp [ob]
theorem aassert_nil (t : TypeId) (ok : Bool) (K : AV → AHeap → Prop) : aassert P t ok H K (some .nilIface) = (isIface P t = false ∧ ok = true ∧ ob (TI P t) fun z => K (.tup [aconst z.1, .d (.v (.bool false))]) H) := by
  simp only [aassert, assertR, assertNo]
  cases ok
  · simp
  · cases TI P t <;> simp [ob]
theorem st_clear (x : Operand) (t : TypeId) : astep P hint s H ⟨d, .call ⟨.builtin .clear, #[x], #[t]⟩, ty, p, af, g⟩ K KP = ob (SE P t) fun e => ob (TI P e) fun z => (z.1.cells.size = z.2.1 ∧ z.1.cells.all Value.oneCell' = true) ∧ (match aeval s x with
        | .sl id ver off len => (match H[id]? with
          | some (.arr e' k' ver' es) => (e' = e ∧ k' = z.2.1 ∧ ver' = ver) ∧ K (.tup []) (H.set id (.arr e z.2.1 ver (setRows es off (zrows z.1 len))))
          | _ => False)
        | _ => False) := by
  simp only [astep, abuiltin]
  cases SE P t with
  | none => rfl
  | some e =>
    simp only [ob_some]
    rcases TI P e with _ | ⟨z, k, b⟩ <;> rfl
theorem sliceLo_none : sliceLo s none = some 0 := rfl
theorem sliceLo_some (x : Operand) : sliceLo s (some x) = asIn (closed (aeval s x)) := by
  simp only [sliceLo]
  cases closed (aeval s x) with
  | none => rfl
  | some v => cases v <;> rfl
theorem sliceHi_none (n : Nat) : sliceHi s n none = some (n : Int) := rfl
theorem sliceHi_some (n : Nat) (x : Operand) : sliceHi s n (some x) = asIn (closed (aeval s x)) := by
  simp only [sliceHi]
  cases closed (aeval s x) with
  | none => rfl
  | some v => cases v <;> rfl
def asSi : Option Value → Option (ByteArray)
  | some (.string b) => some b
  | _ => none
theorem st_index (t : TypeId) (x ix : Operand) : astep P hint s H ⟨d, .index t x ix, ty, p, af, g⟩ K KP = (P.underlying t = some .string ∧ ob (asSt (closed (aeval s x))) fun b => ob (asIn (closed (aeval s ix))) fun i => 0 ≤ i ∧ ob b[i.toNat]? fun u => K (.d (.v (.int .u8 u.toNat))) H) := by
  simp only [astep, aop]
  congr 1
  cases closed (aeval s x) with
  | none => rfl
  | some v =>
    cases v <;> first | rfl | skip
    rename_i b
    cases closed (aeval s ix) with
    | none => rfl
    | some v =>
      cases v <;> first | rfl | skip
      simp only [asSt_string, ob_some, asIn_int]
      rename_i i
      congr 1
      cases b[i.toNat]? <;> rfl
theorem st_makeMap (t : TypeId) : astep P hint s H ⟨d, .makeMap t none, ty, p, af, g⟩ K KP = ob (MT P t) fun m => K (.mp H.length) (H ++ [.mp m.1 []]) := by
  simp only [astep, aop]
  rcases MT P t with _ | ⟨kk, kt, e⟩ <;> rfl
def asIt : Option AObj → Option (Nat × Nat × List Nat)
  | some (.iter m since seen) => some (m, since, seen)
  | _ => none
theorem asIt_iter (m since : Nat) (seen : List Nat) : asIt (some (.iter m since seen)) = some (m, since, seen) := rfl
def asP0 : AV → Option Nat
  | .ptr id 0 0 0 => some id
  | _ => none
theorem asP0_ptr (id : Nat) : asP0 (.ptr id 0 0 0) = some id := rfl
theorem st_range (t : TypeId) (x : Operand) : astep P hint s H ⟨d, .range t x, ty, p, af, g⟩ K KP = ob (MT P t) fun m => ob (asMp (aeval s x)) fun id => ob (asMo H[id]?) fun o => o.1 = m.1 ∧ K (.ptr H.length 0 0 0) (H ++ [.iter id o.2.length []]) := by
  simp only [astep, aop]
  rcases MT P t with _ | ⟨kk, kt, e⟩
  · rfl
  · simp only [ob_some]
    cases aeval s x with
    | mp id =>
      simp only [asMp_mp, ob_some]
      rcases H[id]? with _ | o
      · rfl
      · cases o <;> rfl
    | _ => rfl
theorem st_entry (x : Operand) : astep P hint s H ⟨d, .entry x, ty, p, af, g⟩ K KP = ob (asP0 (aeval s x)) fun id => ob (asIt H[id]?) fun it => ob (asMo H[it.1]?) fun o => ob it.2.2.getLast? fun j => ob o.2[j]? fun e => it.2.1 = o.2.length ∧ K (.tup [.d (.v (.int o.1 e.1)), e.2]) H := by
  simp only [astep, aop]
  generalize aeval s x = v
  cases v with
  | ptr id ver i j =>
    cases ver with
    | succ _ => rfl
    | zero =>
      cases i with
      | succ _ => rfl
      | zero =>
        cases j with
        | succ _ => rfl
        | zero =>
            simp only [asP0_ptr, ob_some]
            rcases H[id]? with _ | o
            · rfl
            · cases o with
              | iter m since seen =>
                simp only [asIt_iter, ob_some]
                rcases H[m]? with _ | o
                · rfl
                · cases o with
                  | mp kk es =>
                    simp only [asMo_mp, ob_some]
                    rcases seen.getLast? with _ | j
                    · rfl
                    · simp only [ob_some]
                      rcases es[j]? with _ | e <;> rfl
                  | _ => rfl
              | _ => rfl
  | _ => rfl
theorem st_next (x : Operand) : astep P hint s H ⟨d, .next x false, ty, p, af, g⟩ K KP = ob (asP0 (aeval s x)) fun id => ob (asIt H[id]?) fun it => ob (asMo H[it.1]?) fun o => it.2.1 = o.2.length ∧ ((∀ j, j < o.2.length → j ∈ it.2.2) → K (.tup [.d (.v (.bool false))]) H) ∧
    ∀ j e, o.2[j]? = some e → j ∉ it.2.2 → K (.tup [.d (.v (.bool true)), .d (.v (.int o.1 e.1)), e.2]) (H.set id (.iter it.1 it.2.1 (it.2.2 ++ [j]))) := by
  simp only [astep, aop]
  generalize aeval s x = v
  cases v with
  | ptr id ver i j =>
    cases ver with
    | succ _ => rfl
    | zero =>
      cases i with
      | succ _ => rfl
      | zero =>
        cases j with
        | succ _ => rfl
        | zero =>
            simp only [asP0_ptr, ob_some]
            rcases H[id]? with _ | o
            · rfl
            · cases o with
              | iter m since seen =>
                simp only [asIt_iter, ob_some]
                rcases H[m]? with _ | o
                · rfl
                · cases o with
                  | mp kk es => simp only [asMo_mp, ob_some]
                  | _ => rfl
              | _ => rfl
  | _ => rfl
theorem st_lookup (t : TypeId) (x ix : Operand) (ok : Bool) : astep P hint s H ⟨d, .lookup t x ix ok, ty, p, af, g⟩ K KP = ob (MT P t) fun m => ob (TI P m.2.2) fun z => ob (asMp (aeval s x)) fun id => ob (asMo H[id]?) fun o => ob (asIk (closed (aeval s ix))) fun n =>
    (o.1 = m.1 ∧ n.1 = m.1) ∧ K (if ok then .tup [(mpGet n.2 o.2).getD (aconst z.1), .d (.v (.bool (mpGet n.2 o.2).isSome))] else (mpGet n.2 o.2).getD (aconst z.1)) H := by
  simp only [astep, aop]
  rcases MT P t with _ | ⟨kk, kt, e⟩
  · rfl
  · simp only [ob_some]
    rcases TI P e with _ | ⟨z, k, b⟩
    · rfl
    · simp only [ob_some]
      cases aeval s x with
      | mp id =>
        simp only [asMp_mp, ob_some]
        rcases H[id]? with _ | o
        · rfl
        · cases o with
          | mp kk es =>
            simp only [asMo_mp, ob_some]
            rcases closed (aeval s ix) with _ | v
            · rfl
            · cases v <;> rfl
          | _ => rfl
      | _ => rfl
theorem st_mapUpdate (t : TypeId) (x ix y : Operand) : astep P hint s H ⟨d, .mapUpdate t x ix y, ty, p, af, g⟩ K KP = ob (MT P t) fun m => ob (asMp (aeval s x)) fun id => ob (asMo H[id]?) fun o => ob (asIk (closed (aeval s ix))) fun n =>
    (o.1 = m.1 ∧ n.1 = m.1) ∧ K .top (H.set id (.mp m.1 (mpPut n.2 (aeval s y) o.2))) := by
  simp only [astep, aop]
  rcases MT P t with _ | ⟨kk, kt, e⟩
  · rfl
  · simp only [ob_some]
    cases aeval s x with
    | mp id =>
      simp only [asMp_mp, ob_some]
      rcases H[id]? with _ | o
      · rfl
      · cases o with
        | mp kk es =>
          simp only [asMo_mp, ob_some]
          rcases closed (aeval s ix) with _ | v
          · rfl
          · cases v <;> rfl
        | _ => rfl
    | _ => rfl
theorem st_insert (t : TypeId) (x ix y : Operand) : astep P hint s H ⟨d, .insert t x ix y, ty, p, af, g⟩ K KP = astep P hint s H ⟨d, .mapUpdate t x ix y, ty, p, af, g⟩ K KP := by simp only [astep, aop]
theorem un_not (b : Bool) (K : Value → Prop) : unK .not (.bool b) K = K (.bool !b) := rfl
theorem un_neg (k : IntKind) (n : Int) (K : Value → Prop) : unK .neg (.int k n) K = K (.int k (k.wrap (0 - n))) := rfl
def notI (k : IntKind) (n : Int) : Int := (BitVec.ofInt k.bits (if k.signed then -1 else k.max) ^^^ BitVec.ofInt k.bits n).toNat
theorem un_xor (k : IntKind) (n : Int) (K : Value → Prop) : unK .xor (.int k n) K = K (.int k (k.wrap (notI k n))) := rfl
attribute [go_sem] un_not un_neg un_xor Option.getD_some Option.getD_none Option.isSome_some Option.isSome_none
def shlI (k : IntKind) (m n : Int) : Int := m * 2 ^ (min n.toNat k.bits)
def shrI (k : IntKind) (m n : Int) : Int := m.fdiv (2 ^ (min n.toNat k.bits))
def andI (k : IntKind) (m n : Int) : Int := (BitVec.ofInt k.bits m &&& BitVec.ofInt k.bits n).toNat
def orI (k : IntKind) (m n : Int) : Int := (BitVec.ofInt k.bits m ||| BitVec.ofInt k.bits n).toNat
def xorI (k : IntKind) (m n : Int) : Int := (BitVec.ofInt k.bits m ^^^ BitVec.ofInt k.bits n).toNat
def andNotI (k : IntKind) (m n : Int) : Int := (BitVec.ofInt k.bits m &&& ~~~BitVec.ofInt k.bits n).toNat
theorem bi_shl (P : Program) (t : TypeId) (k k' : IntKind) (m n : Int) (K : Value → Prop) : binK P .shl t (.int k m) (.int k' n) K = (0 ≤ n ∧ K (.int k (k.wrap (shlI k m n)))) := rfl
theorem bi_shr (P : Program) (t : TypeId) (k k' : IntKind) (m n : Int) (K : Value → Prop) : binK P .shr t (.int k m) (.int k' n) K = (0 ≤ n ∧ K (.int k (shrI k m n))) := rfl
theorem bi_add (P : Program) (t : TypeId) (k k' : IntKind) (m n : Int) (K : Value → Prop) : binK P .add t (.int k m) (.int k' n) K = (k = k' ∧ K (.int k (k.wrap (m + n)))) := rfl
theorem bi_sub (P : Program) (t : TypeId) (k k' : IntKind) (m n : Int) (K : Value → Prop) : binK P .sub t (.int k m) (.int k' n) K = (k = k' ∧ K (.int k (k.wrap (m - n)))) := rfl
theorem bi_mul (P : Program) (t : TypeId) (k k' : IntKind) (m n : Int) (K : Value → Prop) : binK P .mul t (.int k m) (.int k' n) K = (k = k' ∧ K (.int k (k.wrap (m * n)))) := rfl
theorem bi_quo (P : Program) (t : TypeId) (k k' : IntKind) (m n : Int) (K : Value → Prop) : binK P .quo t (.int k m) (.int k' n) K = (k = k' ∧ n ≠ 0 ∧ K (.int k (k.wrap (m.tdiv n)))) := rfl
theorem bi_rem (P : Program) (t : TypeId) (k k' : IntKind) (m n : Int) (K : Value → Prop) : binK P .rem t (.int k m) (.int k' n) K = (k = k' ∧ n ≠ 0 ∧ K (.int k (m.tmod n))) := rfl
theorem bi_and (P : Program) (t : TypeId) (k k' : IntKind) (m n : Int) (K : Value → Prop) : binK P .and t (.int k m) (.int k' n) K = (k = k' ∧ K (.int k (k.wrap (andI k m n)))) := rfl
theorem bi_or (P : Program) (t : TypeId) (k k' : IntKind) (m n : Int) (K : Value → Prop) : binK P .or t (.int k m) (.int k' n) K = (k = k' ∧ K (.int k (k.wrap (orI k m n)))) := rfl
theorem bi_xor (P : Program) (t : TypeId) (k k' : IntKind) (m n : Int) (K : Value → Prop) : binK P .xor t (.int k m) (.int k' n) K = (k = k' ∧ K (.int k (k.wrap (xorI k m n)))) := rfl
theorem bi_andNot (P : Program) (t : TypeId) (k k' : IntKind) (m n : Int) (K : Value → Prop) : binK P .andNot t (.int k m) (.int k' n) K = (k = k' ∧ K (.int k (k.wrap (andNotI k m n)))) := rfl
theorem bi_eql (P : Program) (t : TypeId) (k k' : IntKind) (m n : Int) (K : Value → Prop) : binK P .eql t (.int k m) (.int k' n) K = (k = k' ∧ K (.bool (m == n))) := rfl
theorem bi_neq (P : Program) (t : TypeId) (k k' : IntKind) (m n : Int) (K : Value → Prop) : binK P .neq t (.int k m) (.int k' n) K = (k = k' ∧ K (.bool (m != n))) := rfl
theorem bi_lss (P : Program) (t : TypeId) (k k' : IntKind) (m n : Int) (K : Value → Prop) : binK P .lss t (.int k m) (.int k' n) K = (k = k' ∧ K (.bool (decide (m < n)))) := rfl
theorem bi_leq (P : Program) (t : TypeId) (k k' : IntKind) (m n : Int) (K : Value → Prop) : binK P .leq t (.int k m) (.int k' n) K = (k = k' ∧ K (.bool (decide (m ≤ n)))) := rfl
theorem bi_gtr (P : Program) (t : TypeId) (k k' : IntKind) (m n : Int) (K : Value → Prop) : binK P .gtr t (.int k m) (.int k' n) K = (k = k' ∧ K (.bool (decide (m > n)))) := rfl
theorem bi_geq (P : Program) (t : TypeId) (k k' : IntKind) (m n : Int) (K : Value → Prop) : binK P .geq t (.int k m) (.int k' n) K = (k = k' ∧ K (.bool (decide (m ≥ n)))) := rfl
theorem bs_eql (P : Program) (t : TypeId) (m n : ByteArray) (K : Value → Prop) : binK P .eql t (.string m) (.string n) K = K (.bool (m.toList == n.toList)) := rfl
theorem bs_neq (P : Program) (t : TypeId) (m n : ByteArray) (K : Value → Prop) : binK P .neq t (.string m) (.string n) K = K (.bool (!(m.toList == n.toList))) := rfl
theorem bs_lss (P : Program) (t : TypeId) (m n : ByteArray) (K : Value → Prop) : binK P .lss t (.string m) (.string n) K = K (.bool (Op.bytesLess m.toList n.toList)) := rfl
theorem bs_leq (P : Program) (t : TypeId) (m n : ByteArray) (K : Value → Prop) : binK P .leq t (.string m) (.string n) K = K (.bool (Op.bytesLess m.toList n.toList || m.toList == n.toList)) := rfl
theorem bs_gtr (P : Program) (t : TypeId) (m n : ByteArray) (K : Value → Prop) : binK P .gtr t (.string m) (.string n) K = K (.bool (!(Op.bytesLess m.toList n.toList || m.toList == n.toList))) := rfl
theorem bs_geq (P : Program) (t : TypeId) (m n : ByteArray) (K : Value → Prop) : binK P .geq t (.string m) (.string n) K = K (.bool (!Op.bytesLess m.toList n.toList)) := rfl
attribute [go_sem] bi_shl bi_shr bi_add bi_sub bi_mul bi_quo bi_rem bi_and bi_or bi_xor bi_andNot bi_eql bi_neq bi_lss bi_leq bi_gtr bi_geq bs_eql bs_neq bs_lss bs_leq bs_gtr bs_geq
/-- append: where to. -/
def appTo (H : AHeap) (e : TypeId) (k b : Nat) (news : List (List D)) (K : AV → AHeap → Prop) : AV → Prop
  | .sl id ver 0 len => ob H[id]? fun o => match o with
    | .arr e' k' ver' es => (e' = e ∧ k' = k ∧ ver' = ver ∧ es.length = len) ∧ (es.length + news.length) * b ≤ 140737488355328 ∧ es.length + news.length ≤ 9223372036854775807 ∧
        K (.sl id (ver + 1) 0 (es.length + news.length)) (H.set id (.arr e k (ver + 1) (es ++ news)))
    | _ => False
  | x => isNone x = true ∧ news.length * b ≤ 140737488355328 ∧ news.length ≤ 9223372036854775807 ∧ K (.sl H.length 1 0 news.length) (H ++ [.arr e k 1 news])
theorem appTo_sl (H : AHeap) (e : TypeId) (k b : Nat) (news : List (List D)) (K : AV → AHeap → Prop) (id ver len : Nat) (e' : TypeId) (k' ver' : Nat) (es : List (List D)) (h : H[id]? = some (.arr e' k' ver' es)) :
    appTo H e k b news K (.sl id ver 0 len) = ((e' = e ∧ k' = k ∧ ver' = ver ∧ es.length = len) ∧ (es.length + news.length) * b ≤ 140737488355328 ∧ es.length + news.length ≤ 9223372036854775807 ∧
        K (.sl id (ver + 1) 0 (es.length + news.length)) (H.set id (.arr e k (ver + 1) (es ++ news)))) := by
  simp only [appTo, h, ob_some]
theorem appTo_snoc (H : AHeap) (e : TypeId) (k b : Nat) (news : List (List D)) (K : AV → AHeap → Prop) (ver len : Nat) (e' : TypeId) (k' ver' : Nat) (es : List (List D)) :
    appTo (H ++ [.arr e' k' ver' es]) e k b news K (.sl H.length ver 0 len) = ((e' = e ∧ k' = k ∧ ver' = ver ∧ es.length = len) ∧ (es.length + news.length) * b ≤ 140737488355328 ∧ es.length + news.length ≤ 9223372036854775807 ∧
        K (.sl H.length (ver + 1) 0 (es.length + news.length)) (H ++ [.arr e k (ver + 1) (es ++ news)])) := by
  rw [appTo_sl _ _ _ _ _ _ _ _ _ e' k' ver' es (by simp)]
  simp
theorem appTo_nil (H : AHeap) (e : TypeId) (k b : Nat) (news : List (List D)) (K : AV → AHeap → Prop) : appTo H e k b news K (.d (.v (.slice none 0 0))) = (news.length * b ≤ 140737488355328 ∧ news.length ≤ 9223372036854775807 ∧ K (.sl H.length 1 0 news.length) (H ++ [.arr e k 1 news])) := by
  simp [appTo, isNone]
theorem appTo_cap0 (H : AHeap) (e : TypeId) (k b : Nat) (news : List (List D)) (K : AV → AHeap → Prop) : appTo H e k b news K .cap0 = (news.length * b ≤ 140737488355328 ∧ news.length ≤ 9223372036854775807 ∧ K (.sl H.length 1 0 news.length) (H ++ [.arr e k 1 news])) := by
  simp [appTo, isNone]
theorem st_append (x y : Operand) (t t' : TypeId) : astep P hint s H ⟨d, .call ⟨.builtin .append, #[x, y], #[t, t']⟩, ty, p, af, g⟩ K KP = ob (SE P t) fun e => ob (TI P e) fun z => (z.1.cells.size = z.2.1 ∧ 0 < z.2.1) ∧ ob (asrc2 P t t' z.2.1 H (aeval s y)) fun news =>
    (∀ c ∈ news, c.length = z.2.1) ∧ appTo H e z.2.1 z.2.2 news K (aeval s x) := by
  simp only [astep, abuiltin]
  cases SE P t with
  | none => simp [ob]
  | some e =>
    simp only [ob_some]
    rcases TI P e with _ | ⟨z, k, b⟩
    · rfl
    · simp only [ob_some]
      congr 1
      cases asrc2 P t t' k H (aeval s y) with
      | none => rfl
      | some news =>
        simp only [ob_some]
        congr 1
        cases aeval s x with
        | sl id ver off len =>
          cases off with
          | zero =>
            simp only [appTo]
            cases H[id]? with
            | none => rfl
            | some ob => cases ob <;> rfl
          | succ off => rfl
        | _ => rfl
/-- A call: what is asked of it. -/
def KCall (P : Program) (f : FuncId) (args : List AV) (H : AHeap) (K : AV → AHeap → Prop) (KP : Value → AHeap → Prop) : Prop := ∃ res H', Does P f args H res H' ∧ (match res with | .ok r => K r H' | .panic v => KP v H')
theorem st_call (f : Operand) (xs : Array Operand) (ts : Array TypeId) : astep P hint s H ⟨d, .call ⟨.value f, xs, ts⟩, ty, p, af, g⟩ K KP = ob (asF (aeval s f)) fun fc => KCall P fc.1 (xs.toList.map (aeval s) ++ fc.2) H K KP := by
  simp only [astep]
  cases aeval s f <;> rfl
theorem st_panic (x : Operand) : astep P hint s H ⟨d, .panic x, ty, p, af, g⟩ K KP = (match closed (aeval s x) with | some (.iface t u) => KP (.iface t u) H | _ => False) := rfl
theorem KCall.ok {P : Program} {f : FuncId} {args : List AV} {H : AHeap} {K : AV → AHeap → Prop} {KP : Value → AHeap → Prop} {r : AV} {H' : AHeap} (h : Does P f args H (.ok r) H') (hk : K r H') : KCall P f args H K KP := ⟨_, _, h, hk⟩
theorem KCall.panic {P : Program} {f : FuncId} {args : List AV} {H : AHeap} {K : AV → AHeap → Prop} {KP : Value → AHeap → Prop} {v : Value} {H' : AHeap} (h : Does P f args H (.panic v) H') (hk : KP v H') : KCall P f args H K KP := ⟨_, _, h, hk⟩
end
attribute [go_sem] KOp_app KPan_app KSeq_normal KSeq_exit KSeq_ret KSeq_panic KBlock_normal KBlock_exit KBlock_ret KBlock_panic KLoop_normal KLoop_exit KLoop_ret KLoop_panic KVal_app
  awp_skip awp_label awp_scope awp_region awp_seq awp_block awp_exit awp_ret awpList_nil awpList_none awpList_guard
  st_range st_entry st_next asIt_iter asP0_ptr st_move st_assign st_pick st_alloc st_box st_build st_buildSlice st_buildSlice0 st_load st_store st_fieldAddr st_field st_indexAddr st_bin st_un st_convert asLi_list st_extract st_makeFunc st_nilCheck st_makeInterface st_panic st_len1 st_makeMap st_lookup st_mapUpdate st_slice aslice_list aslice_sl st_slice3 aslice3_list st_typeAssert aassert_iface aassert_nil st_clear sliceLo_none sliceLo_some sliceHi_none sliceHi_some st_index st_insert st_min st_max intArgs_nil intArgs_cons List.foldl_cons List.foldl_nil st_append st_call ayield_eq asW_bool asW_tup appTo_snoc appTo_nil appTo_cap0
  aput_at aput_no aeval_tmp aeval_const aeval_func aconst_int aconst_bool aconst_string aconst_slice aconst_pointer aconst_agg aconst_iface aconst_nilIface aconst_nilFunc ainit_at closed_v closed_list closed_ptr closed_sl closed_iptr closed_fn closed_mp closed_cap0 closed_agg closedAll
  cellsOf_d cellsOf_sl cellsOf_ptr cellsOf_agg cellsOf_fn cellsOf_cap0 cellsOf_mp alen_list alen_slice alen_cap0 alen_sl asrc_list aelem_list aread_iptr aread_ptr awrite_ptr amove_ptr amove_iptr fresh_ptr fresh_iptr toDs_nil toDs_cons toD_d afill_nil afill_cons get_snoc_self set_snoc_self app_get app_get0 app_set app_set0 List.set_cons_zero List.set_cons_succ app_len1 app_len2 app_len3 app_len4 app_len5 app_len6 app_len7 app_len8
  aparts chunk zcells splice dcells ares AObj.ver AObj.k AObj.len AV.one hintOf nonNil isNone

/-! ### Ends, and what is forgotten there -/
theorem tail_append (H T : AHeap) : ∀ i o, i < H.length → (H ++ T)[i]? = some o → H[i]? = some o ∨ o.below H.length = true := fun i o hi h => .inl (by rwa [List.getElem?_append_left hi] at h)
theorem Weak.drop (H T : AHeap) (s : Nat → AV) : Weak H s (H ++ T) (fun t => frz (H ++ T) H.length (s t)) H := by
  have := Weak.trunc (H0 := H) s (H ++ T) H.length (Nat.le_refl _) (by simp) (tail_append H T)
  rwa [List.take_left] at this
theorem AEnd.ret {rs : List Tmp} {H T : AHeap} {s : Nat → AV} {r : AV} (h : r = ares rs fun t => frz (H ++ T) H.length (s t)) : AEnd rs H (.ok r) H .ret s (H ++ T) := ⟨_, Weak.drop H T s, by rw [h]⟩
theorem AEnd.ret0 {rs : List Tmp} {H : AHeap} {s : Nat → AV} {r : AV} (h : r = ares rs s) : AEnd rs H (.ok r) H .ret s H := ⟨_, Weak.refl s H, by rw [h]⟩
theorem frz_d (H : AHeap) (m : Nat) (x : D) : frz H m (.d x) = .d x := rfl
theorem frz_top (H : AHeap) (m : Nat) : frz H m .top = .top := rfl
theorem frz_agg (H : AHeap) (m : Nat) (cs : List AV) : frz H m (.agg cs) = .agg (cs.map (frz0 H m)) := rfl
theorem frz_tup (H : AHeap) (m : Nat) (cs : List AV) : frz H m (.tup cs) = .tup (cs.map (frz1 H m)) := rfl
theorem frz_sl (H : AHeap) (m id v off len : Nat) : frz H m (.sl id v off len) = frz0 H m (.sl id v off len) := rfl
theorem frz_ptr (H : AHeap) (m id v i j : Nat) : frz H m (.ptr id v i j) = frz0 H m (.ptr id v i j) := rfl
theorem frz1_d (H : AHeap) (m : Nat) (x : D) : frz1 H m (.d x) = .d x := rfl
theorem frz1_agg (H : AHeap) (m : Nat) (cs : List AV) : frz1 H m (.agg cs) = .agg (cs.map (frz0 H m)) := rfl
theorem frz1_sl (H : AHeap) (m id v off len : Nat) : frz1 H m (.sl id v off len) = frz0 H m (.sl id v off len) := rfl
theorem frz1_top (H : AHeap) (m : Nat) : frz1 H m .top = .top := rfl
theorem frz0_d (H : AHeap) (m : Nat) (x : D) : frz0 H m (.d x) = .d x := rfl
theorem frz0_top (H : AHeap) (m : Nat) : frz0 H m .top = .top := rfl
theorem frz0_sl (H : AHeap) (m id v off len : Nat) : frz0 H m (.sl id v off len) = if id < m then .sl id v off len else match H[id]? with
    | some (.arr _ _ ver es) => if ver = v then .d (.list false ((es.drop off).take len)) else .top
    | _ => .top := rfl
theorem frz0_ptr (H : AHeap) (m id v i j : Nat) : frz0 H m (.ptr id v i j) = if id < m then .ptr id v i j else .top := rfl
theorem Weak.virt1 (H : AHeap) (s : Nat → AV) (t : Nat) (e : TypeId) (k : Nat) (hk : 0 < k) (h : isNone (s t) = true) (H0 : AHeap) : Weak H0 s H (fun u => if u = t then .sl H.length 0 0 0 else s u) (H ++ [.arr e k 0 []]) := .virt s H t e k hk h
attribute [go_sem] frz_d frz_top frz_agg frz_tup frz_sl frz_ptr frz1_d frz1_agg frz1_sl frz1_top frz0_d frz0_top frz0_sl frz0_ptr
theorem getD_zero {α : Type} (x : α) (l : List α) (d : α) : (x :: l).getD 0 d = x := rfl
theorem getD_succ {α : Type} (x : α) (l : List α) (n : Nat) (d : α) : (x :: l).getD (n + 1) d = l.getD n d := rfl
theorem getD_nil {α : Type} (n : Nat) (d : α) : ([] : List α).getD n d = d := rfl
theorem toList_mk {α : Type} (l : List α) : l.toArray.toList = l := rfl
theorem getElem_toArray' {α : Type} (l : List α) (i : Nat) : l.toArray[i]? = l[i]? := by simp
attribute [go_sem] getD_zero getD_succ getD_nil toList_mk getElem_toArray' List.map_cons List.map_nil List.length_cons List.length_nil List.length_map List.getElem?_cons_zero List.getElem?_cons_succ List.getElem?_map List.getElem?_nil Option.map_some Option.map_none Option.bind_some Option.bind_none
  List.take_succ_cons List.take_zero List.take_nil List.drop_succ_cons List.drop_zero List.drop_nil List.append_assoc List.cons_append List.nil_append List.all_cons List.all_nil Bool.and_true Bool.true_and Bool.and_false Bool.false_and Bool.and_self Nat.zero_add Nat.add_zero Nat.zero_mul Nat.mul_zero Nat.one_mul Nat.mul_one
  Bool.not_true Bool.not_false Int.toNat_natCast Int.natCast_nonneg List.size_toArray true_and and_true beq_self_eq_true decide_true decide_false if_true if_false Nat.le_refl ne_eq not_true not_false_iff reduceCtorEq Array.toList_map List.length_append List.mem_cons List.not_mem_nil or_false forall_eq Int.ofNat_lt Int.ofNat_le
theorem range0 : List.range 0 = [] := rfl
theorem range1 : List.range 1 = [0] := rfl
theorem range2 : List.range 2 = [0, 1] := rfl
theorem range3 : List.range 3 = [0, 1, 2] := rfl
theorem range4 : List.range 4 = [0, 1, 2, 3] := rfl
theorem range5 : List.range 5 = [0, 1, 2, 3, 4] := rfl
theorem range6 : List.range 6 = [0, 1, 2, 3, 4, 5] := rfl
theorem range7 : List.range 7 = [0, 1, 2, 3, 4, 5, 6] := rfl
theorem range8 : List.range 8 = [0, 1, 2, 3, 4, 5, 6, 7] := rfl
theorem range9 : List.range 9 = [0, 1, 2, 3, 4, 5, 6, 7, 8] := rfl
theorem range10 : List.range 10 = [0, 1, 2, 3, 4, 5, 6, 7, 8, 9] := rfl
theorem range11 : List.range 11 = [0, 1, 2, 3, 4, 5, 6, 7, 8, 9, 10] := rfl
theorem range12 : List.range 12 = [0, 1, 2, 3, 4, 5, 6, 7, 8, 9, 10, 11] := rfl
theorem range13 : List.range 13 = [0, 1, 2, 3, 4, 5, 6, 7, 8, 9, 10, 11, 12] := rfl
theorem range14 : List.range 14 = [0, 1, 2, 3, 4, 5, 6, 7, 8, 9, 10, 11, 12, 13] := rfl
theorem range15 : List.range 15 = [0, 1, 2, 3, 4, 5, 6, 7, 8, 9, 10, 11, 12, 13, 14] := rfl
theorem range16 : List.range 16 = [0, 1, 2, 3, 4, 5, 6, 7, 8, 9, 10, 11, 12, 13, 14, 15] := rfl
theorem range17 : List.range 17 = [0, 1, 2, 3, 4, 5, 6, 7, 8, 9, 10, 11, 12, 13, 14, 15, 16] := rfl
theorem range18 : List.range 18 = [0, 1, 2, 3, 4, 5, 6, 7, 8, 9, 10, 11, 12, 13, 14, 15, 16, 17] := rfl
theorem range19 : List.range 19 = [0, 1, 2, 3, 4, 5, 6, 7, 8, 9, 10, 11, 12, 13, 14, 15, 16, 17, 18] := rfl
theorem range20 : List.range 20 = [0, 1, 2, 3, 4, 5, 6, 7, 8, 9, 10, 11, 12, 13, 14, 15, 16, 17, 18, 19] := rfl
theorem one_int (k : IntKind) (n : Int) : (Value.int k n).oneCell' = true := rfl
theorem one_bool (b : Bool) : (Value.bool b).oneCell' = true := rfl
theorem one_string (b : ByteArray) : (Value.string b).oneCell' = true := rfl
theorem one_slice (a : Option Addr) (n c : Nat) : (Value.slice a n c).oneCell' = true := rfl
theorem one_pointer (a : Option Addr) : (Value.pointer a).oneCell' = true := rfl
theorem one_iface (t : TypeId) (v : Value) : (Value.iface t v).oneCell' = true := rfl
theorem one_nilFunc : Value.nilFunc.oneCell' = true := rfl
theorem one_nilIface : Value.nilIface.oneCell' = true := rfl
theorem one_map (a : Option Nat) : (Value.map a).oneCell' = true := rfl
theorem one_agg (cs : Array Value) : (Value.agg cs).oneCell' = false := rfl
theorem cells_agg (cs : Array Value) : (Value.agg cs).cells = cs := rfl
theorem cells_int (k : IntKind) (n : Int) : (Value.int k n).cells = #[.int k n] := rfl
theorem cells_bool (b : Bool) : (Value.bool b).cells = #[.bool b] := rfl
theorem cells_string (b : ByteArray) : (Value.string b).cells = #[.string b] := rfl
theorem cells_slice (a : Option Addr) (n c : Nat) : (Value.slice a n c).cells = #[.slice a n c] := rfl
theorem cells_pointer (a : Option Addr) : (Value.pointer a).cells = #[.pointer a] := rfl
theorem cells_nilFunc : Value.nilFunc.cells = #[.nilFunc] := rfl
theorem cells_nilIface : Value.nilIface.cells = #[.nilIface] := rfl
theorem cells_map (a : Option Nat) : (Value.map a).cells = #[.map a] := rfl
theorem w_add (k : IntKind) (a b : Int) (h : (k.wrap (a + b)) = a + b) : k.wrap (a + b) = a + b := h
theorem wrap64_in (n : Int) (h0 : -9223372036854775808 ≤ n) (h1 : n ≤ 9223372036854775807) : IntKind.i64.wrap n = n := by
  simp [IntKind.wrap, IntKind.signed, IntKind.bits]; omega
theorem wrapu64_in (n : Int) (h0 : 0 ≤ n) (h1 : n ≤ 18446744073709551615) : IntKind.u64.wrap n = n := by
  simp [IntKind.wrap, IntKind.signed, IntKind.bits]; omega
theorem wrapu8_in (n : Int) (h0 : 0 ≤ n) (h1 : n ≤ 255) : IntKind.u8.wrap n = n := by
  simp [IntKind.wrap, IntKind.signed, IntKind.bits]; omega
attribute [go_sem] ge_iff_le gt_iff_lt range0 range1 range2 range3 range4 range5 range6 range7 range8 range9 range10 range11 range12 range13 range14 range15 range16 range17 range18 range19 range20 one_int one_bool one_string one_slice one_pointer one_iface one_nilFunc one_nilIface one_map one_agg cells_agg cells_int cells_bool cells_string cells_slice cells_pointer cells_nilFunc cells_nilIface cells_map List.getElem!_toArray List.getElem!_cons_zero List.getElem!_cons_succ
theorem all_arr (l : List Value) : l.toArray.all Value.oneCell' = l.all Value.oneCell' := by simp
theorem take_len {α : Type} (l : List α) (n : Nat) (h : l.length = n) : l.take n = l := by subst h; simp
attribute [go_sem ↓] all_arr
end Go.Proofs.YtkapgooedfompaaAw
namespace Go.Proofs.YtkapgooedfompaaAw
open Go.RowKit
set_option linter.unusedVariables false

theorem Rel.nothing {N : Addr → Prop} {w : World} (h : ∀ a, N a → ∃ v, w.cell? a = some v) : Rel [] (fun _ => none) N w where
  obj id o h := by simp at h
  inj i j B c c' hi := by simp at hi
  live := h
  apart a id B c ha hid := by simp at hid

/-- The law is true, and nothing that was has turned. -/
theorem Does.walk {P : Program} {f : FuncId} {fn : Func} {body : Code} (hf : P.funcs[f]? = some fn) (hn : (fn.name == "runtime.NumGoroutine") = false) (hb : fn.body = some body) {args : List AV}
    (h : Does P f args [] (.ok (.d (.v (.bool true)))) []) (N : Addr → Prop) (w : World) (vals : Array Value) (hN : ∀ a, N a → ∃ v, w.cell? a = some v) (hA : RAs [] (fun _ => none) N w args vals) :
    Calls P f vals w fun e w' => e = .returned (.bool true) ∧ Below w.heap.size w w' := by
  rcases h (fun _ => none) N w vals (Rel.nothing hN) hA with ⟨_, h⟩ | ⟨v, w', h, _⟩
  · refine h.mono ?_
    rintro e w' ⟨φ', N', hR, hS, hE⟩
    refine ⟨?_, hS.os, hS.tape, hS.output, hS.size, fun k hk => hS.keep k hk fun id c hid => by simp at hid⟩
    cases e with
    | returned v => rw [RA.closed hE]
    | _ => exact hE.elim
  · rw [enter_run hf hn (by rw [hb]; rfl)] at h
    cases h
theorem RAs.of_closed (H : AHeap) (φ : Phi) (N : Addr → Prop) (w : World) (xs : List Value) (h : ∀ x ∈ xs, x.oneCell' = true) : RAs H φ N w (xs.map fun v => .d (.v v)) xs.toArray := by
  refine ⟨by simp, fun i h1 h2 => ?_⟩
  simp only [List.getElem_map, List.getElem_toArray]
  exact .d (.v _ (h _ (List.getElem_mem _)))
end Go.Proofs.YtkapgooedfompaaAw
namespace Go.Proofs.YtkapgooedfompaaAw
open Go.RowKit Go.WideShapes
set_option linter.unusedVariables false
set_option linter.unusedSimpArgs false

/-- What a cell may hold. slice: the bytes of an element, its cells. -/
inductive Sh where
  | int (k : IntKind)
  | bool
  | str
  | slice (b : Nat) (es : List Sh)
mutual
inductive Fits : Sh → D → Prop
  | int (k : IntKind) (n : Int) (h : (Lit.int k n).wf = true) : Fits (.int k) (.v (.int k n))
  | bool (b : Bool) : Fits .bool (.v (.bool b))
  | str (s : ByteArray) (h : s.size ≤ reachBytes) : Fits .str (.v (.string s))
  | slice (b : Nat) (es : List Sh) (l : List (List D)) (h1 : l.length * b ≤ reachBytes) (h2 : l.length ≤ maxLen) (h : ∀ e ∈ l, FitsL es e) : Fits (.slice b es) (.list false l)
inductive FitsL : List Sh → List D → Prop
  | nil : FitsL [] []
  | cons {s : Sh} {x : D} {ss : List Sh} {xs : List D} (h : Fits s x) (t : FitsL ss xs) : FitsL (s :: ss) (x :: xs)
end
def shFields (P : Program) (g : TypeId → Option (List Sh)) : Nat → List Field → Option (List Sh)
  | _, [] => some []
  | off, f :: fs => if f.offset = off then (match g f.type with | some l => if l.length = P.cellsOf f.type then (shFields P g (off + l.length) fs).map (l ++ ·) else none | none => none) else none
def shOf (P : Program) : Nat → TypeId → Option (List Sh)
  | 0, _ => none
  | n + 1, t => match P.underlying t with
    | some .bool => some [.bool]
    | some (.int k) => some [.int k]
    | some .string => some [.str]
    | some (.slice e) => (match shOf P n e with | some es => if es.length = P.cellsOf e then some [.slice (P.bytesOf e) es] else none | none => none)
    | some (.struct fs) => (match shFields P (shOf P n) 0 fs.toList with | some l => if l.length = P.cellsOf t then some l else none | none => none)
    | some (.array m e) => (match shOf P n e with | some es => if es.length = P.cellsOf e ∧ P.cellsOf t = m * es.length then some ((List.replicate m es).flatten) else none | none => none)
    | _ => none
def Live (w : World) : Addr → Prop := fun a => ∃ v, w.cell? a = some v
def RDs (w : World) (ds : List D) (cs : List Value) : Prop := ds.length = cs.length ∧ ∀ i (h1 : i < ds.length) (h2 : i < cs.length), RD (Live w) w (ds[i]) (cs[i])
theorem RDs.nil {w : World} : RDs w [] [] := ⟨rfl, fun i h => by simp at h⟩
theorem RDs.one {w : World} {d : D} {c : Value} (h : RD (Live w) w d c) : RDs w [d] [c] := ⟨rfl, fun i h1 h2 => by
  simp only [List.length_singleton] at h1
  have : i = 0 := by omega
  subst this; exact h⟩
theorem RDs.append {w : World} {ds es : List D} {cs bs : List Value} (h : RDs w ds cs) (g : RDs w es bs) : RDs w (ds ++ es) (cs ++ bs) := by
  refine ⟨by simp [h.1, g.1], fun i h1 h2 => ?_⟩
  by_cases hi : i < ds.length
  · rw [List.getElem_append_left hi, List.getElem_append_left (by rw [← h.1]; exact hi)]
    exact h.2 i _ _
  · simp only [List.length_append] at h1
    rw [List.getElem_append_right (by omega), List.getElem_append_right (by rw [← h.1]; omega)]
    have := g.2 (i - ds.length) (by omega) (by rw [← g.1]; omega)
    simpa [h.1] using this
theorem FitsL.append : ∀ {ss ts : List Sh} {xs ys : List D}, FitsL ss xs → FitsL ts ys → FitsL (ss ++ ts) (xs ++ ys)
  | _, _, _, _, .nil, h => h
  | _, _, _, _, .cons h t, g => .cons h (t.append g)
theorem FitsL.len : ∀ {ss : List Sh} {xs : List D}, FitsL ss xs → xs.length = ss.length
  | _, _, .nil => rfl
  | _, _, .cons _ t => by simp [t.len]
theorem exists_list {α : Type} (p : Nat → α → Prop) : ∀ n, (∀ i, i < n → ∃ y, p i y) → ∃ l : List α, l.length = n ∧ ∀ i (h : i < l.length), p i l[i]
  | 0, _ => ⟨[], rfl, fun i h => by simp at h⟩
  | n + 1, h => by
    obtain ⟨l, hl, hp⟩ := exists_list p n fun i hi => h i (by omega)
    obtain ⟨y, hy⟩ := h n (by omega)
    refine ⟨l ++ [y], by simp [hl], fun i hi => ?_⟩
    by_cases e : i < l.length
    · rw [List.getElem_append_left e]; exact hp i e
    · simp at hi
      have : i = n := by omega
      subst this
      rw [List.getElem_append_right (by omega)]
      simpa [hl] using hy
theorem cells_get {w : World} {a : Addr} {k : Nat} {cs : List Value} (h : w.cells? 0 a k = some cs) : cs.length = k ∧ ∀ j (hj : j < cs.length), w.cell? (a.add j) = some cs[j] := by
  unfold World.cells? at h
  rw [if_pos (Nat.zero_le _)] at h
  have hl := mapM_some_length h
  rw [List.length_range] at hl
  refine ⟨hl, fun j hj => ?_⟩
  have := mapM_some_get h j j (by rw [List.getElem?_range (by omega)])
  rw [this]
  simp
section
variable {H : Type} {enc : TypeId × Value → H} {P : Program} {w : World}
theorem shFields_good {g : TypeId → Option (List Sh)} : ∀ (fs : List Field) (off : Nat) (shs : List Sh) (cs : List Value), shFields P g off fs = some shs → cs.length = off + shs.length →
    (∀ f ∈ fs, ∀ l, g f.type = some l → ∃ ds, FitsL l ds ∧ RDs w ds ((cs.drop f.offset).take (P.cellsOf f.type))) → ∃ ds, FitsL shs ds ∧ RDs w ds (cs.drop off)
  | [], off, shs, cs, h, hl, _ => by
    simp only [shFields] at h
    cases h
    refine ⟨[], .nil, ?_⟩
    rw [List.drop_of_length_le (by simp at hl; omega)]
    exact .nil
  | f :: fs, off, shs, cs, h, hl, hf => by
    simp only [shFields] at h
    split at h
    · rename_i ho
      split at h
      · rename_i l hgl
        split at h
        · rename_i hk
          obtain ⟨rest, hr, rfl⟩ := Option.map_eq_some_iff.1 h
          simp only [List.length_append] at hl
          obtain ⟨ds, h1, h2⟩ := hf f (by simp) l hgl
          obtain ⟨es, h3, h4⟩ := shFields_good fs (off + l.length) rest cs hr (by omega) fun f' hf' => hf f' (by simp [hf'])
          refine ⟨ds ++ es, h1.append h3, ?_⟩
          rw [ho, ← hk] at h2
          have := h2.append h4
          rwa [← List.drop_drop, List.take_append_drop] at this
        · cases h
      · cases h
    · cases h
theorem weightsAll_mem : ∀ {ds : List (DataW H)} {e : TypeId} {d : DataW H} {n : Nat}, d ∈ ds → n ∈ d.weights P e → n ∈ DataW.weightsAll P e ds
  | d' :: ds, e, d, n, hd, hn => by
    simp only [DataW.weightsAll, List.mem_append]
    rcases List.mem_cons.1 hd with rfl | hd
    · exact .inl hn
    · exact .inr (weightsAll_mem hd hn)
theorem trod_good : ∀ (n : Nat) (t : TypeId) (shs : List Sh) (fuel : Nat) (cs : List Value) (x : DataW H × List MemPlace), shOf P n t = some shs → DataW.trod enc P w 0 (fun _ => true) true fuel t cs = some x →
    (∀ m ∈ x.1.weights P t, m ≤ reachBytes) → ∃ ds, FitsL shs ds ∧ RDs w ds cs := by
  intro n
  induction n with
  | zero => intro t shs fuel cs x h; cases h
  | succ n ih =>
    intro t shs fuel cs x h hx hw
    unfold shOf at h
    split at h
    · rename_i hu
      cases h
      obtain ⟨b, rfl, rfl⟩ := DataW.trod_bool hu hx
      exact ⟨[.v (.bool b)], .cons (.bool b) .nil, .one (.v _ rfl)⟩
    · rename_i k hu
      cases h
      obtain ⟨m, rfl, rfl, hwf⟩ := DataW.trod_int hu hx
      exact ⟨[.v (.int k m)], .cons (.int k m hwf) .nil, .one (.v _ rfl)⟩
    · rename_i hu
      cases h
      obtain ⟨s, rfl, rfl, hs⟩ := DataW.trod_string hu hx
      have : s.size ≤ reachBytes := by
        have := hw s.data.toList.length (by simp [DataW.weights])
        simpa using this
      exact ⟨[.v (.string s)], .cons (.str s this) .nil, .one (.v _ rfl)⟩
    · rename_i e hu
      split at h
      · rename_i es hes
        split at h
        · rename_i hk
          cases h
          rcases DataW.trod_slice hu hx with ⟨rfl, rfl⟩ | ⟨a, len, cap, elems, rest, m, rfl, rfl, rfl, _, hlc, hcm, hel, hget, _, _⟩
          · exact ⟨[.list false []], .cons (.slice _ _ _ (by simp) (by simp) (by simp)) .nil, .one (.nil _ _ fun _ => rfl)⟩
          · have key : ∀ i, i < len → ∃ y : List D, FitsL es y ∧ ∀ j (h1 : j < y.length), ∃ c, w.cell? (a.add (i * es.length + j)) = some c ∧ RD (Live w) w y[j] c := by
              intro i hi
              have hg := hget i hi
              rw [List.getElem?_eq_getElem (by omega)] at hg
              obtain ⟨ci, hci, htr⟩ := Option.bind_eq_some_iff.1 hg
              obtain ⟨hcl, hcell⟩ := cells_get hci
              obtain ⟨ds, h1, h2⟩ := ih e es m ci _ hes htr fun q hq => hw q (by
                simp only [DataW.weights, hu]
                refine List.mem_cons_of_mem _ (List.mem_append_left _ (weightsAll_mem (List.mem_map.2 ⟨_, List.getElem_mem (show i < elems.length by omega), rfl⟩) hq)))
              refine ⟨ds, h1, fun j hj => ?_⟩
              have hjc : j < ci.length := by rw [← h2.1]; exact hj
              refine ⟨ci[j], ?_, h2.2 j hj hjc⟩
              rw [← hcell j hjc, add_add, hk]
            obtain ⟨l, hll, hlp⟩ := exists_list _ len key
            refine ⟨[.list false l], .cons (.slice _ _ _ ?_ (by omega) fun y hy => ?_) .nil, .one ?_⟩
            · have := hw ((elems.length + rest.length) * P.bytesOf e) (by simp [DataW.weights, hu])
              have h2 : l.length * P.bytesOf e ≤ (elems.length + rest.length) * P.bytesOf e := Nat.mul_le_mul_right _ (by omega)
              omega
            · obtain ⟨i, hi, rfl⟩ := List.mem_iff_getElem.1 hy
              exact (hlp i hi).1
            · have hlen : l.length = len := hll
              subst hlen
              have hw' : ∀ i j, i < l.length → j < es.length → ∃ c, w.cell? (a.add (i * es.length + j)) = some c := by
                intro i j hi hj
                have := (hlp i hi).1.len
                obtain ⟨c, hc, _⟩ := (hlp i hi).2 j (by omega)
                exact ⟨c, hc⟩
              refine .list false l a cap es.length (fun i j => (w.cell? (a.add (i * es.length + j))).getD undef) hlc (fun y hy => ?_) (fun i j hi hj => ?_) fun i hi j hj => ?_
              · obtain ⟨i, hi, rfl⟩ := List.mem_iff_getElem.1 hy
                exact (hlp i hi).1.len
              · obtain ⟨c, hc⟩ := hw' i j hi hj
                exact ⟨⟨c, hc⟩, by simp [hc]⟩
              · obtain ⟨c, hc, hd⟩ := (hlp i hi).2 j hj
                simpa [hc] using hd
        · cases h
      · cases h
    · rename_i fs hu
      split at h
      · rename_i l hl
        split at h
        · rename_i hk
          cases h
          obtain ⟨xs, m, rfl, rfl, hcl, hxl, hget⟩ := DataW.trod_struct hu hx
          have := shFields_good (w := w) fs.toList 0 shs cs hl (by omega) fun f hf l' hl' => by
            obtain ⟨i, hi, rfl⟩ := List.mem_iff_getElem.1 hf
            have hi' : i < fs.size := by simpa using hi
            have hg := hget i fs[i] (by simp [hi'])
            rw [List.getElem?_eq_getElem (by omega)] at hg
            refine ih _ l' m _ _ (by simpa using hl') (by simpa using hg) fun q hq => hw q ?_
            simp only [DataW.weights, hu]
            refine DataW.weights_mem_each (j := i) (t := (fs.toList[i]).type) (d := (xs[i]'(by omega)).1) ?_ ?_ q hq
            · simp [hi']
            · simp [show i < xs.length by omega]
          simpa using this
        · cases h
      · cases h
    · rename_i m e hu
      split at h
      · rename_i es hes
        split at h
        · rename_i hk
          cases h
          cases fuel with
          | zero => simp [DataW.trod] at hx
          | succ f =>
            unfold DataW.trod at hx
            rw [hu] at hx
            have hx' : (if cs.length = P.cellsOf t then ((List.range m).mapM fun i => DataW.trod enc P w 0 (fun _ => true) true f e ((cs.drop (i * P.cellsOf e)).take (P.cellsOf e))).map fun xs => (DataW.agg (xs.map (·.1)), xs.flatMap (·.2)) else none) = some x := by
              revert hx
              rcases cs with _ | ⟨c, _ | ⟨c', cs⟩⟩
              · exact id
              · cases c <;> exact id
              · exact id
            split at hx'
            · rename_i hcl
              obtain ⟨xs, hxs, rfl⟩ := Option.map_eq_some_iff.1 hx'
              have hxl := mapM_some_length hxs
              rw [List.length_range] at hxl
              have key : ∀ q, q ≤ m → ∃ ds, FitsL ((List.replicate q es).flatten) ds ∧ RDs w ds (cs.take (q * es.length)) := by
                intro q
                induction q with
                | zero => intro _; exact ⟨[], by simpa using FitsL.nil, by simpa using RDs.nil⟩
                | succ q ihq =>
                  intro hq
                  obtain ⟨ds, h1, h2⟩ := ihq (by omega)
                  have hg := mapM_some_get hxs q q (by rw [List.getElem?_range (by omega)])
                  rw [List.getElem?_eq_getElem (by omega)] at hg
                  obtain ⟨ds', h3, h4⟩ := ih e es f _ _ hes hg fun z hz => hw z (by
                    simp only [DataW.weights, hu]
                    exact weightsAll_mem (List.mem_map.2 ⟨_, List.getElem_mem (show q < xs.length by omega), rfl⟩) hz)
                  refine ⟨ds ++ ds', ?_, ?_⟩
                  · rw [List.replicate_succ', List.flatten_append]
                    simpa using h1.append h3
                  · have := h2.append h4
                    rw [← hk.1, ← List.take_add] at this
                    rwa [Nat.add_mul, Nat.one_mul]
              obtain ⟨ds, h1, h2⟩ := key m (Nat.le_refl _)
              refine ⟨ds, h1, ?_⟩
              rwa [← hk.2, ← hcl, List.take_length] at h2
            · cases hx'
        · cases h
      · cases h
    · cases h

/-- An argument of a type, as abstract data. -/
def ArgOk (P : Program) (t : TypeId) (x : AV) : Prop := (agB P t = some false ∧ ∃ sh d, shOf P 9 t = some [sh] ∧ Fits sh d ∧ x = .d d) ∨ (agB P t = some true ∧ ∃ shs ds, shOf P 9 t = some shs ∧ FitsL shs ds ∧ x = .agg (ds.map .d))
theorem arg_in {t : TypeId} {v : Value} {d : DataW H} {ps : List MemPlace} {shs : List Sh} {b : Bool} (hs : shOf P 9 t = some shs) (hg : agB P t = some b) (hval : Value.okWide P w .any 0 t v) (h : DataW.Trod enc P w 0 (fun _ => true) true t v d ps)
    (hw : ∀ m ∈ d.weights P t, m ≤ reachBytes) : ∃ x, ArgOk P t x ∧ RA [] (fun _ => none) (Live w) w x v := by
  obtain ⟨fuel, hf⟩ := h
  obtain ⟨ds, h1, h2⟩ := trod_good 9 t shs fuel v.cells.toList _ hs hf hw
  unfold agB at hg
  obtain ⟨desc, hd, hb⟩ := Option.map_eq_some_iff.1 hg
  have one : v.cells = #[v] → ds.length = 1 → b = false → ∃ x, ArgOk P t x ∧ RA [] (fun _ => none) (Live w) w x v := by
    intro hv hl hbf
    subst hbf
    have hl2 := h1.len
    match ds, hl, shs, hs, h1, h2 with
    | [d0], _, [sh], hs, .cons hd0 .nil, h2 =>
      refine ⟨.d d0, .inl ⟨by unfold agB; rw [hd]; exact congrArg some hb, sh, d0, hs, hd0, rfl⟩, .d ?_⟩
      have := h2.2 0 (by simp) (by simp [hv])
      simpa [hv] using this
  have agg : b = true → (∃ cs, v = .agg cs) → ∃ x, ArgOk P t x ∧ RA [] (fun _ => none) (Live w) w x v := by
    intro hbt ⟨cs, hv⟩
    subst hbt hv
    refine ⟨.agg (ds.map .d), .inr ⟨by unfold agB; rw [hd]; exact congrArg some hb, shs, ds, hs, h1, rfl⟩, .agg _ _ (by simpa [Value.cells] using h2.1) fun i g1 g2 => ?_⟩
    simp only [List.getElem_map]
    have := h2.2 i (by simpa using g1) (by simpa [Value.cells] using g2)
    exact .d (by simpa [Value.cells] using this)
  have len1 : v.cells = #[v] → ds.length = 1 := fun hv => by rw [h2.1, hv]; rfl
  unfold shOf at hs
  rw [hd] at hs
  cases desc with
  | bool => obtain ⟨q, rfl⟩ := okWide_bool hd hval; exact one rfl (len1 rfl) hb.symm
  | int k => obtain ⟨q, rfl⟩ := okWide_int hd hval; exact one rfl (len1 rfl) hb.symm
  | string => obtain ⟨q, rfl⟩ := okWide_string hd hval; exact one rfl (len1 rfl) hb.symm
  | slice e => obtain ⟨q, l, c, rfl⟩ := okWide_slice hd hval; exact one rfl (len1 rfl) hb.symm
  | struct fs => obtain ⟨cs, rfl, _⟩ := okWide_struct hd hval; exact agg hb.symm ⟨cs, rfl⟩
  | array m e =>
    have hval' := hval
    unfold Value.okWide at hval'
    rw [hd] at hval'
    obtain ⟨cs, rfl, _⟩ := hval'
    exact agg hb.symm ⟨cs, rfl⟩
  | _ => simp at hs
theorem arg_in' {t : TypeId} {v : Value} {d : DataW H} {ps : List MemPlace} (hs : (shOf P 9 t).isSome = true) (hg : (agB P t).isSome = true) (hval : Value.okWide P w .any 0 t v) (h : DataW.Trod enc P w 0 (fun _ => true) true t v d ps)
    (hw : ∀ m ∈ d.weights P t, m ≤ reachBytes) : ∃ x, ArgOk P t x ∧ RA [] (fun _ => none) (Live w) w x v := by
  obtain ⟨shs, hs⟩ := Option.isSome_iff_exists.1 hs
  obtain ⟨b, hg⟩ := Option.isSome_iff_exists.1 hg
  exact arg_in hs hg hval h hw
end
inductive RAL (H : AHeap) (φ : Phi) (N : Addr → Prop) (w : World) : List AV → List Value → Prop
  | nil : RAL H φ N w [] []
  | cons {x : AV} {v : Value} {xs : List AV} {vs : List Value} (h : RA H φ N w x v) (t : RAL H φ N w xs vs) : RAL H φ N w (x :: xs) (v :: vs)
theorem RAL.to {H : AHeap} {φ : Phi} {N : Addr → Prop} {w : World} : ∀ {xs : List AV} {vs : List Value}, RAL H φ N w xs vs → xs.length = vs.length ∧ ∀ i (h1 : i < xs.length) (h2 : i < vs.length), RA H φ N w (xs[i]) (vs[i])
  | _, _, .nil => ⟨rfl, fun i h => by simp at h⟩
  | _, _, .cons h t => ⟨by simp [t.to.1], fun i h1 h2 => by
    cases i with
    | zero => exact h
    | succ i => simpa using t.to.2 i (by simpa using h1) (by simpa using h2)⟩
theorem RAL.ras {H : AHeap} {φ : Phi} {N : Addr → Prop} {w : World} {xs : List AV} {vs : List Value} (h : RAL H φ N w xs vs) : RAs H φ N w xs vs.toArray := ⟨by simpa using h.to.1, fun i h1 h2 => by simpa using h.to.2 i h1 (by simpa using h2)⟩
end Go.Proofs.YtkapgooedfompaaAw
namespace Go.Proofs.Ytkapgooedfompaa.K
open Go.Proofs.YtkapgooedfompaaAw
theorem ZO1 : TIok Try.prog 1 = true := by kernel_rfl
theorem ZO2 : TIok Try.prog 2 = true := by kernel_rfl
theorem ZO3 : TIok Try.prog 3 = true := by kernel_rfl
theorem ZO4 : TIok Try.prog 4 = true := by kernel_rfl
theorem ZO5 : TIok Try.prog 5 = true := by kernel_rfl
theorem ZO9 : TIok Try.prog 9 = true := by kernel_rfl
theorem ZO12 : TIok Try.prog 12 = true := by kernel_rfl
theorem ZO21 : TIok Try.prog 21 = true := by kernel_rfl
theorem ZO22 : TIok Try.prog 22 = true := by kernel_rfl
theorem ZO23 : TIok Try.prog 23 = true := by kernel_rfl
theorem ZO24 : TIok Try.prog 24 = true := by kernel_rfl
theorem ZO25 : TIok Try.prog 25 = true := by kernel_rfl
theorem ZO26 : TIok Try.prog 26 = true := by kernel_rfl
theorem ZO27 : TIok Try.prog 27 = true := by kernel_rfl
theorem ZO28 : TIok Try.prog 28 = true := by kernel_rfl
theorem ZO30 : TIok Try.prog 30 = true := by kernel_rfl
theorem ZO32 : TIok Try.prog 32 = true := by kernel_rfl
theorem ZO33 : TIok Try.prog 33 = true := by kernel_rfl
theorem ZO34 : TIok Try.prog 34 = true := by kernel_rfl
theorem ZO35 : TIok Try.prog 35 = true := by kernel_rfl
theorem ZO36 : TIok Try.prog 36 = true := by kernel_rfl
theorem ZO37 : TIok Try.prog 37 = true := by kernel_rfl
theorem ZO38 : TIok Try.prog 38 = true := by kernel_rfl
theorem ZO39 : TIok Try.prog 39 = true := by kernel_rfl
theorem ZO40 : TIok Try.prog 40 = true := by kernel_rfl
theorem ZO41 : TIok Try.prog 41 = true := by kernel_rfl
theorem ZO43 : TIok Try.prog 43 = true := by kernel_rfl
theorem ZO44 : TIok Try.prog 44 = true := by kernel_rfl
theorem ZO46 : TIok Try.prog 46 = true := by kernel_rfl
theorem ZO47 : TIok Try.prog 47 = true := by kernel_rfl
theorem ZO48 : TIok Try.prog 48 = true := by kernel_rfl
theorem ZO49 : TIok Try.prog 49 = true := by kernel_rfl
theorem ZO50 : TIok Try.prog 50 = true := by kernel_rfl
theorem ZO51 : TIok Try.prog 51 = true := by kernel_rfl
theorem ZO52 : TIok Try.prog 52 = true := by kernel_rfl
theorem ZO53 : TIok Try.prog 53 = true := by kernel_rfl
theorem ZO54 : TIok Try.prog 54 = true := by kernel_rfl
theorem ZO55 : TIok Try.prog 55 = true := by kernel_rfl
theorem ZO56 : TIok Try.prog 56 = true := by kernel_rfl
theorem ZO57 : TIok Try.prog 57 = true := by kernel_rfl
theorem ZO58 : TIok Try.prog 58 = true := by kernel_rfl
theorem ZO59 : TIok Try.prog 59 = true := by kernel_rfl
theorem ZO60 : TIok Try.prog 60 = true := by kernel_rfl
theorem ZO62 : TIok Try.prog 62 = true := by kernel_rfl
theorem ZO63 : TIok Try.prog 63 = true := by kernel_rfl
theorem ZO64 : TIok Try.prog 64 = true := by kernel_rfl
theorem ZO65 : TIok Try.prog 65 = true := by kernel_rfl
theorem ZO66 : TIok Try.prog 66 = true := by kernel_rfl
theorem ZO67 : TIok Try.prog 67 = true := by kernel_rfl
theorem ZO68 : TIok Try.prog 68 = true := by kernel_rfl
theorem ZO69 : TIok Try.prog 69 = true := by kernel_rfl
theorem ZO70 : TIok Try.prog 70 = true := by kernel_rfl
theorem ZO71 : TIok Try.prog 71 = true := by kernel_rfl
theorem PT72 : isPtrT Try.prog 72 = true := by kernel_rfl
theorem ZO72 : TIok Try.prog 72 = true := by kernel_rfl
theorem ZO73 : TIok Try.prog 73 = true := by kernel_rfl
theorem ZO74 : TIok Try.prog 74 = true := by kernel_rfl
theorem ZO75 : TIok Try.prog 75 = true := by kernel_rfl
theorem ZO76 : TIok Try.prog 76 = true := by kernel_rfl
theorem ZO77 : TIok Try.prog 77 = true := by kernel_rfl
theorem ZO79 : TIok Try.prog 79 = true := by kernel_rfl
theorem ZO81 : TIok Try.prog 81 = true := by kernel_rfl
theorem ZO82 : TIok Try.prog 82 = true := by kernel_rfl
theorem ZO83 : TIok Try.prog 83 = true := by kernel_rfl
theorem ZO84 : TIok Try.prog 84 = true := by kernel_rfl
theorem ZO85 : TIok Try.prog 85 = true := by kernel_rfl
theorem ZO86 : TIok Try.prog 86 = true := by kernel_rfl
theorem ZO87 : TIok Try.prog 87 = true := by kernel_rfl
theorem ZO89 : TIok Try.prog 89 = true := by kernel_rfl
theorem ZO90 : TIok Try.prog 90 = true := by kernel_rfl
theorem ZO92 : TIok Try.prog 92 = true := by kernel_rfl
theorem ZO93 : TIok Try.prog 93 = true := by kernel_rfl
theorem ZO95 : TIok Try.prog 95 = true := by kernel_rfl
theorem PT96 : isPtrT Try.prog 96 = true := by kernel_rfl
theorem ZO96 : TIok Try.prog 96 = true := by kernel_rfl
theorem ZO97 : TIok Try.prog 97 = true := by kernel_rfl
theorem ZO98 : TIok Try.prog 98 = true := by kernel_rfl
theorem PT99 : isPtrT Try.prog 99 = true := by kernel_rfl
theorem ZO99 : TIok Try.prog 99 = true := by kernel_rfl
theorem ZO100 : TIok Try.prog 100 = true := by kernel_rfl
theorem ZO101 : TIok Try.prog 101 = true := by kernel_rfl
theorem ZO103 : TIok Try.prog 103 = true := by kernel_rfl
theorem ZO104 : TIok Try.prog 104 = true := by kernel_rfl
theorem ZO105 : TIok Try.prog 105 = true := by kernel_rfl
theorem ZO106 : TIok Try.prog 106 = true := by kernel_rfl
theorem ZO107 : TIok Try.prog 107 = true := by kernel_rfl
theorem ZO108 : TIok Try.prog 108 = true := by kernel_rfl
theorem ZO109 : TIok Try.prog 109 = true := by kernel_rfl
theorem ZO111 : TIok Try.prog 111 = true := by kernel_rfl
theorem PT112 : isPtrT Try.prog 112 = true := by kernel_rfl
theorem ZO112 : TIok Try.prog 112 = true := by kernel_rfl
theorem ZO113 : TIok Try.prog 113 = true := by kernel_rfl
theorem ZO114 : TIok Try.prog 114 = true := by kernel_rfl
theorem ZO115 : TIok Try.prog 115 = true := by kernel_rfl
theorem ZO116 : TIok Try.prog 116 = true := by kernel_rfl
theorem ZO122 : TIok Try.prog 122 = true := by kernel_rfl
theorem PT126 : isPtrT Try.prog 126 = true := by kernel_rfl
theorem ZO126 : TIok Try.prog 126 = true := by kernel_rfl
theorem AN20 : isAny Try.prog 20 = true := by kernel_rfl
attribute [go_sem] ZO1 ZO2 ZO3 ZO4 ZO5 ZO9 ZO12 ZO21 ZO22 ZO23 ZO24 ZO25 ZO26 ZO27 ZO28 ZO30 ZO32 ZO33 ZO34 ZO35 ZO36 ZO37 ZO38 ZO39 ZO40 ZO41 ZO43 ZO44 ZO46 ZO47 ZO48 ZO49 ZO50 ZO51 ZO52 ZO53 ZO54 ZO55 ZO56 ZO57 ZO58 ZO59 ZO60 ZO62 ZO63 ZO64 ZO65 ZO66 ZO67 ZO68 ZO69 ZO70 ZO71 PT72 ZO72 ZO73 ZO74 ZO75 ZO76 ZO77 ZO79 ZO81 ZO82 ZO83 ZO84 ZO85 ZO86 ZO87 ZO89 ZO90 ZO92 ZO93 ZO95 PT96 ZO96 ZO97 ZO98 PT99 ZO99 ZO100 ZO101 ZO103 ZO104 ZO105 ZO106 ZO107 ZO108 ZO109 ZO111 PT112 ZO112 ZO113 ZO114 ZO115 ZO116 ZO122 PT126 ZO126 AN20
end Go.Proofs.Ytkapgooedfompaa.K
namespace Go.Proofs.YtkapgooedfompaaAw
open Go.RowKit
set_option linter.unusedVariables false
section
variable {P : Program} {hint : Nat → Bool} {s : Nat → AV} {H : AHeap}
theorem and7 {A B C D E F G G' : Prop} (g : G → G') : (A ∧ B ∧ C ∧ D ∧ E ∧ F ∧ G) → (A ∧ B ∧ C ∧ D ∧ E ∧ F ∧ G') := fun ⟨a, b, c, d, e, f, h⟩ => ⟨a, b, c, d, e, f, g h⟩
theorem and6 {A B C D E G G' : Prop} (g : G → G') : (A ∧ B ∧ C ∧ D ∧ E ∧ G) → (A ∧ B ∧ C ∧ D ∧ E ∧ G') := fun ⟨a, b, c, d, e, h⟩ => ⟨a, b, c, d, e, g h⟩
theorem binK_mono {op : BinOp} {t : TypeId} {u v : Value} {K K' : Value → Prop} (hk : ∀ r, K r → K' r) (h : binK P op t u v K) : binK P op t u v K' := by
  unfold binK at h ⊢
  repeat' (split at h)
  all_goals first | exact h.elim | exact hk _ h | exact ⟨h.1, hk _ h.2⟩ | exact ⟨h.1, h.2.1, hk _ h.2.2⟩ | (obtain ⟨r, h1, h2⟩ := h; first | exact ⟨r, h1, hk _ h2⟩ | (simp_all; done))
  all_goals exact ⟨_, h.choose_spec.1, hk _ h.choose_spec.2⟩
theorem unK_mono {op : UnOp} {u : Value} {K K' : Value → Prop} (hk : ∀ r, K r → K' r) (h : unK op u K) : unK op u K' := by
  cases op <;> cases u <;> first | exact h.elim | exact hk _ h | exact ⟨h.1, hk _ h.2⟩
theorem abuiltin_mono {b : Builtin} {args : List Operand} {tys : List TypeId} {K K' : AV → AHeap → Prop} (hk : ∀ r H, K r H → K' r H) (h : abuiltin P s H b args tys K) : abuiltin P s H b args tys K' := by
  unfold abuiltin at h ⊢
  repeat' (split at h)
  all_goals first | exact h.elim | exact hk _ _ h | exact ⟨h.1, hk _ _ h.2⟩ | exact ⟨h.1, h.2.1, hk _ _ h.2.2⟩ | exact ⟨h.1, h.2.1, h.2.2.1, hk _ _ h.2.2.2⟩ | exact and6 (hk _ _) h | exact and7 (hk _ _) h | (simp_all; done)
theorem aslice_mono {k : Nat} {lo : Option Int} {hi : Nat → Option Int} {x : AV} {K K' : AV → AHeap → Prop} (hk : ∀ r H, K r H → K' r H) (h : aslice H k lo hi K x) : aslice H k lo hi K' x := by
  cases x with
  | d u =>
    cases u with
    | v _ => exact h.elim
    | list nn es =>
      simp only [aslice] at h ⊢
      refine ⟨h.1, ?_⟩
      replace h := h.2
      cases lo with
      | none => exact h
      | some l =>
        cases hq : hi es.length with
        | none => rw [hq] at h; exact h
        | some m => rw [hq] at h; exact ⟨h.1, h.2.1, h.2.2.1, hk _ _ h.2.2.2⟩
  | sl id ver off len =>
    simp only [aslice] at h ⊢
    cases ho : H[id]? with
    | none => rw [ho] at h; exact h.elim
    | some o =>
      rw [ho] at h
      cases lo with
      | none => exact h.elim
      | some l =>
        cases hq : hi len with
        | none => rw [hq] at h; exact h.elim
        | some m => rw [hq] at h; exact ⟨h.1, h.2.1, h.2.2.1, h.2.2.2.1, h.2.2.2.2.1, hk _ _ h.2.2.2.2.2⟩
  | _ => exact h.elim
theorem aslice3_mono {k : Nat} {lo hi mx : Option Int} {x : AV} {K K' : AV → AHeap → Prop} (hk : ∀ r H, K r H → K' r H) (h : aslice3 H k lo hi mx K x) : aslice3 H k lo hi mx K' x := by
  cases x with
  | d u =>
    cases u with
    | v _ => exact h.elim
    | list nn es => cases lo <;> cases hi <;> cases mx <;> first | exact h.2.elim | exact ⟨h.1, h.2.1, h.2.2.1, h.2.2.2.1, h.2.2.2.2.1, hk _ _ h.2.2.2.2.2⟩
  | _ => exact h.elim
theorem aassert_mono {t : TypeId} {ok : Bool} {v : Option Value} {K K' : AV → AHeap → Prop} (hk : ∀ r H, K r H → K' r H) (h : aassert P t ok H K v) : aassert P t ok H K' v := by
  unfold aassert at h ⊢
  cases e : assertR P t ok v with
  | none => rw [e] at h; exact h.2.elim
  | some r => rw [e] at h; exact ⟨h.1, hk _ _ h.2⟩
theorem aop_mono {hi : Bool} {op : Op} {K K' : AV → AHeap → Prop} (hk : ∀ r H, K r H → K' r H) (h : aop P s H hi op K) : aop P s H hi op K' := by
  unfold aop at h ⊢
  repeat' (split at h)
  all_goals first | exact h.elim | exact hk _ _ h | exact ⟨h.1, hk _ _ h.2⟩ | exact ⟨h.1, h.2.1, hk _ _ h.2.2⟩ | exact ⟨h.1, h.2.1, h.2.2.1, hk _ _ h.2.2.2⟩ | exact and7 (hk _ _) h | exact binK_mono (fun r => hk _ _) h | exact unK_mono (fun r => hk _ _) h | exact abuiltin_mono hk h | exact aslice_mono hk h | exact aslice3_mono hk h | exact aassert_mono hk h | exact ⟨h.1, fun g => hk _ _ (h.2.1 g), fun j e g1 g2 => hk _ _ (h.2.2 j e g1 g2)⟩ | skip
  all_goals first | (rw [if_neg (by assumption)]; exact ⟨h.1, by first | (rw [if_pos (by assumption)]; exact hk _ _ h.2) | (rw [if_neg (by assumption)]; exact hk _ _ h.2)⟩) | (simp_all; done)
theorem astep_mono {o : Oper} {K K' : AV → AHeap → Prop} {KP KP' : Value → AHeap → Prop} (hk : ∀ r H, K r H → K' r H) (hp : ∀ r H, KP r H → KP' r H) (h : astep P hint s H o K KP) : astep P hint s H o K' KP' := by
  unfold astep at h ⊢
  split at h
  · split at h
    · exact hp _ _ h
    · exact h.elim
  · split at h
    · split at h
      · obtain ⟨res, H', hd, h⟩ := h
        refine ⟨res, H', hd, ?_⟩
        cases res with
        | ok r => exact hk _ _ h
        | panic v => exact hp _ _ h
      · exact h.elim
    · exact abuiltin_mono hk h
    · exact h.elim
  · exact aop_mono hk h
theorem awpOp_mono {n : Nat} {ops : Array Oper} {Q Q' : Post} {o : Oper} {K K' : (Nat → AV) → AHeap → Prop} (hq : ∀ v s H, Q (.panic v) s H → Q' (.panic v) s H) (hk : ∀ s H, K s H → K' s H) (h : awpOp P hint n ops Q o K s H) : awpOp P hint n ops Q' o K' s H := by
  unfold awpOp at h ⊢
  split at h
  · exact astep_mono (fun r H => hk _ _) (fun v H => hq _ _ _) h
  · split at h
    · split at h
      · rw [if_pos (by assumption)]
        exact astep_mono (fun r H => hk _ _) (fun v H => hq _ _ _) h
      · rw [if_neg (by assumption)]
        exact hk _ _ h
    · exact h.elim
theorem awpList_mono {n : Nat} {ops : Array Oper} {Q Q' : Post} (hq : ∀ e s H, Q e s H → Q' e s H) : ∀ (l : List Oper) (s : Nat → AV) (H : AHeap), awpList P hint n ops Q l s H → awpList P hint n ops Q' l s H
  | [], s, H, h => hq _ _ _ h
  | o :: rest, s, H, h => awpOp_mono (fun v => hq _) (fun s H => awpList_mono hq rest s H) h
theorem awpAny_mono {n : Nat} {ops : Array Oper} {Q Q' : Post} (hq : ∀ e s H, Q e s H → Q' e s H) : ∀ (fuel : Nat) (l : Array Bool) (s : Nat → AV) (H : AHeap), awpAny P hint n ops Q fuel l s H → awpAny P hint n ops Q' fuel l s H
  | 0, l, s, H, h => ⟨h.1, hq _ _ _ h.2⟩
  | fuel + 1, l, s, H, h => by
    refine ⟨fun hr => hq _ _ _ (h.1 hr), fun i hi => ?_⟩
    have := h.2 i hi
    split at this
    · exact awpAny_mono hq fuel _ _ _ this
    · exact awpOp_mono (fun v => hq _) (fun s H => awpAny_mono hq fuel _ s H) this
theorem awp_mono {n : Nat} {H0 : AHeap} : ∀ (c : Code) {Q Q' : Post} (hq : ∀ e s H, Q e s H → Q' e s H) (s : Nat → AV) (H : AHeap), awp P hint n H0 c Q s H → awp P hint n H0 c Q' s H := by
  intro c
  induction c with
  | skip => exact fun hq s H h => hq _ _ _ h
  | label l => exact fun hq s H h => hq _ _ _ h
  | scope x ih => exact fun hq s H h => ih hq s H h
  | region id ops draw =>
    intro Q Q' hq s H h
    cases draw with
    | false => exact awpList_mono hq _ _ _ h
    | true => exact ⟨h.1, awpAny_mono hq _ _ _ _ h.2⟩
  | seq x y ihx ihy =>
    intro Q Q' hq s H h
    refine ihx (fun e s H h => ?_) s H h
    cases e with
    | normal =>
      have h : if hintAt hint y = true then ∃ s'' H'', Weak H0 s H s'' H'' ∧ awp P hint n H0 y Q s'' H'' else awp P hint n H0 y Q s H := h
      show if hintAt hint y = true then ∃ s'' H'', Weak H0 s H s'' H'' ∧ awp P hint n H0 y Q' s'' H'' else awp P hint n H0 y Q' s H
      split at h
      · rw [if_pos (by assumption)]
        obtain ⟨s'', H'', hW, h⟩ := h
        exact ⟨s'', H'', hW, ihy hq s'' H'' h⟩
      · rw [if_neg (by assumption)]
        exact ihy hq s H h
    | _ => exact hq _ _ _ h
  | cond c x y ihx ihy =>
    intro Q Q' hq s H h
    unfold awp at h ⊢
    split at h
    · split at h
      · rw [if_pos (by assumption)]; exact ihx hq s H h
      · rw [if_neg (by assumption)]; exact ihy hq s H h
    · exact h.elim
  | block id x ih =>
    intro Q Q' hq s H h
    refine ih (fun e s H h => ?_) s H h
    cases e with
    | exit i =>
      show if i = id then Q' .normal s H else Q' (.exit i) s H
      have h : if i = id then Q .normal s H else Q (.exit i) s H := h
      split at h
      · rw [if_pos (by assumption)]; exact hq _ _ _ h
      · rw [if_neg (by assumption)]; exact hq _ _ _ h
    | _ => exact hq _ _ _ h
  | loop x ih =>
    intro Q Q' hq s H h
    obtain ⟨I, m, h1, h2⟩ := h
    refine ⟨I, m, h1, fun m s H hI => ih (fun e s H h => ?_) s H (h2 m s H hI)⟩
    cases e with
    | normal => exact h
    | _ => exact hq _ _ _ h
  | exit id => exact fun hq s H h => hq _ _ _ h
  | ret => exact fun hq s H h => hq _ _ _ h
  | _ => intros; rename_i h; exact h.elim
end
section
variable (P : Program) (hint : Nat → Bool) (n : Nat) (H0 : AHeap)
/-- Behind a loop's test. -/
def KTest (c : Operand) (b : Bool) (R : (Nat → AV) → AHeap → Prop) : Post := fun e s H => match e with | .normal => aeval s c = .d (.v (.bool b)) ∧ R s H | _ => False
theorem KTest_normal (c : Operand) (b : Bool) (R : (Nat → AV) → AHeap → Prop) (s : Nat → AV) (H : AHeap) : KTest c b R .normal s H = (aeval s c = .d (.v (.bool b)) ∧ R s H) := rfl
/-- Behind a loop's body: its end, or what leaves it. -/
def KBody (pR : Code) (b b' : Nat) (R : (Nat → AV) → AHeap → Prop) (Q : Post) : Post := fun e s H => match e with
  | .normal => KSeq P hint n H0 pR (KLoop R (KBlock b Q)) .normal s H
  | .exit i => if i = b' then KSeq P hint n H0 pR (KLoop R (KBlock b Q)) .normal s H else KBlock b Q (.exit i) s H
  | e => Q e s H
theorem KBody_normal (pR : Code) (b b' : Nat) (R : (Nat → AV) → AHeap → Prop) (Q : Post) (s : Nat → AV) (H : AHeap) : KBody P hint n H0 pR b b' R Q .normal s H = KSeq P hint n H0 pR (KLoop R (KBlock b Q)) .normal s H := rfl
theorem KBody_exit (pR : Code) (b b' : Nat) (R : (Nat → AV) → AHeap → Prop) (Q : Post) (i : Nat) (s : Nat → AV) (H : AHeap) : KBody P hint n H0 pR b b' R Q (.exit i) s H = if i = b' then KSeq P hint n H0 pR (KLoop R (KBlock b Q)) .normal s H else KBlock b Q (.exit i) s H := rfl
theorem KBody_ret (pR : Code) (b b' : Nat) (R : (Nat → AV) → AHeap → Prop) (Q : Post) (s : Nat → AV) (H : AHeap) : KBody P hint n H0 pR b b' R Q .ret s H = Q .ret s H := rfl
theorem KBody_panic (pR : Code) (b b' : Nat) (R : (Nat → AV) → AHeap → Prop) (Q : Post) (v : Value) (s : Nat → AV) (H : AHeap) : KBody P hint n H0 pR b b' R Q (.panic v) s H = Q (.panic v) s H := rfl
end
attribute [go_sem] KTest_normal KBody_normal KBody_exit KBody_ret KBody_panic
/-! ### A test -/
def acond (x : Option Bool) (A B : Prop) : Prop := match x with | some true => A | some false => B | none => False
theorem acond_true (A B : Prop) : acond (some true) A B = A := rfl
theorem acond_false (A B : Prop) : acond (some false) A B = B := rfl
theorem acond_congr {x y : Option Bool} {A B : Prop} (h : nf x = y) : acond x A B = acond y A B := by rw [← h]; rfl
theorem awp_test {P : Program} {hint : Nat → Bool} {n : Nat} {H0 : AHeap} (c : Operand) (x y : Code) (Q : Post) (s : Nat → AV) (H : AHeap) : awp P hint n H0 (.cond c x y) Q s H = acond (asB (aeval s c)) (awp P hint n H0 x Q s H) (awp P hint n H0 y Q s H) := by
  rw [awp_cond]
  generalize aeval s c = v
  cases v with
  | d u =>
    cases u with
    | v z => cases z <;> first | rfl | (rename_i b; cases b <;> rfl)
    | list _ _ => rfl
  | _ => rfl
theorem awp_T {x : Option Bool} {A B : Prop} (hc : x = some true) (h : A) : acond x A B := by rw [hc]; exact h
theorem awp_F {x : Option Bool} {A B : Prop} (hc : x = some false) (h : B) : acond x A B := by rw [hc]; exact h
/-- Both ways of a test that is not decided. -/
theorem acond_split {b : Bool} {A B : Prop} (h1 : b = true → A) (h2 : b = false → B) : acond (some b) A B := by cases b; exact h2 rfl; exact h1 rfl
attribute [go_sem] acond_true acond_false
def asArr : Option AObj → Option (TypeId × Nat × Nat × List (List D))
  | some (.arr e k ver es) => some (e, k, ver, es)
  | _ => none
theorem asArr_arr (e : TypeId) (k ver : Nat) (es : List (List D)) : asArr (some (.arr e k ver es)) = some (e, k, ver, es) := rfl
theorem appTo_any (H : AHeap) (e : TypeId) (k b : Nat) (news : List (List D)) (K : AV → AHeap → Prop) (id ver len : Nat) : appTo H e k b news K (.sl id ver 0 len) = ob (asArr H[id]?) fun a =>
    (a.1 = e ∧ a.2.1 = k ∧ a.2.2.1 = ver ∧ a.2.2.2.length = len) ∧ (a.2.2.2.length + news.length) * b ≤ 140737488355328 ∧ a.2.2.2.length + news.length ≤ 9223372036854775807 ∧
        K (.sl id (ver + 1) 0 (a.2.2.2.length + news.length)) (H.set id (.arr e k (ver + 1) (a.2.2.2 ++ news))) := by
  simp only [appTo]
  rcases H[id]? with _ | o
  · rfl
  · cases o <;> rfl
theorem all_arr' (l : List Value) (n : Nat) (h : l.length = n) : l.toArray.all Value.oneCell' 0 n = l.all Value.oneCell' := by subst h; simp
attribute [go_sem] all_arr' Int.cast_ofNat_Int
theorem bk_eql_bool {P : Program} {t : TypeId} (a b : Bool) (K : Value → Prop) (h : P.underlying t = some .bool) : binK P .eql t (.bool a) (.bool b) K = K (.bool (a == b)) := by
  have hp : PureBin P .eql t (.bool a) (.bool b) (.bool (a == b)) := fun x y w => by
    have he : (Op.equal t (.bool a) (.bool b)).run P w = .ok (a == b) w := run_equalIn_bool w 9999 t a b h
    simp only [binOp]
    simp [eqGuard, he]
  have : binK P .eql t (.bool a) (.bool b) K = ∃ r, PureBin P .eql t (.bool a) (.bool b) r ∧ K r := by unfold binK; rfl
  rw [this]
  refine propext ⟨fun ⟨r, hr, k⟩ => ?_, fun k => ⟨_, hp, k⟩⟩
  have h1 := hr (.const .nilIface) (.const .nilIface) default
  rw [hp (.const .nilIface) (.const .nilIface) default] at h1
  cases h1; exact k
theorem bk_neq_bool {P : Program} {t : TypeId} (a b : Bool) (K : Value → Prop) (h : P.underlying t = some .bool) : binK P .neq t (.bool a) (.bool b) K = K (.bool (a != b)) := by
  have hp : PureBin P .neq t (.bool a) (.bool b) (.bool (a != b)) := fun x y w => by
    have he : (Op.equal t (.bool a) (.bool b)).run P w = .ok (a == b) w := run_equalIn_bool w 9999 t a b h
    simp only [binOp]
    simp [eqGuard, he]
    cases a <;> cases b <;> rfl
  have : binK P .neq t (.bool a) (.bool b) K = ∃ r, PureBin P .neq t (.bool a) (.bool b) r ∧ K r := by unfold binK; rfl
  rw [this]
  refine propext ⟨fun ⟨r, hr, k⟩ => ?_, fun k => ⟨_, hp, k⟩⟩
  have h1 := hr (.const .nilIface) (.const .nilIface) default
  rw [hp (.const .nilIface) (.const .nilIface) default] at h1
  cases h1; exact k
theorem bk_neq_float {P : Program} {t : TypeId} (k : FloatKind) (a b : Nat) (K : Value → Prop) : binK P .neq t (.float k a) (.float k b) K = K (.bool (k.format.order a b != some .eq)) := by
  have hp : PureBin P .neq t (.float k a) (.float k b) (.bool (k.format.order a b != some .eq)) := fun x y w => by
    simp [eqGuard, binOp, Op.floatCmp]
  have : binK P .neq t (.float k a) (.float k b) K = ∃ r, PureBin P .neq t (.float k a) (.float k b) r ∧ K r := by unfold binK; rfl
  rw [this]
  refine propext ⟨fun ⟨r, hr, k⟩ => ?_, fun k => ⟨_, hp, k⟩⟩
  have h1 := hr (.const .nilIface) (.const .nilIface) default
  rw [hp (.const .nilIface) (.const .nilIface) default] at h1
  cases h1; exact k
theorem isAny.get {P : Program} {t : TypeId} (h : isAny P t = true) : ∃ ms, P.underlying t = some (.interface ms) ∧ ms.isEmpty = true := by
  unfold isAny at h
  split at h
  · rename_i ms hm; exact ⟨ms, hm, h⟩
  · cases h
theorem eqI_nil {P : Program} {t : TypeId} {ms : Array (String × TypeId)} (hu : P.underlying t = some (.interface ms)) (d : Nat) (w : World) : (Op.equalIn (d + 1) t .nilIface .nilIface).run P w = .ok true w := by simp [Op.equalIn, run_underlying hu]
theorem eqI_iface {P : Program} {t : TypeId} {ms : Array (String × TypeId)} (hu : P.underlying t = some (.interface ms)) (d : Nat) (w : World) (t' : TypeId) (u : Value) : (Op.equalIn (d + 1) t (.iface t' u) .nilIface).run P w = .ok false w := by simp [Op.equalIn, run_underlying hu]
theorem eqG_nil {P : Program} {t : TypeId} {ms : Array (String × TypeId)} (hu : P.underlying t = some (.interface ms)) (hm : ms.isEmpty = true) (d : Nat) (w : World) : (Op.eqGuardIn (d + 1) t .nilIface .nilIface).run P w = .ok false w := by simp [Op.eqGuardIn, run_underlying hu]; simpa using hm
theorem pb_neq_nil {P : Program} {t : TypeId} (h : isAny P t = true) : PureBin P .neq t .nilIface .nilIface (.bool false) := by
  obtain ⟨ms, hu, hm⟩ := isAny.get h
  intro x y w
  have he : (Op.equal t .nilIface .nilIface).run P w = .ok true w := eqI_nil hu 9999 w
  have hg : (Op.eqGuardIn Op.maxDepth t .nilIface .nilIface).run P w = .ok false w := eqG_nil hu hm 9999 w
  have hq : (eqGuard .neq t x y .nilIface .nilIface).run P w = .ok () w := by
    cases x <;> cases y <;> simp [eqGuard, hg]
  rw [Sem.run_bind, hq]
  simp only [Result.andThen_ok, binOp]
  simp [he]
theorem pb_neq_iface {P : Program} {t : TypeId} (h : isAny P t = true) (t' : TypeId) (u : Value) : PureBin P .neq t (.iface t' u) .nilIface (.bool true) := by
  obtain ⟨ms, hu, hm⟩ := isAny.get h
  intro x y w
  have he : (Op.equal t (.iface t' u) .nilIface).run P w = .ok false w := eqI_iface hu 9999 w t' u
  simp only [binOp]
  simp [eqGuard, he]
theorem pbK {P : Program} {op : BinOp} {t : TypeId} {u v r : Value} (h : PureBin P op t u v r) (hf : ∀ K, binK P op t u v K = ∃ r, PureBin P op t u v r ∧ K r) (K : Value → Prop) : binK P op t u v K = K r := by
  rw [hf]
  refine propext ⟨fun ⟨r', h', k⟩ => ?_, fun k => ⟨r, h, k⟩⟩
  have h1 := h' (.const .nilIface) (.const .nilIface) default
  rw [h (.const .nilIface) (.const .nilIface) default] at h1
  cases h1; exact k
theorem bk_neq_nil {P : Program} {t : TypeId} (K : Value → Prop) (h : isAny P t = true) : binK P .neq t .nilIface .nilIface K = K (.bool false) := pbK (pb_neq_nil h) (fun _ => rfl) K
theorem bk_neq_iface {P : Program} {t : TypeId} (t' : TypeId) (u : Value) (K : Value → Prop) (h : isAny P t = true) : binK P .neq t (.iface t' u) .nilIface K = K (.bool true) := pbK (pb_neq_iface h t' u) (fun _ => rfl) K
attribute [go_sem] bk_eql_bool bk_neq_bool bk_neq_float bk_neq_nil bk_neq_iface
theorem isNilV_nil (P : Program) (t : TypeId) : isNilV P t (.d (.v (.slice none 0 0))) = (SE P t).isSome := rfl
theorem isNilV_ptr (P : Program) (t : TypeId) : isNilV P t (.d (.v (.pointer none))) = isPtrT P t := rfl
theorem isNilV_list (P : Program) (t : TypeId) (nn : Bool) (es : List (List D)) : isNilV P t (.d (.list nn es)) = false := rfl
theorem isNilV_sl (P : Program) (t : TypeId) (a b c d : Nat) : isNilV P t (.sl a b c d) = false := rfl
theorem isNilV_p (P : Program) (t : TypeId) (a b c d : Nat) : isNilV P t (.ptr a b c d) = false := rfl
theorem isNilV_ip (P : Program) (t : TypeId) (cs : List D) : isNilV P t (.iptr cs) = false := rfl
theorem known_list (P : Program) (H : AHeap) (t : TypeId) (nn : Bool) (es : List (List D)) : known P H t (.d (.list nn es)) = ((SE P t).isSome && (nn || !es.isEmpty)) := rfl
theorem known_ptr (P : Program) (H : AHeap) (t : TypeId) (id ver i j : Nat) : known P H t (.ptr id ver i j) = (isPtrT P t && (match H[id]? with | some o => o.ver == ver | none => false)) := rfl
theorem known_iptr (P : Program) (H : AHeap) (t : TypeId) (cs : List D) : known P H t (.iptr cs) = isPtrT P t := rfl
theorem known_v (P : Program) (H : AHeap) (t : TypeId) (x : Value) : known P H t (.d (.v x)) = false := by cases x <;> rfl
theorem known_sl (P : Program) (H : AHeap) (t : TypeId) (id ver off len : Nat) : known P H t (.sl id ver off len) = ((SE P t).isSome && (0 < len && (match H[id]? with | some o => o.ver == ver | none => false))) := rfl
theorem nilCmp_eql (P : Program) (H : AHeap) (t : TypeId) (x y : AV) : nilCmp P H .eql t x y = ((isNilV P t y && known P H t x) || (isNilV P t x && known P H t y)) := by simp [nilCmp]
theorem nilCmp_neq (P : Program) (H : AHeap) (t : TypeId) (x y : AV) : nilCmp P H .neq t x y = ((isNilV P t y && known P H t x) || (isNilV P t x && known P H t y)) := by simp [nilCmp]
theorem isNeq_eql : isNeq .eql = false := rfl
theorem isNeq_neq : isNeq .neq = true := rfl
attribute [go_sem] isNilV_nil isNilV_ptr isNilV_list isNilV_sl isNilV_p isNilV_ip known_list known_ptr known_iptr known_v known_sl nilCmp_eql nilCmp_neq isNeq_eql isNeq_neq Option.isSome_some Option.isSome_none Bool.or_false Bool.false_or Bool.or_true Bool.true_or List.isEmpty_cons
theorem cast_one : ((1 : Nat) : Int) = 1 := rfl
theorem cast_zero : ((0 : Nat) : Int) = 0 := rfl
theorem beq_decide_int (a b : Int) : (a == b) = decide (a = b) := by by_cases h : a = b <;> simp [h]
theorem bne_decide_int (a b : Int) : (a != b) = !decide (a = b) := by by_cases h : a = b <;> simp [h]
attribute [go_sem] Int.natCast_add cast_one cast_zero beq_decide_int bne_decide_int List.all_map
theorem len_lt_len (H : AHeap) (k m : Nat) : (H.length + k < H.length + m) = (k < m) := by simp
theorem len_lt0 (H : AHeap) (m : Nat) : (H.length < H.length + m) = (0 < m) := by simp
theorem len_lt1 (H : AHeap) (m : Nat) : (H.length + m < H.length) = False := by simp
theorem below_arr (m : Nat) (e : TypeId) (k ver : Nat) (es : List (List D)) : (AObj.arr e k ver es).below m = true := rfl
theorem below_box (m : Nat) (e : TypeId) (k ver n : Nat) (cs : List AV) : (AObj.box e k ver n cs).below m = cs.all (below1 m) := rfl
theorem below_mp (m : Nat) (kk : IntKind) (es : List (Int × AV)) : (AObj.mp kk es).below m = es.all fun e => below1 m e.2 := rfl
theorem below_dead (m v : Nat) : (AObj.dead v).below m = true := rfl
theorem below_iter (m m' since : Nat) (seen : List Nat) : (AObj.iter m' since seen).below m = decide (m' < m) := rfl
attribute [go_sem] below_iter
theorem below1_d (m : Nat) (x : D) : below1 m (.d x) = true := rfl
theorem below1_top (m : Nat) : below1 m .top = true := rfl
theorem below1_cap0 (m : Nat) : below1 m .cap0 = true := rfl
theorem below1_iptr (m : Nat) (cs : List D) : below1 m (.iptr cs) = true := rfl
theorem below1_ptr (m id v i j : Nat) : below1 m (.ptr id v i j) = decide (id < m) := rfl
theorem below1_sl (m id v i j : Nat) : below1 m (.sl id v i j) = decide (id < m) := rfl
theorem below1_mp (m id : Nat) : below1 m (.mp id) = decide (id < m) := rfl
theorem below1_fn (m : Nat) (f : FuncId) (cs : List AV) : below1 m (.fn f cs) = cs.all (below0 m) := rfl
theorem below0_d (m : Nat) (x : D) : below0 m (.d x) = true := rfl
theorem below0_ptr (m id v i j : Nat) : below0 m (.ptr id v i j) = decide (id < m) := rfl
theorem below0_sl (m id v i j : Nat) : below0 m (.sl id v i j) = decide (id < m) := rfl
theorem below0_mp (m id : Nat) : below0 m (.mp id) = decide (id < m) := rfl
theorem frz_fn (H : AHeap) (m : Nat) (f : FuncId) (cs : List AV) : frz H m (.fn f cs) = .fn f (cs.map (frz0 H m)) := rfl
theorem frz_iptr (H : AHeap) (m : Nat) (cs : List D) : frz H m (.iptr cs) = .iptr cs := rfl
theorem frz_cap0 (H : AHeap) (m : Nat) : frz H m .cap0 = .cap0 := rfl
theorem frz_mp (H : AHeap) (m id : Nat) : frz H m (.mp id) = if id < m then .mp id else .top := rfl
theorem frz0_mp (H : AHeap) (m id : Nat) : frz0 H m (.mp id) = if id < m then .mp id else .top := rfl
theorem frz0_iptr (H : AHeap) (m : Nat) (cs : List D) : frz0 H m (.iptr cs) = .iptr cs := rfl
theorem frz0_cap0 (H : AHeap) (m : Nat) : frz0 H m .cap0 = .cap0 := rfl
theorem frz1_fn (H : AHeap) (m : Nat) (f : FuncId) (cs : List AV) : frz1 H m (.fn f cs) = .fn f (cs.map (frz0 H m)) := rfl
theorem frz1_cap0 (H : AHeap) (m : Nat) : frz1 H m .cap0 = .cap0 := rfl
attribute [go_sem] below_arr below_box below_mp below_dead below1_d below1_top below1_cap0 below1_iptr below1_ptr below1_sl below1_mp below1_fn below0_d below0_ptr below0_sl below0_mp frz_fn frz_iptr frz_cap0 frz_mp frz0_mp frz0_iptr frz0_cap0 frz1_fn frz1_cap0
  len_lt_len len_lt0 len_lt1 Nat.lt_irrefl decide_eq_true_eq
theorem aelem_sl (H : AHeap) (k : Nat) (i : Int) (id ver off len : Nat) : aelem H k i (.sl id ver off len) = if 0 ≤ i ∧ i < len then (H[id]?).bind fun ob => if ob.ver = ver ∧ ob.k = k then some (.ptr id ver (off + i.toNat) 0) else none else none := rfl
theorem asrc_sl (H : AHeap) (id ver off len : Nat) : asrc H (.sl id ver off len) = (asArr H[id]?).bind fun a => if a.2.2.1 = ver then some ((a.2.2.2.drop off).take len) else none := by
  simp only [asrc]
  rcases H[id]? with _ | o
  · rfl
  · cases o <;> rfl
theorem asrc_nil (H : AHeap) : asrc H (.d (.v (.slice none 0 0))) = some [] := rfl
theorem asrc_cap0 (H : AHeap) : asrc H .cap0 = some [] := rfl
attribute [go_sem] aelem_sl asrc_sl asrc_nil asrc_cap0 asrc2_same asrc2_str asrc2_list
attribute [go_sem] asArr_arr appTo_any
section
variable {P : Program} {hint : Nat → Bool} {n : Nat} {H0 : AHeap}
/-- A loop of m rounds with its test ahead: round k goes from I k to I (k + 1), or leaves. -/
theorem awp_for {b b' : Nat} {cR pR body : Code} {c : Operand} (I : Nat → (Nat → AV) → AHeap → Prop) (m : Nat) {Q : Post} {s s' : Nat → AV} {H H' : AHeap} (hm : m ≤ 9223372036854775807) (hW : Weak H0 s H s' H') (h0 : I 0 s' H')
    (step : ∀ k s H, k < m → IntKind.i64.wrap ((k : Int) + 1) = (k : Int) + 1 → I k s H → awp P hint n H0 cR (KTest c true fun s H => awp P hint n H0 body (KBody P hint n H0 pR b b' (fun s' H' => ∃ s'' H'', Weak H0 s' H' s'' H'' ∧ I (k + 1) s'' H'') Q) s H) s H)
    (done : ∀ s H, I m s H → awp P hint n H0 cR (KTest c false fun s H => Q .normal s H) s H) :
    awp P hint n H0 (.loop (.seq cR (.seq (.cond c .skip (.exit b)) (.seq (.block b' body) pR)))) (KBlock b Q) s H := by
  refine awp_loop P hint n H0 (fun k s H => k ≤ m ∧ I k s H) (fun k => m - k) 0 hW ⟨Nat.zero_le _, h0⟩ ?_
  rintro k s H ⟨hk, hI⟩
  rw [awp_seq]
  by_cases hlt : k < m
  · refine awp_mono cR (fun e s H h => ?_) s H (step k s H hlt (wrap64_in _ (by omega) (by omega)) hI)
    cases e with
    | normal =>
      obtain ⟨hc, h⟩ := h
      simp only [KSeq_normal, awp_seq]
      rw [awp_cond, hc]
      simp only [if_true, awp_skip, KSeq_normal, awp_seq, awp_block]
      refine awp_mono body (fun e s H h => ?_) s H h
      have fin : KSeq P hint n H0 pR (KLoop (fun s' H' => ∃ s'' H'', Weak H0 s' H' s'' H'' ∧ I (k + 1) s'' H'') (KBlock b Q)) .normal s H →
          KSeq P hint n H0 pR (KLoop (fun s' H' => ∃ s'' H'' y, Weak H0 s' H' s'' H'' ∧ (y ≤ m ∧ I y s'' H'') ∧ m - y < m - k) (KBlock b Q)) .normal s H := by
        have mon : ∀ s H, awp P hint n H0 pR (KLoop (fun s' H' => ∃ s'' H'', Weak H0 s' H' s'' H'' ∧ I (k + 1) s'' H'') (KBlock b Q)) s H →
            awp P hint n H0 pR (KLoop (fun s' H' => ∃ s'' H'' y, Weak H0 s' H' s'' H'' ∧ (y ≤ m ∧ I y s'' H'') ∧ m - y < m - k) (KBlock b Q)) s H := by
          refine fun s H => awp_mono pR (fun e s H h => ?_) s H
          cases e with
          | normal =>
            obtain ⟨s'', H'', h1, h2⟩ := h
            exact ⟨s'', H'', k + 1, h1, ⟨hlt, h2⟩, by omega⟩
          | _ => exact h
        rw [KSeq_normal, KSeq_normal]
        cases hintAt hint pR with
        | true => exact fun ⟨s2, H2, h1, h2⟩ => ⟨s2, H2, h1, mon _ _ h2⟩
        | false => exact mon s H
      cases e with
      | normal => exact fin h
      | exit i =>
        rw [KBody_exit] at h
        rw [KBlock_exit]
        by_cases hi : i = b'
        · rw [if_pos hi] at h ⊢; exact fin h
        · rw [if_neg hi] at h ⊢; exact h
      | ret => exact h
      | panic v => exact h
    | _ => exact h.elim
  · obtain rfl : k = m := by omega
    refine awp_mono cR (fun e s H h => ?_) s H (done s H hI)
    cases e with
    | normal =>
      obtain ⟨hc, h⟩ := h
      simp only [KSeq_normal, awp_seq]
      rw [awp_cond, hc]
      simp only [Bool.false_eq_true, if_false, awp_exit, KSeq_exit]
      show KBlock b Q (.exit b) s H
      rw [KBlock_exit, if_pos rfl]
      exact h
    | _ => exact h.elim
theorem awp_assoc (x y z : Code) (Q : Post) (s : Nat → AV) (H : AHeap) : awp P hint n H0 (.seq (.seq x y) z) Q s H = awp P hint n H0 (.seq x (.seq y z)) Q s H := by
  simp only [awp_seq]
  congr 1
  funext e s H
  cases e <;> rfl
theorem awp_loop_congr {x y : Code} (h : ∀ Q s H, awp P hint n H0 x Q s H = awp P hint n H0 y Q s H) (Q : Post) (s : Nat → AV) (H : AHeap) : awp P hint n H0 (.loop x) Q s H = awp P hint n H0 (.loop y) Q s H := by
  unfold awp
  simp only [h]
/-- The same for a loop that is written with its three parts. -/
theorem awp_for3 {b b' : Nat} {cR pR body : Code} {c : Operand} (I : Nat → (Nat → AV) → AHeap → Prop) (m : Nat) {Q : Post} {s s' : Nat → AV} {H H' : AHeap} (hm : m ≤ 9223372036854775807) (hW : Weak H0 s H s' H') (h0 : I 0 s' H')
    (step : ∀ k s H, k < m → IntKind.i64.wrap ((k : Int) + 1) = (k : Int) + 1 → I k s H → awp P hint n H0 cR (KTest c true fun s H => awp P hint n H0 body (KBody P hint n H0 pR b b' (fun s' H' => ∃ s'' H'', Weak H0 s' H' s'' H'' ∧ I (k + 1) s'' H'') Q) s H) s H)
    (done : ∀ s H, I m s H → awp P hint n H0 cR (KTest c false fun s H => Q .normal s H) s H) :
    awp P hint n H0 (.loop (.seq (.seq cR (.cond c .skip (.exit b))) (.seq (.block b' body) pR))) (KBlock b Q) s H := by
  rw [awp_loop_congr fun Q s H => awp_assoc cR (.cond c .skip (.exit b)) (.seq (.block b' body) pR) Q s H]
  exact awp_for I m hm hW h0 step done
theorem Weak.cut (objs T : AHeap) (m : Nat) (hm : objs.length = m) (s : Nat → AV) (h : objs.all (AObj.below (H0.length + m)) = true) : Weak H0 s (H0 ++ (objs ++ T)) (fun t => frz (H0 ++ (objs ++ T)) (H0.length + m) (s t)) (H0 ++ objs) := by
  subst hm
  have := Weak.trunc (H0 := H0) s (H0 ++ (objs ++ T)) (H0.length + objs.length) (by omega) (by simp) ?_
  · rwa [show (H0 ++ (objs ++ T)).take (H0.length + objs.length) = H0 ++ objs from by rw [← List.append_assoc, ← List.length_append, List.take_left]] at this
  · intro i o hi ho
    rcases Nat.lt_or_ge i H0.length with h1 | h1
    · exact .inl (by rwa [List.getElem?_append_left h1] at ho)
    · right
      rw [List.getElem?_append_right h1, List.getElem?_append_left (by omega)] at ho
      rw [List.all_eq_true] at h
      exact h o (List.mem_of_getElem? ho)
/-- A round's end: what lies behind the first objects is forgotten. -/
theorem Rnd.cut {I : (Nat → AV) → AHeap → Prop} {s : Nat → AV} {H : AHeap} (objs T : AHeap) (m : Nat) (hm : objs.length = m) (e : H = H0 ++ (objs ++ T)) (h : objs.all (AObj.below (H0.length + m)) = true)
    (hi : I (fun t => frz H (H0.length + m) (s t)) (H0 ++ objs)) : ∃ s'' H'', Weak H0 s H s'' H'' ∧ I s'' H'' := by
  subst e
  exact ⟨_, _, Weak.cut objs T m hm s h, hi⟩
/-- A round's end: nothing is forgotten. -/
theorem Rnd.same {I : (Nat → AV) → AHeap → Prop} {s : Nat → AV} {H : AHeap} (h : I s H) : ∃ s'' H'', Weak H0 s H s'' H'' ∧ I s'' H'' := ⟨s, H, .refl _ _, h⟩
end

/-! ### Arguments of which less is asked -/
mutual
inductive Sub : AV → AV → Prop
  | refl (x : AV) : Sub x x
  | top (x : AV) : Sub x .top
  | nil : Sub (.d (.v (.slice none 0 0))) (.d (.list false []))
  | cap0 : Sub .cap0 (.d (.list false []))
  | nn (es : List (List D)) : Sub (.d (.list true es)) (.d (.list false es))
  | agg {cs cs' : List AV} (h : SubL cs cs') : Sub (.agg cs) (.agg cs')
  | sem {x y : D} (h : ∀ N w v, RD N w x v → RD N w y v) : Sub (.d x) (.d y)
inductive SubL : List AV → List AV → Prop
  | nil : SubL [] []
  | cons {x y : AV} {xs ys : List AV} (h : Sub x y) (t : SubL xs ys) : SubL (x :: xs) (y :: ys)
end
theorem SubL.len : ∀ {cs cs' : List AV}, SubL cs cs' → cs.length = cs'.length
  | _, _, .nil => rfl
  | _, _, .cons _ t => by simp [SubL.len t]
mutual
theorem Sub.ra {H : AHeap} {φ : Phi} {N : Addr → Prop} {w : World} : ∀ {x y : AV} {v : Value}, Sub x y → RA H φ N w x v → RA H φ N w y v
  | _, _, _, .refl _, h => h
  | _, _, _, .top _, _ => .top _
  | _, _, v, .nil, h => by rw [h.closed]; exact .d (.nil _ _ fun _ => rfl)
  | _, _, _, .cap0, h => by cases h with | cap0 A => exact .d (.nil _ _ fun _ => rfl)
  | _, _, _, .nn es, h => by
    cases h with
    | d h =>
      cases h with
      | list nn es ad cap k c hc hk h hd => exact .d (.list false es ad cap k c hc hk h hd)
  | _, _, _, .sem hs, h => by
    cases h with
    | d h => exact .d (hs _ _ _ h)
  | _, _, _, .agg hs, h => by
    cases h with
    | agg cs vs hl hh => exact .agg _ vs (hs.len.symm.trans hl) fun i h1 h2 => SubL.ra hs i (by rw [hs.len]; exact h1) h1 (hh i (by rw [hs.len]; exact h1) h2)
theorem SubL.ra {H : AHeap} {φ : Phi} {N : Addr → Prop} {w : World} : ∀ {cs cs' : List AV}, SubL cs cs' → ∀ (i : Nat) (h1 : i < cs.length) (h2 : i < cs'.length) {v : Value}, RA H φ N w (cs[i]) v → RA H φ N w (cs'[i]) v
  | _, _, .nil, i, h1, _, _, _ => by simp at h1
  | _, _, .cons h t, 0, _, _, _, g => Sub.ra h g
  | _, _, .cons h t, i + 1, h1, h2, v, g => by
    simp only [List.getElem_cons_succ] at g ⊢
    exact SubL.ra t i _ _ g
end
theorem Does.sub {P : Program} {f : FuncId} {args args' : List AV} {H H' : AHeap} {res : ARes} (hs : SubL args args') (h : Does P f args' H res H') : Does P f args H res H' :=
  fun φ N w vals hR hA => h φ N w vals hR ⟨hs.len.symm.trans hA.1, fun i h1 h2 => hs.ra i (by rw [hs.len]; exact h1) h1 (hA.2 i (by rw [hs.len]; exact h1) h2)⟩
theorem KCall.sub {P : Program} {f : FuncId} {args args' : List AV} {H H' : AHeap} {K : AV → AHeap → Prop} {KP : Value → AHeap → Prop} {r : AV} (hs : SubL args args') (h : Does P f args' H (.ok r) H') (hk : K r H') : KCall P f args H K KP := KCall.ok (h.sub hs) hk
attribute [go_sem] awp_test
attribute [congr] ob_congr oalt_congr aite_congr ob2_congr acond_congr
/-! What simp looks into: never code, continuations, or slots that nobody asks for. -/
section
variable {P : Program} {hint : Nat → Bool} {n : Nat} {H0 H H' : AHeap} {s : Nat → AV} {Q : Post} {ops : Array Oper}
@[congr] theorem cg_awp {c : Code} (h : nf H = H') : awp P hint n H0 c Q s H = awp P hint n H0 c Q s H' := by rw [← h]; rfl
@[congr] theorem cg_list {l : List Oper} (h : nf H = H') : awpList P hint n ops Q l s H = awpList P hint n ops Q l s H' := by rw [← h]; rfl
@[congr] theorem cg_step {o : Oper} {K : AV → AHeap → Prop} {KP : Value → AHeap → Prop} (h : nf H = H') : astep P hint s H o K KP = astep P hint s H' o K KP := by rw [← h]; rfl
@[congr] theorem cg_KOp {rest : List Oper} {d : Option Tmp} {r r' : AV} (g : nf r = r') (h : nf H = H') : KOp P hint n ops Q rest s d r H = KOp P hint n ops Q rest s d r' H' := by rw [← g, ← h]; rfl
@[congr] theorem cg_KPan {v : Value} (h : nf H = H') : KPan Q s v H = KPan Q s v H' := by rw [← h]; rfl
@[congr] theorem cg_KSeq {c : Code} {e : AX} (h : nf H = H') : KSeq P hint n H0 c Q e s H = KSeq P hint n H0 c Q e s H' := by rw [← h]; rfl
@[congr] theorem cg_KBlock {i : Nat} {e : AX} (h : nf H = H') : KBlock i Q e s H = KBlock i Q e s H' := by rw [← h]; rfl
@[congr] theorem cg_KLoop {R : (Nat → AV) → AHeap → Prop} {e : AX} (h : nf H = H') : KLoop R Q e s H = KLoop R Q e s H' := by rw [← h]; rfl
@[congr] theorem cg_KTest {c : Operand} {b : Bool} {R : (Nat → AV) → AHeap → Prop} {e : AX} (h : nf H = H') : KTest c b R e s H = KTest c b R e s H' := by rw [← h]; rfl
@[congr] theorem cg_KBody {pR : Code} {b b' : Nat} {R : (Nat → AV) → AHeap → Prop} {e : AX} (h : nf H = H') : KBody P hint n H0 pR b b' R Q e s H = KBody P hint n H0 pR b b' R Q e s H' := by rw [← h]; rfl
@[congr] theorem cg_KCall {f : FuncId} {args args' : List AV} {K : AV → AHeap → Prop} {KP : Value → AHeap → Prop} (g : nf args = args') (h : nf H = H') : KCall P f args H K KP = KCall P f args' H' K KP := by rw [← g, ← h]; rfl
@[congr] theorem cg_KVal {K : AV → AHeap → Prop} {r r' : Value} (g : nf r = r') (h : nf H = H') : KVal K H r = KVal K H' r' := by rw [← g, ← h]; rfl
@[congr] theorem cg_AEnd {rs : List Tmp} {res : ARes} {H1 : AHeap} {e : AX} (h : nf H = H') : AEnd rs H0 res H1 e s H = AEnd rs H0 res H1 e s H' := by rw [← h]; rfl
@[congr] theorem cg_aput {d : Option Tmp} {v : AV} {t t' : Nat} (h : nf t = t') : aput n s d v t = aput n s d v t' := by rw [← h]; rfl
theorem awpList_mk (l : List Oper) : awpList P hint n ops Q l.toArray.toList s H = awpList P hint n ops Q l s H := rfl
@[congr] theorem cg_binK {op : BinOp} {t : TypeId} {u u' v v' : Value} {K : Value → Prop} (g : nf u = u') (h : nf v = v') : binK P op t u v K = binK P op t u' v' K := by rw [← g, ← h]; rfl
@[congr] theorem cg_unK {op : UnOp} {u u' : Value} {K : Value → Prop} (g : nf u = u') : unK op u K = unK op u' K := by rw [← g]; rfl
@[congr] theorem cg_aslice {k : Nat} {lo lo' : Option Int} {hi hi' : Nat → Option Int} {K : AV → AHeap → Prop} {x x' : AV} (f : nf lo = lo') (g : nf x = x') (h : nf H = H') (e : ∀ n, hi n = hi' n) : aslice H k lo hi K x = aslice H' k lo' hi' K x' := by rw [← f, ← g, ← h, funext e]; rfl
@[congr] theorem cg_aslice3 {k : Nat} {lo lo' hi hi' mx mx' : Option Int} {K : AV → AHeap → Prop} {x x' : AV} (f : nf lo = lo') (f2 : nf hi = hi') (f3 : nf mx = mx') (g : nf x = x') (h : nf H = H') : aslice3 H k lo hi mx K x = aslice3 H' k lo' hi' mx' K x' := by rw [← f, ← f2, ← f3, ← g, ← h]; rfl
@[congr] theorem cg_aassert {t : TypeId} {ok : Bool} {K : AV → AHeap → Prop} {v v' : Option Value} (g : nf v = v') (h : nf H = H') : aassert P t ok H K v = aassert P t ok H' K v' := by rw [← g, ← h]; rfl
@[congr] theorem cg_appTo {e : TypeId} {k b : Nat} {news news' : List (List D)} {K : AV → AHeap → Prop} {x x' : AV} (f : nf news = news') (g : nf x = x') (h : nf H = H') : appTo H e k b news K x = appTo H' e k b news' K x' := by rw [← f, ← g, ← h]; rfl
end
attribute [go_sem] awpList_mk
end Go.Proofs.YtkapgooedfompaaAw

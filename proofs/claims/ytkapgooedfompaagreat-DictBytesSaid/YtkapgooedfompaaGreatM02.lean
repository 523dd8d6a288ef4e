/- Code: the evaluator over whole bodies, loops, calls; its soundness; the contract of a function out of its body. What the program says of its types. Printed by a small program of this session. The words by which the evaluator is unfolded. From Does to the walk that a row asks for. What comes in: readings as abstract data. More of what the program says of its types. Printed by a small program of this session. Loops and regions, as they most often stand. Regions that draw their order: in the order of their text is enough, where operations leave the heap alone. Words for the program's data. Structs held against structs. The program's structs held against each other. Values, atoms: the program's data as Lean's. -/
import Derived.Test.YtkapgooedfompaaGreatProg
import Derived.KernelRfl
import Derived.ChangeArms
import Derived.Carry
import Derived.WideShapes
import Derived.SizedLaws
import Derived.Laws.StructEq
import Derived.Test.YtkapgooedfompaaGreatM01
namespace Go.Proofs.YtkapgooedfompaaGreatAw
open Go.RowKit
set_option linter.unusedVariables false
set_option linter.unusedSimpArgs false

inductive AX where
  | normal
  | exit (id : Nat)
  | ret
  | panic (v : Value)
def AX.exitOf : AX → Exit
  | .normal => .normal
  | .exit id => .exit id
  | .ret => .ret
  | .panic v => .panic [{ v := v, recovered := false }]

abbrev Post := AX → (Nat → AV) → AHeap → Prop

def aput (n : Nat) (s : Nat → AV) (d : Option Tmp) (v : AV) : Nat → AV :=
  match d with
  | some d => fun t => if t = d then (if d < n then v else .top) else s t
  | none => s

/-- A call, a panic, or an operation. -/
def astep (P : Program) (hint : Nat → Bool) (s : Nat → AV) (H : AHeap) (o : Oper) (K : AV → AHeap → Prop) (KP : Value → AHeap → Prop) : Prop :=
  match o.op with
  | .panic x => (match closed (aeval s x) with | some (.iface t u) => KP (.iface t u) H | _ => False)
  | .call c => (match c.callee with
    | .value f => (match aeval s f with
      | .fn g caps => ∃ res H', Does P g (c.args.toList.map (aeval s) ++ caps) H res H' ∧ (match res with | .ok r => K r H' | .panic v => KP v H')
      | _ => False)
    | .builtin b => abuiltin P s H b c.args.toList c.argTypes.toList K
    | _ => False)
  | op => aop P s H (match o.dst with | some d => hint d | none => false) op K

/-- Whether a guard's word is the wanted one; what was left out holds no word. -/
def asW (want : Bool) : AV → Option Bool
  | .d (.v (.bool b)) => some (b == want)
  | .tup [] => some false
  | _ => none
def ayield (ops : Array Oper) (s : Nat → AV) (n : Nat) (j : Nat) (want : Bool) : Option Bool :=
  match (ops[j]?).bind (·.dst) with
  | some d => if d < n then asW want (s d) else none
  | none => none

def awpOp (P : Program) (hint : Nat → Bool) (n : Nat) (ops : Array Oper) (Q : Post) (o : Oper) (K : (Nat → AV) → AHeap → Prop) (s : Nat → AV) (H : AHeap) : Prop :=
  match o.guard with
  | none => astep P hint s H o (fun r H' => K (aput n s o.dst r) H') fun v H' => Q (.panic v) s H'
  | some (j, want) => (match ayield ops s n j want with
    | some b => if b = true then astep P hint s H o (fun r H' => K (aput n s o.dst r) H') (fun v H' => Q (.panic v) s H') else K (aput n s o.dst (.tup [])) H
    | none => False)

def awpList (P : Program) (hint : Nat → Bool) (n : Nat) (ops : Array Oper) (Q : Post) : List Oper → (Nat → AV) → AHeap → Prop
  | [], s, H => Q .normal s H
  | o :: rest, s, H => awpOp P hint n ops Q o (awpList P hint n ops Q rest) s H

/-- All orders of a region that draws. -/
def awpAny (P : Program) (hint : Nat → Bool) (n : Nat) (ops : Array Oper) (Q : Post) : Nat → Array Bool → (Nat → AV) → AHeap → Prop
  | 0, listed, s, H => Region.ready .any ops listed = [] ∧ Q .normal s H
  | fuel + 1, listed, s, H => (Region.ready .any ops listed = [] → Q .normal s H) ∧
      ∀ i ∈ Region.ready .any ops listed, match ops[i]? with
        | none => awpAny P hint n ops Q fuel (listed.setIfInBounds i true) s H
        | some o => awpOp P hint n ops Q o (awpAny P hint n ops Q fuel (listed.setIfInBounds i true)) s H

def frz0 (H : AHeap) (m : Nat) : AV → AV
  | .ptr id v i j => if id < m then .ptr id v i j else .top
  | .mp id => if id < m then .mp id else .top
  | .sl id v off len => if id < m then .sl id v off len else match H[id]? with
    | some (.arr _ _ ver es) => if ver = v then .d (.list false ((es.drop off).take len)) else .top
    | _ => .top
  | .agg _ => .top
  | .tup _ => .top
  | .fn f [] => .fn f []
  | .fn _ _ => .top
  | x => x
def frz1 (H : AHeap) (m : Nat) : AV → AV
  | .agg cs => .agg (cs.map (frz0 H m))
  | .fn f cs => .fn f (cs.map (frz0 H m))
  | x => frz0 H m x
def frz (H : AHeap) (m : Nat) : AV → AV
  | .tup cs => .tup (cs.map (frz1 H m))
  | x => frz1 H m x
def below0 (m : Nat) : AV → Bool
  | .ptr id _ _ _ => decide (id < m)
  | .mp id => decide (id < m)
  | .sl id _ _ _ => decide (id < m)
  | .agg _ => false
  | .tup _ => false
  | .fn _ cs => cs.isEmpty
  | _ => true
def below1 (m : Nat) : AV → Bool
  | .agg cs => cs.all (below0 m)
  | .fn _ cs => cs.all (below0 m)
  | x => below0 m x
def AObj.below (m : Nat) : AObj → Bool
  | .arr _ _ _ _ => true
  | .box _ _ _ _ cs => cs.all (below1 m)
  | .mp _ es => es.all fun e => below1 m e.2
  | .dead _ => true
  | .iter m' _ _ => decide (m' < m)

inductive Weak (H0 : AHeap) : (Nat → AV) → AHeap → (Nat → AV) → AHeap → Prop
  | refl (s : Nat → AV) (H : AHeap) : Weak H0 s H s H
  | trunc (s : Nat → AV) (H : AHeap) (m : Nat) (hm : H0.length ≤ m) (hl : m ≤ H.length) (h : ∀ i o, i < m → H[i]? = some o → H0[i]? = some o ∨ o.below m = true) : Weak H0 s H (fun t => frz H m (s t)) (H.take m)
  | virt (s : Nat → AV) (H : AHeap) (t : Nat) (e : TypeId) (k : Nat) (hk : 0 < k) (h : isNone (s t) = true) : Weak H0 s H (fun u => if u = t then .sl H.length 0 0 0 else s u) (H ++ [.arr e k 0 []])
  | virtBox (s : Nat → AV) (H : AHeap) (id : Nat) (e0 : TypeId) (k0 ver m : Nat) (cs : List AV) (j : Nat) (x : AV) (e : TypeId) (k : Nat) (hk : 0 < k) (ho : H[id]? = some (.box e0 k0 ver m cs)) (hj : cs[j]? = some x) (hx : isNone x = true) :
      Weak H0 s H s (H.set id (.box e0 k0 ver m (cs.set j (.sl H.length 0 0 0))) ++ [.arr e k 0 []])
  | virtV (s : Nat → AV) (H : AHeap) (t : Nat) (e : TypeId) (k ver : Nat) (hk : 0 < k) (h : isNone (s t) = true) : Weak H0 s H (fun u => if u = t then .sl H.length ver 0 0 else s u) (H ++ [.arr e k ver []])
  | imp (s s' : Nat → AV) (H : AHeap) (h : ∀ φ N w u v, RA H φ N w (s u) v → RA H φ N w (s' u) v) : Weak H0 s H s' H
  | trans {s1 s2 s3 : Nat → AV} {H1 H2 H3 : AHeap} (h : Weak H0 s1 H1 s2 H2) (g : Weak H0 s2 H2 s3 H3) : Weak H0 s1 H1 s3 H3

/-- Where a walk may forget: ahead of a region that the hint names (1000000 + its number). -/
def firstR : Code → Option Nat
  | .region id _ _ => some id
  | .seq x _ => firstR x
  | _ => none
def hintAt (hint : Nat → Bool) (c : Code) : Bool := match firstR c with | some r => hint (r + 1000000) | none => false
def awp (P : Program) (hint : Nat → Bool) (n : Nat) (H0 : AHeap) : Code → Post → (Nat → AV) → AHeap → Prop
  | .skip, Q, s, H => Q .normal s H
  | .label _, Q, s, H => Q .normal s H
  | .scope x, Q, s, H => awp P hint n H0 x Q s H
  | .region _ ops draw, Q, s, H => if draw then P.follows .mixedOrders = true ∧ awpAny P hint n ops Q ops.size (Array.replicate ops.size false) s H else awpList P hint n ops Q ops.toList s H
  | .seq x y, Q, s, H => awp P hint n H0 x (fun e s' H' => match e with | .normal => (if hintAt hint y = true then ∃ s'' H'', Weak H0 s' H' s'' H'' ∧ awp P hint n H0 y Q s'' H'' else awp P hint n H0 y Q s' H') | e => Q e s' H') s H
  | .cond c x y, Q, s, H => (match aeval s c with | .d (.v (.bool b)) => if b = true then awp P hint n H0 x Q s H else awp P hint n H0 y Q s H | _ => False)
  | .block id x, Q, s, H => awp P hint n H0 x (fun e s' H' => match e with | .exit i => if i = id then Q .normal s' H' else Q (.exit i) s' H' | e => Q e s' H') s H
  | .loop x, Q, s, H => ∃ (I : Nat → (Nat → AV) → AHeap → Prop) (m : Nat), (∃ s' H', Weak H0 s H s' H' ∧ I m s' H') ∧
      ∀ m s H, I m s H → awp P hint n H0 x (fun e s' H' => match e with | .normal => ∃ s'' H'' m', Weak H0 s' H' s'' H'' ∧ I m' s'' H'' ∧ m' < m | e => Q e s' H') s H
  | .exit id, Q, s, H => Q (.exit id) s H
  | .ret, Q, s, H => Q .ret s H
  | _, _, _, _ => False

structure Inv (H0 : AHeap) (φ0 : Phi) (N0 : Addr → Prop) (w0 : World) (n : Nat) (ds : List Deferred) (s : Nat → AV) (H : AHeap) (φ : Phi) (N : Addr → Prop) (a : Act) (w : World) : Prop where
  rel : Rel H φ N w
  tmps : TRel H φ N w s a
  since : Since H0 φ0 N0 w0 H φ N w
  size : a.tmps.size = n
  defers : a.defers = ds

section
variable {P : Program} {H0 : AHeap} {φ0 : Phi} {N0 : Addr → Prop} {w0 : World} {n : Nat} {ds : List Deferred} {hint : Nat → Bool}

def CPost (H0 : AHeap) (φ0 : Phi) (N0 : Addr → Prop) (w0 : World) (n : Nat) (ds : List Deferred) (Q : Post) : Exit → Act → World → Prop := fun e a w =>
  ∃ x s H φ N, e = AX.exitOf x ∧ Q x s H ∧ Inv H0 φ0 N0 w0 n ds s H φ N a w

theorem TRel.put {H : AHeap} {φ : Phi} {N : Addr → Prop} {w : World} {s : Nat → AV} {a : Act} (hT : TRel H φ N w s a) {d : Option Tmp} {r : AV} {x : Value} (hr : RA H φ N w r x) (hs : a.tmps.size = n) :
    TRel H φ N w (aput n s d r) (a.put d x) := by
  intro t
  cases d with
  | none => exact hT t
  | some d =>
    simp only [aput, Act.put]
    by_cases h1 : t = d
    · subst h1
      rw [if_pos rfl]
      by_cases h2 : t < n
      · rw [if_pos h2]
        simpa [Array.getD, Array.size_setIfInBounds, hs, h2] using hr
      · rw [if_neg h2]; exact .top _
    · rw [if_neg h1]
      have := hT t
      by_cases h2 : t < a.tmps.size
      · simpa [Array.getD, Array.size_setIfInBounds, h2, Array.getElem_setIfInBounds_ne _ (Ne.symm h1)] using this
      · simpa [Array.getD, Array.size_setIfInBounds, h2] using this
theorem put_size (a : Act) (d : Option Tmp) (v : Value) : (a.put d v).tmps.size = a.tmps.size := by cases d <;> simp [Act.put]
theorem put_defers (a : Act) (d : Option Tmp) (v : Value) : (a.put d v).defers = a.defers := by cases d <;> rfl

theorem Inv.put {s : Nat → AV} {H H' : AHeap} {φ φ' : Phi} {N N' : Addr → Prop} {a : Act} {w w' : World} (h : Inv H0 φ0 N0 w0 n ds s H φ N a w) (hR : Rel H' φ' N' w') (hS : Since H φ N w H' φ' N' w') {r : AV} {x : Value} (hr : RA H' φ' N' w' r x) (d : Option Tmp) :
    Inv H0 φ0 N0 w0 n ds (aput n s d r) H' φ' N' (a.put d x) w' where
  rel := hR
  tmps := TRel.put (fun t => (h.tmps t).since h.rel hS) hr h.size
  since := h.since.trans hS
  size := (put_size _ _ _).trans h.size
  defers := (put_defers _ _ _).trans h.defers

theorem astep_ok {s : Nat → AV} {H : AHeap} {φ : Phi} {N : Addr → Prop} {a : Act} {w : World} {o : Oper} (hI : Inv H0 φ0 N0 w0 n ds s H φ N a w) {K : AV → AHeap → Prop} {KP : Value → AHeap → Prop} (h : astep P hint s H o K KP)
    {next : Act → World → Prop} {Q : Exit → Act → World → Prop}
    (hn : ∀ r H' φ' N' x w', K r H' → Rel H' φ' N' w' → Since H φ N w H' φ' N' w' → RA H' φ' N' w' r x → next (a.put o.dst x) w')
    (hp : ∀ v H' φ' N' w', KP v H' → Rel H' φ' N' w' → Since H φ N w H' φ' N' w' → Q (.panic [{ v := v, recovered := false }]) a w') : o.wp P a w next Q := by
  have plain : ∀ r H', K r H' ∧ OpOk P o a w H φ N r H' → o.wp P a w next Q := by
    rintro r H' ⟨hK, x, w', φ', N', hrun, hR, hS, hr⟩
    unfold Oper.wp
    rcases hrun with hrun | ⟨hrun, rfl⟩
    · rw [hrun]; exact hn r H' φ' N' x w' hK hR hS hr
    · rw [hrun]; exact hn r H' φ' N' undef w' hK hR hS hr
  unfold astep at h
  split at h
  · rename_i x ho
    split at h
    · rename_i t u hx
      have hv := closed_ok (aeval_ok hI.tmps x) hx
      unfold Oper.wp
      have hrun : (execOp a.eval o).run P w = .halt (.panic (.iface t u)) w := by simp [execOp, ho, hv, Instr.panic, goPanic]
      rw [hrun]
      exact hp _ H φ N w h hI.rel Since.refl
    · exact h.elim
  · rename_i c ho
    split at h
    · rename_i f hc
      split at h
      · rename_i g caps hf
        obtain ⟨res, H', hD, h⟩ := h
        have hfv := aeval_ok hI.tmps f
        rw [hf] at hfv
        generalize hfe : a.eval f = fv at hfv
        cases hfv with
        | fn _ _ vs hl hh =>
        have hargs : RAs H φ N w (c.args.toList.map (aeval s) ++ caps) (c.args.map a.eval ++ vs) := by
          refine ⟨by simp [hl], fun i h1 h2 => ?_⟩
          by_cases hi : i < c.args.size
          · rw [List.getElem_append_left (by simpa using hi), Array.getElem_append_left (by simpa using hi)]
            simp only [List.getElem_map, Array.getElem_map, Array.getElem_toList]
            exact aeval_ok hI.tmps _
          · rw [List.getElem_append_right (by simpa using hi), Array.getElem_append_right (by simpa using hi)]
            simp only [List.length_map, Array.length_toList, Array.size_map]
            exact hh _ (by simp at h1; omega) (by simp at h2; omega)
        have hcall := hD φ N w _ hI.rel hargs
        have hex : ∀ r, (callFunc g (c.args.map a.eval ++ vs)).run P w = r → (execOp a.eval o).run P w = r := by
          intro r hr
          simp [execOp, ho, resolve, hc, hfe, Deferred.ofValue, invoke, hr]
        unfold Oper.wp
        rcases hcall with ⟨hrun, hC⟩ | ⟨v, w', hrun, φ', N', hR, hS, hE⟩
        · rw [hex _ hrun]
          refine Calls.mono hC ?_
          rintro e w' ⟨φ', N', hR, hS, hE⟩
          cases res with
          | ok r =>
            cases e with
            | returned v => exact hn r H' φ' N' v w' h hR hS hE
            | panicked ch => exact hE.elim
            | outgrown => exact hE.elim
          | panic v =>
            cases e with
            | returned _ => exact hE.elim
            | panicked ch =>
              cases ch with
              | nil => exact hE.elim
              | cons p ps =>
                cases ps with
                | nil =>
                  have : p = { v := v, recovered := false } := hE
                  subst this
                  exact hp v H' φ' N' w' h hR hS
                | cons _ _ => exact hE.elim
            | outgrown => exact hE.elim
        · rw [hex _ hrun]
          cases res with
          | ok r => exact hn r H' φ' N' v w' h hR hS hE
          | panic _ => exact hE.elim
      · exact h.elim
    · rename_i b hc
      obtain ⟨r, H', hK, hok⟩ := abuiltin_ok hI.rel hI.tmps ho hc h
      exact plain r H' ⟨hK, hok⟩
    · exact h.elim
  · obtain ⟨r, H', hK, hok⟩ := aop_ok hI.rel hI.tmps h
    exact plain r H' ⟨hK, hok⟩

theorem awpOp_ok {ops : Array Oper} {Q : Post} {s : Nat → AV} {H : AHeap} {φ : Phi} {N : Addr → Prop} {a : Act} {w : World} {o : Oper} (hI : Inv H0 φ0 N0 w0 n ds s H φ N a w) {K : (Nat → AV) → AHeap → Prop} (h : awpOp P hint n ops Q o K s H)
    {next : Act → World → Prop} (hn : ∀ s' H' φ' N' a' w', K s' H' → Inv H0 φ0 N0 w0 n ds s' H' φ' N' a' w' → next a' w') :
    if Region.wanted o (yielded ops a.tmps) then o.wp P a w next (CPost H0 φ0 N0 w0 n ds Q) ∨ (o.asks P a w ∧ LetsOut (CPost H0 φ0 N0 w0 n ds Q)) else next (a.put o.dst undef) w := by
  have step : astep P hint s H o (fun r H' => K (aput n s o.dst r) H') (fun v H' => Q (.panic v) s H') → o.wp P a w next (CPost H0 φ0 N0 w0 n ds Q) := fun h =>
    astep_ok hI h (fun r H' φ' N' x w' hK hR hS hr => hn _ _ φ' N' _ _ hK (hI.put hR hS hr _))
      (fun v H' φ' N' w' hq hR hS => ⟨.panic v, s, H', φ', N', rfl, hq, hR, fun t => (hI.tmps t).since hI.rel hS, hI.since.trans hS, hI.size, hI.defers⟩)
  unfold awpOp at h
  split at h
  · rename_i hg
    have : Region.wanted o (yielded ops a.tmps) = true := by simp [Region.wanted, hg]
    rw [if_pos this]
    exact .inl (step h)
  · rename_i j want hg
    split at h
    · rename_i b hb
      have hw : Region.wanted o (yielded ops a.tmps) = b := by
        unfold ayield at hb
        split at hb
        · rename_i d hd
          split at hb
          · rename_i hdn
            have := hI.tmps d
            have hlt : d < a.tmps.size := by rw [hI.size]; exact hdn
            simp only [Array.getD, hlt, dif_pos] at this
            have this : RA H φ N w (s d) a.tmps[d] := this
            unfold asW at hb
            split at hb
            · rename_i b' hs
              cases hb
              rw [hs] at this
              have hv := this.closed
              have hv' : a.tmps[d] = .bool b' := hv
              simp [Region.wanted, hg, yielded, hd, hlt, hv']
            · rename_i hs
              cases hb
              rw [hs] at this
              generalize hx : a.tmps[d] = x at this
              cases this with
              | tup cs vs hl h =>
                simp [Region.wanted, hg, yielded, hd, hlt, hx]
            · cases hb
          · cases hb
        · cases hb
      cases b with
      | true =>
        rw [if_pos rfl] at h
        rw [if_pos hw]
        exact .inl (step h)
      | false =>
        rw [if_neg (by simp)] at h
        rw [if_neg (by simp [hw])]
        exact hn _ _ φ N _ _ h (hI.put hI.rel Since.refl (.tup [] #[] rfl fun i h => by simp at h) _)
    · exact h.elim

theorem awpList_ok {ops : Array Oper} {Q : Post} : ∀ (l : List Oper) (k : Nat), (∀ j, l[j]? = ops[k + j]?) → ∀ {s : Nat → AV} {H : AHeap} {φ : Phi} {N : Addr → Prop} {a : Act} {w : World}, Inv H0 φ0 N0 w0 n ds s H φ N a w →
    awpList P hint n ops Q l s H → wpOps P ops (CPost H0 φ0 N0 w0 n ds Q) (List.range' k l.length) a w
  | [], k, hl, s, H, φ, N, a, w, hI, h => ⟨.normal, s, H, φ, N, rfl, h, hI⟩
  | o :: rest, k, hl, s, H, φ, N, a, w, hI, h => by
    have h0 : ops[k]? = some o := by simpa using (hl 0).symm
    simp only [List.length_cons, List.range'_succ]
    rw [wpOps_cons]
    unfold wpOp
    simp only [h0]
    exact awpOp_ok hI h fun s' H' φ' N' a' w' hK hI' => awpList_ok rest (k + 1) (fun j => by have := hl (j + 1); rw [List.getElem?_cons_succ] at this; rw [this]; congr 1; omega) hI' hK

theorem awpAny_ok {ops : Array Oper} {Q : Post} : ∀ (fuel : Nat) (listed : Array Bool) {s : Nat → AV} {H : AHeap} {φ : Phi} {N : Addr → Prop} {a : Act} {w : World}, Inv H0 φ0 N0 w0 n ds s H φ N a w →
    awpAny P hint n ops Q fuel listed s H → wpAny P .any ops (CPost H0 φ0 N0 w0 n ds Q) fuel listed a w
  | 0, listed, s, H, φ, N, a, w, hI, h => ⟨h.1, .normal, s, H, φ, N, rfl, h.2, hI⟩
  | fuel + 1, listed, s, H, φ, N, a, w, hI, h => by
    refine ⟨fun hr => ⟨.normal, s, H, φ, N, rfl, h.1 hr, hI⟩, fun i hi => ?_⟩
    have hi' := h.2 i hi
    unfold wpOp
    split at hi'
    · rename_i hop
      simp only [hop]
      exact awpAny_ok fuel _ hI hi'
    · rename_i o hop
      simp only [hop]
      exact awpOp_ok hI hi' fun s' H' φ' N' a' w' hK hI' => awpAny_ok fuel _ hI' hK

inductive Bel (m : Nat) : AV → Prop
  | top : Bel m .top
  | d (x : D) : Bel m (.d x)
  | cap0 : Bel m .cap0
  | ptr (id ver i j : Nat) (h : id < m) : Bel m (.ptr id ver i j)
  | iptr (cs : List D) : Bel m (.iptr cs)
  | sl (id ver off len : Nat) (h : id < m) : Bel m (.sl id ver off len)
  | agg (cs : List AV) (h : ∀ i (hi : i < cs.length), Bel m (cs[i])) : Bel m (.agg cs)
  | tup (cs : List AV) (h : ∀ i (hi : i < cs.length), Bel m (cs[i])) : Bel m (.tup cs)
  | fn (f : FuncId) (cs : List AV) (h : ∀ i (hi : i < cs.length), Bel m (cs[i])) : Bel m (.fn f cs)
  | mp (id : Nat) (h : id < m) : Bel m (.mp id)
theorem Bel.mono {m m' : Nat} {x : AV} (h : Bel m x) (hm : m ≤ m') : Bel m' x := by
  induction h with
  | top => exact .top
  | d => exact .d _
  | cap0 => exact .cap0
  | ptr _ _ _ _ h => exact .ptr _ _ _ _ (by omega)
  | iptr => exact .iptr _
  | sl _ _ _ _ h => exact .sl _ _ _ _ (by omega)
  | agg cs _ ih => exact .agg cs ih
  | tup cs _ ih => exact .tup cs ih
  | fn f cs _ ih => exact .fn f cs ih
  | mp _ h => exact .mp _ (by omega)
theorem RA.bel {H : AHeap} {φ : Phi} {N : Addr → Prop} {w : World} {x : AV} {v : Value} (h : RA H φ N w x v) : Bel H.length x := by
  induction h with
  | top => exact .top
  | d => exact .d _
  | cap0 => exact .cap0
  | ptr id ver i j A o ho => exact .ptr _ _ _ _ (len_of_get ho)
  | iptr => exact .iptr _
  | sl id ver off len A l m o ho => exact .sl _ _ _ _ (len_of_get ho)
  | agg cs vs hl _ ih => exact .agg cs fun i hi => ih i hi (by omega)
  | tup cs vs hl _ ih => exact .tup cs fun i hi => ih i hi (by omega)
  | fn f cs vs hl _ ih => exact .fn f cs fun i hi => ih i hi (by omega)
  | mp id B c kk es ho => exact .mp _ (len_of_get ho)
theorem bel0 {m : Nat} {x : AV} (h : below0 m x = true) : Bel m x := by
  cases x with
  | top => exact .top
  | d => exact .d _
  | cap0 => exact .cap0
  | ptr id _ _ _ => exact .ptr _ _ _ _ (by simpa [below0] using h)
  | iptr => exact .iptr _
  | sl id _ _ _ => exact .sl _ _ _ _ (by simpa [below0] using h)
  | agg => cases h
  | tup => cases h
  | fn f cs =>
    have : cs = [] := by simpa [below0] using h
    subst this
    exact .fn f [] fun i hi => by simp at hi
  | mp id => exact .mp _ (by simpa [below0] using h)
theorem bel1 {m : Nat} {x : AV} (h : below1 m x = true) : Bel m x := by
  cases x with
  | agg cs =>
    simp only [below1, List.all_eq_true] at h
    exact .agg cs fun i hi => bel0 (h _ (List.getElem_mem hi))
  | fn f cs =>
    simp only [below1, List.all_eq_true] at h
    exact .fn f cs fun i hi => bel0 (h _ (List.getElem_mem hi))
  | _ => exact bel0 h

def Frozen (H : AHeap) (φ : Phi) (m : Nat) (N : Addr → Prop) : Addr → Prop := fun a =>
  N a ∨ ∃ id B c e k ver es, m ≤ id ∧ H[id]? = some (.arr e k ver es) ∧ φ id = some (B, c) ∧ a.block = B ∧ a.spot = none ∧ a.off < es.length * k

theorem get_take {H : AHeap} {m id : Nat} (h : id < m) : (H.take m)[id]? = H[id]? := by rw [List.getElem?_take, if_pos h]
theorem RD.frozen {H : AHeap} {φ : Phi} {m : Nat} {N : Addr → Prop} {w : World} {x : D} {v : Value} (h : RD N w x v) : RD (Frozen H φ m N) w x v := h.mono (fun _ h => .inl h) fun _ _ _ h => h
theorem RA.take {H : AHeap} {φ : Phi} {N : Addr → Prop} {w : World} {x : AV} {v : Value} (h : RA H φ N w x v) {m : Nat} (hb : Bel m x) : RA (H.take m) φ (Frozen H φ m N) w x v := by
  induction h with
  | top => exact .top _
  | d hd => exact .d hd.frozen
  | cap0 => exact .cap0 _
  | ptr id ver i j A o ho hv hp => cases hb with | ptr _ _ _ _ h => exact .ptr _ _ _ _ _ o (by rw [get_take h]; exact ho) hv hp
  | iptr cs ad c hc hd => exact .iptr cs ad c (fun t ht => ⟨.inl (hc t ht).1, (hc t ht).2⟩) fun t ht => (hd t ht).frozen
  | sl id ver off len A l m' o ho hv hp => cases hb with | sl _ _ _ _ h => exact .sl _ _ _ _ _ _ _ o (by rw [get_take h]; exact ho) hv hp
  | agg cs vs hl _ ih => cases hb with | agg _ hb => exact .agg cs vs hl fun i h1 h2 => ih i h1 h2 (hb i h1)
  | tup cs vs hl _ ih => cases hb with | tup _ hb => exact .tup cs vs hl fun i h1 h2 => ih i h1 h2 (hb i h1)
  | fn f cs vs hl _ ih => cases hb with | fn _ _ hb => exact .fn f cs vs hl fun i h1 h2 => ih i h1 h2 (hb i h1)
  | mp id B c kk es ho hp => cases hb with | mp _ h => exact .mp id B c kk es (by rw [get_take h]; exact ho) hp

theorem frz0_ok {H : AHeap} {φ : Phi} {N : Addr → Prop} {w : World} (hR : Rel H φ N w) (m : Nat) {x : AV} {v : Value} (h : RA H φ N w x v) : RA (H.take m) φ (Frozen H φ m N) w (frz0 H m x) v := by
  cases x with
  | ptr id ver i j =>
    simp only [frz0]
    split
    · rename_i hlt; exact h.take (.ptr _ _ _ _ hlt)
    · exact .top _
  | mp id =>
    simp only [frz0]
    split
    · rename_i hlt; exact h.take (.mp _ hlt)
    · exact .top _
  | sl id ver off len =>
    simp only [frz0]
    split
    · rename_i hlt; exact h.take (.sl _ _ _ _ hlt)
    · rename_i hge
      split
      · rename_i e k v' es hob
        split
        · rename_i hv
          subst hv
          cases h with
          | sl _ _ _ _ A l m' o ho hv hp =>
          rw [hob] at ho; cases ho
          obtain ⟨rfl, h1, h2⟩ := hp rfl
          simp only [AObj.len] at h1
          by_cases hl0 : l = 0
          · subst hl0
            simp only [List.take_zero]
            exact .d (.nil _ _ (by rcases h2 with ⟨_, _, _, rfl⟩ | ⟨B, c, _, _, rfl, _⟩; exact fun _ => rfl; exact fun h => by cases h))
          rcases h2 with ⟨_, h3, _⟩ | ⟨B, c, h3, h4, rfl, rfl⟩
          · omega
          have hobj := hR.obj id _ hob
          cases hobj with
          | arr _ _ _ _ hk hes hbl =>
          rcases hbl with ⟨g0, _⟩ | ⟨B', cap, cur, g1, g2, g3, g4, g5, g6⟩
          · rw [g0] at h3; cases h3
          have hφ := h3
          obtain ⟨e1, e2⟩ := Prod.mk.inj (Option.some.inj (g1.symm.trans h3))
          subst e1 e2
          have hel : ((es.drop off).take l).length = l := by simp; omega
          have key := RD.list (N := Frozen H φ m N) (w := w) false ((es.drop off).take l) ⟨B', off * k, none⟩ (cap - off) k (fun i j => cur.getD ((off + i) * k + j) undef) (by rw [hel]; omega)
            (fun e he => hes e (List.mem_of_mem_drop (List.mem_of_mem_take he))) (fun i j hi hj => by
              rw [hel] at hi
              have hlt : (off + i) * k + j < es.length * k := place_lt hj (by omega)
              have hlt2 : (off + i) * k + j < cur.size := by have := Nat.mul_le_mul_right k g3; omega
              have hpos : off * k + (i * k + j) = (off + i) * k + j := by rw [Nat.add_mul]; omega
              rw [add_plain, hpos]
              refine ⟨.inr ⟨id, B', cap, e, k, v', es, by omega, hob, hφ, rfl, rfl, hlt⟩, ?_⟩
              simp [World.cell?, g2, Array.getD, hlt2]) (fun i hi j hj => by
              rw [hel] at hi
              simp only [List.getElem_take, List.getElem_drop] at hj ⊢
              obtain ⟨u, hu, hd⟩ := g6 (off + i) (by omega) j hj
              have hget : cur.getD ((off + i) * k + j) undef = u := by
                rw [Array.getD_eq_getD_getElem?, hu]; rfl
              simp only [hget]
              exact hd.frozen)
          rw [hel] at key
          exact .d key
        · exact .top _
      · exact .top _
  | agg => exact .top _
  | tup => exact .top _
  | fn f cs =>
    cases cs with
    | nil => exact h.take (.fn f [] fun i hi => by simp at hi)
    | cons _ _ => exact .top _
  | top => exact .top _
  | d => exact h.take (.d _)
  | cap0 => exact h.take .cap0
  | iptr => exact h.take (.iptr _)
theorem frz1_ok {H : AHeap} {φ : Phi} {N : Addr → Prop} {w : World} (hR : Rel H φ N w) (m : Nat) {x : AV} {v : Value} (h : RA H φ N w x v) : RA (H.take m) φ (Frozen H φ m N) w (frz1 H m x) v := by
  cases x with
  | agg cs =>
    cases h with
    | agg _ vs hl hh => exact .agg _ vs (by simpa using hl) fun i h1 h2 => by simpa using frz0_ok hR m (hh i (by simpa using h1) h2)
  | fn f cs =>
    cases h with
    | fn _ _ vs hl hh => exact .fn f _ vs (by simpa using hl) fun i h1 h2 => by simpa using frz0_ok hR m (hh i (by simpa using h1) h2)
  | _ => exact frz0_ok hR m h
theorem frz_ok {H : AHeap} {φ : Phi} {N : Addr → Prop} {w : World} (hR : Rel H φ N w) (m : Nat) {x : AV} {v : Value} (h : RA H φ N w x v) : RA (H.take m) φ (Frozen H φ m N) w (frz H m x) v := by
  cases x with
  | tup cs =>
    cases h with
    | tup _ vs hl hh => exact .tup _ vs (by simpa using hl) fun i h1 h2 => by simpa using frz1_ok hR m (hh i (by simpa using h1) h2)
  | _ => exact frz1_ok hR m h

theorem Rel.take {H : AHeap} {φ : Phi} {N : Addr → Prop} {w : World} (hR : Rel H φ N w) (m : Nat) (hb : ∀ i o, i < m → H[i]? = some o → (∀ e k ver n cs, o = .box e k ver n cs → ∀ c ∈ cs, Bel m c) ∧ (∀ kk es, o = .mp kk es → ∀ e ∈ es, Bel m e.2) ∧ ∀ m' since seen, o = .iter m' since seen → m' < m) :
    Rel (H.take m) φ (Frozen H φ m N) w where
  obj id o h := by
    have hlt : id < m := by have := len_of_get h; simp at this; omega
    rw [get_take hlt] at h
    obtain ⟨hb1, hb2, hb3⟩ := hb id o hlt h
    cases hR.obj id o h with
    | arr e k ver es hk hes hh =>
      refine .arr e k ver es hk hes ?_
      rcases hh with hh | ⟨B, cap, cur, g1, g2, g3, g4, g5, g6⟩
      · exact .inl hh
      · refine .inr ⟨B, cap, cur, g1, g2, g3, g4, g5, fun i hi j hj => ?_⟩
        obtain ⟨c, hc, hd⟩ := g6 i hi j hj
        exact ⟨c, hc, hd.frozen⟩
    | box e k ver n cs B cap cur hk hn hp hbk hc hm hs hh =>
      refine .box e k ver n cs B cap cur hk hn hp hbk hc hm hs fun j hj => ?_
      obtain ⟨c, hc, hd⟩ := hh j hj
      exact ⟨c, hc, hd.take (hb1 e k ver n cs rfl _ (List.getElem_mem hj))⟩
    | mp kk es B cap ents clock hp hbk hs hck hbn hh => exact .mp kk es B cap ents clock hp hbk hs hck hbn fun j hj hj2 => ⟨(hh j hj hj2).1, (hh j hj hj2).2.take (hb2 kk es rfl _ (List.getElem_mem hj))⟩
    | dead ver hp => exact .dead ver hp
    | iter m' since seen B cap bm cm kk es hp hbk hm hpm => exact .iter m' since seen B cap bm cm kk es hp hbk (by rw [get_take (hb3 m' since seen rfl)]; exact hm) hpm
  inj i j B c c' hi hj h1 h2 := hR.inj i j B c c' (by simp at hi; omega) (by simp at hj; omega) h1 h2
  live a ha := by
    rcases ha with ha | ⟨id, B, c, e, k, ver, es, hid, ho, hp, h1, h2, h3⟩
    · exact hR.live a ha
    · cases hR.obj id _ ho with
      | arr _ _ _ _ hk hes hh =>
      rcases hh with ⟨g0, _⟩ | ⟨B', cap, cur, g1, g2, g3, g4, g5, g6⟩
      · rw [g0] at hp; cases hp
      · rw [g1] at hp; cases hp
        have hlt : a.off < cur.size := by have := Nat.mul_le_mul_right k g3; omega
        exact ⟨cur[a.off], by simp [World.cell?, h1, g2, h2, hlt]⟩
  apart a id B c ha hid hp := by
    simp at hid
    rcases ha with ha | ⟨id', B', c', e, k, ver, es, hid', ho, hp', h1, h2, h3⟩
    · exact hR.apart a id B c ha (by omega) hp
    · intro he
      have := hR.inj id id' B c c' (by omega) (len_of_get ho) hp (by rw [← he, h1]; exact hp')
      omega

theorem Since.take {H : AHeap} {φ : Phi} {N : Addr → Prop} {w : World} (h : Since H0 φ0 N0 w0 H φ N w) (m : Nat) (hm : H0.length ≤ m) (hl : m ≤ H.length) : Since H0 φ0 N0 w0 (H.take m) φ (Frozen H φ m N) w where
  len := by simp; omega
  os := h.os
  tape := h.tape
  output := h.output
  size := h.size
  keep := h.keep
  own id B c hid := h.own id B c (by simp at hid; omega)
  mono a ha := .inl (h.mono a ha)
  compat id o ho := by
    obtain ⟨o', h1, h2⟩ := h.compat id o ho
    exact ⟨o', by rw [get_take (by have := len_of_get ho; omega)]; exact h1, h2⟩

theorem Weak.ok {s s' : Nat → AV} {H H' : AHeap} (hW : Weak H0 s H s' H') (hR0 : Rel H0 φ0 N0 w0) : ∀ {φ : Phi} {N : Addr → Prop} {a : Act} {w : World}, Inv H0 φ0 N0 w0 n ds s H φ N a w → ∃ φ' N', Inv H0 φ0 N0 w0 n ds s' H' φ' N' a w := by
  induction hW with
  | refl => exact fun h => ⟨_, _, h⟩
  | trunc s H m hm hl hb =>
    intro φ N a w hI
    refine ⟨φ, Frozen H φ m N, hI.rel.take m fun i o hi ho => ?_, fun t => frz_ok hI.rel m (hI.tmps t), hI.since.take m hm hl, hI.size, hI.defers⟩
    rcases hb i o hi ho with h0 | h0
    · have hob := hR0.obj i o h0
      refine ⟨?_, ?_, ?_⟩
      · rintro e k ver n cs rfl c hc
        cases hob with
        | box _ _ _ _ _ B cap cur hk hn hp hbk hc' hm' hs hh =>
        obtain ⟨j, hj, rfl⟩ := List.mem_iff_getElem.1 hc
        obtain ⟨u, _, hu⟩ := hh j hj
        exact hu.bel.mono hm
      · rintro kk es rfl e he
        cases hob with
        | mp _ _ B cap ents clock hp hbk hs hck hbn hh =>
        obtain ⟨j, hj, rfl⟩ := List.mem_iff_getElem.1 he
        exact (hh j hj (by omega)).2.bel.mono hm
      · rintro m' since seen rfl
        cases hob with
        | iter _ _ _ B cap bm cm kk es hp hbk hmm hpm => exact Nat.lt_of_lt_of_le (len_of_get hmm) hm
    · refine ⟨?_, ?_, ?_⟩
      · rintro e k ver n cs rfl c hc
        simp only [AObj.below, List.all_eq_true] at h0
        exact bel1 (h0 c hc)
      · rintro kk es rfl e he
        simp only [AObj.below, List.all_eq_true] at h0
        exact bel1 (h0 e he)
      · rintro m' since seen rfl
        simpa [AObj.below] using h0
  | virt s H t e k hk h =>
    intro φ N a w hI
    have hS := Since.virt hI.rel (.arr e k 0 [])
    refine ⟨φ.put H.length none, N, hI.rel.virt e k hk, fun u => ?_, hI.since.trans hS, hI.size, hI.defers⟩
    by_cases hu : u = t
    · subst hu
      simp only [if_pos]
      obtain ⟨A, hA⟩ := isNone_ok (hI.tmps u) h
      rw [hA]
      exact .sl _ _ _ _ _ _ _ (.arr e k 0 []) (by simp) (Nat.le_refl _) fun _ => ⟨rfl, by simp [AObj.len], .inl ⟨Phi.put_same _ _ _, rfl, rfl, rfl⟩⟩
    · simp only [if_neg hu]
      exact (hI.tmps u).since hI.rel hS
  | imp s s' H h => exact fun hI => ⟨_, _, hI.rel, fun u => h _ _ _ _ _ (hI.tmps u), hI.since, hI.size, hI.defers⟩
  | virtV s H t e k ver hk h =>
    intro φ N a w hI
    have hS := Since.virt hI.rel (.arr e k ver [])
    refine ⟨φ.put H.length none, N, hI.rel.virt e k hk ver, fun u => ?_, hI.since.trans hS, hI.size, hI.defers⟩
    by_cases hu : u = t
    · subst hu
      simp only [if_pos]
      obtain ⟨A, hA⟩ := isNone_ok (hI.tmps u) h
      rw [hA]
      exact .sl _ _ _ _ _ _ _ (.arr e k ver []) (by simp) (Nat.le_refl _) fun _ => ⟨rfl, by simp [AObj.len], .inl ⟨Phi.put_same _ _ _, rfl, rfl, rfl⟩⟩
    · simp only [if_neg hu]
      exact (hI.tmps u).since hI.rel hS
  | virtBox s H id e0 k0 ver m cs j x e k hk ho hj hx =>
    intro φ N a w hI
    have hS := Since.virt hI.rel (.arr e k 0 [])
    have hR := hI.rel.virt e k hk
    have ho' : (H ++ [AObj.arr e k 0 []])[id]? = some (.box e0 k0 ver m cs) := by rw [List.getElem?_append_left (len_of_get ho)]; exact ho
    have hob := hR.obj id _ ho'
    cases hob with
    | box _ _ _ _ _ B cap cur g1 g2 g3 g4 g5 g6 g7 g8 =>
    have hS2 : Since (H ++ [AObj.arr e k 0 []]) (φ.put H.length none) N w ((H ++ [AObj.arr e k 0 []]).set id (.box e0 k0 ver m (cs.set j (.sl H.length 0 0 0)))) (φ.put H.length none) N w :=
      Since.set ho' g3 rfl rfl rfl (fun kk es he => by cases he) rfl rfl rfl rfl fun _ _ => rfl
    have hset : (H ++ [AObj.arr e k 0 []]).set id (.box e0 k0 ver m (cs.set j (.sl H.length 0 0 0))) = H.set id (.box e0 k0 ver m (cs.set j (.sl H.length 0 0 0))) ++ [.arr e k 0 []] := List.set_append_left _ _ (len_of_get ho)
    rw [← hset]
    refine ⟨φ.put H.length none, N, hR.set ho' g3 hS2 (fun _ _ => rfl) ?_, fun u => ((hI.tmps u).since hI.rel hS).since hR hS2, (hI.since.trans hS).trans hS2, hI.size, hI.defers⟩
    refine .box e0 k0 ver m _ B cap cur g1 (by simpa using g2) g3 g4 g5 g6 g7 fun i hi => ?_
    simp only [List.length_set] at hi
    obtain ⟨c, hc, hd⟩ := g8 i hi
    refine ⟨c, hc, ?_⟩
    by_cases he : i = j
    · subst he
      simp only [List.getElem_set_self]
      rw [List.getElem?_eq_getElem (by simpa using hi)] at hj
      cases hj
      obtain ⟨A, hA⟩ := isNone_ok hd hx
      rw [hA]
      refine .sl _ _ _ _ _ _ _ (.arr e k 0 []) ?_ (Nat.le_refl _) fun _ => ⟨rfl, by simp [AObj.len], .inl ⟨Phi.put_same _ _ _, rfl, rfl, rfl⟩⟩
      rw [List.getElem?_set_ne (by have := len_of_get ho; omega)]
      simp
    · rw [List.getElem_set_ne (Ne.symm he)]
      exact hd.since hR hS2
  | trans _ _ ih1 ih2 =>
    intro φ N a w hI
    obtain ⟨φ1, N1, h1⟩ := ih1 hI
    exact ih2 h1

theorem rounds_mono {P : Program} {c : Code} {Q : Exit → Act → World → Prop} : ∀ (m n : Nat), m ≤ n → ∀ a w, Code.rounds P c Q m a w → Code.rounds P c Q n a w
  | 0, _, _, _, _, h => h.elim
  | m + 1, 0, hle, _, _, _ => by omega
  | m + 1, n + 1, hle, a, w, h => wp_mono h fun e a w hq => by
    cases e with
    | normal => exact rounds_mono m n (by omega) a w hq
    | _ => exact hq
theorem wp_loop_ind {P : Program} {c : Code} {Q : Exit → Act → World → Prop} (J : Nat → Act → World → Prop) {n : Nat} {a : Act} {w : World}
    (round : ∀ n a w, J n a w → c.wp P (Exit.then (fun a' w' => ∃ m, m < n ∧ J m a' w') Q) a w) (h0 : J n a w) : (Code.loop c).wp P Q a w := by
  refine wp_loop_rounds (n + 1) ?_
  induction n using Nat.strongRecOn generalizing a w with
  | _ n ih =>
    rw [rounds_succ]
    refine wp_mono (round n a w h0) fun e a' w' hq => ?_
    cases e with
    | normal =>
      obtain ⟨m, hm, hJ⟩ := hq
      exact rounds_mono (m + 1) n (by omega) _ _ (ih m hm hJ)
    | _ => exact hq
theorem awp_ok (hR0 : Rel H0 φ0 N0 w0) : ∀ (c : Code) (Q : Post) {s : Nat → AV} {H : AHeap} {φ : Phi} {N : Addr → Prop} {a : Act} {w : World}, Inv H0 φ0 N0 w0 n ds s H φ N a w → awp P hint n H0 c Q s H → c.wp P (CPost H0 φ0 N0 w0 n ds Q) a w := by
  intro c
  induction c with
  | skip => exact fun Q s H φ N a w hI h => wp_skip ⟨.normal, s, H, φ, N, rfl, h, hI⟩
  | label l => exact fun Q s H φ N a w hI h => wp_label ⟨.normal, s, H, φ, N, rfl, h, hI⟩
  | region id ops draw =>
    intro Q s H φ N a w hI h
    cases draw with
    | false =>
      have h' : awpList P hint n ops Q ops.toList s H := h
      refine wp_region ?_
      have := awpList_ok ops.toList 0 (fun j => by simp) hI h'
      rw [List.range_eq_range']
      simpa using this
    | true =>
      obtain ⟨hm, h'⟩ : P.follows .mixedOrders = true ∧ awpAny P hint n ops Q ops.size (Array.replicate ops.size false) s H := h
      refine wp_region_any hm ?_
      have hI' : Inv H0 φ0 N0 w0 n ds s H φ N a { w with drawn := w.drawn + 1 } :=
        ⟨hI.rel.drawn rfl rfl rfl rfl, fun t => RA.since hI.rel (Since.drawn (w' := { w with drawn := w.drawn + 1 }) rfl rfl rfl rfl) (hI.tmps t), hI.since.trans (Since.drawn rfl rfl rfl rfl), hI.size, hI.defers⟩
      exact awpAny_ok _ _ hI' h'
  | seq x y ihx ihy =>
    intro Q s H φ N a w hI h
    refine wp_seq (wp_mono (ihx _ hI h) ?_)
    rintro e a' w' ⟨ax, s', H', φ', N', rfl, hq, hI'⟩
    cases ax with
    | normal =>
      have hq : if hintAt hint y = true then ∃ s'' H'', Weak H0 s' H' s'' H'' ∧ awp P hint n H0 y Q s'' H'' else awp P hint n H0 y Q s' H' := hq
      split at hq
      · obtain ⟨s'', H'', hW, hq⟩ := hq
        obtain ⟨φ1, N1, hI1⟩ := hW.ok hR0 hI'
        exact ihy Q hI1 hq
      · exact ihy Q hI' hq
    | exit id => exact ⟨.exit id, s', H', φ', N', rfl, hq, hI'⟩
    | ret => exact ⟨.ret, s', H', φ', N', rfl, hq, hI'⟩
    | panic v => exact ⟨.panic v, s', H', φ', N', rfl, hq, hI'⟩
  | cond c x y ihx ihy =>
    intro Q s H φ N a w hI h
    unfold awp at h
    split at h
    · rename_i b hb
      have hv := (show RA H φ N w (.d (.v (.bool b))) (a.eval c) from by rw [← hb]; exact aeval_ok hI.tmps c).closed
      cases b with
      | true => exact wp_cond_true hv (ihx Q hI (by simpa using h))
      | false => exact wp_cond_false hv (ihy Q hI (by simpa using h))
    · exact h.elim
  | block id x ih =>
    intro Q s H φ N a w hI h
    refine wp_block (wp_mono (ih _ hI h) ?_)
    rintro e a' w' ⟨ax, s', H', φ', N', rfl, hq, hI'⟩
    cases ax with
    | normal => exact ⟨.normal, s', H', φ', N', rfl, hq, hI'⟩
    | exit i =>
      simp only [AX.exitOf, Exit.inBlock]
      have hq : if i = id then Q .normal s' H' else Q (.exit i) s' H' := hq
      by_cases hi : i = id
      · rw [if_pos hi]
        rw [if_pos hi] at hq
        exact ⟨.normal, s', H', φ', N', rfl, hq, hI'⟩
      · rw [if_neg hi]
        rw [if_neg hi] at hq
        exact ⟨.exit i, s', H', φ', N', rfl, hq, hI'⟩
    | ret => exact ⟨.ret, s', H', φ', N', rfl, hq, hI'⟩
    | panic v => exact ⟨.panic v, s', H', φ', N', rfl, hq, hI'⟩
  | scope x ih =>
    intro Q s H φ N a w hI h
    refine wp_scope_straight (wp_mono (ih _ hI h) ?_)
    rintro e a' w' ⟨ax, s', H', φ', N', rfl, hq, hI'⟩
    cases ax with
    | normal => exact ⟨.normal, s', H', φ', N', rfl, hq, hI'⟩
    | exit i => exact ⟨.exit i, s', H', φ', N', rfl, hq, hI'⟩
    | ret => exact ⟨.ret, s', H', φ', N', rfl, hq, hI'⟩
    | panic v => exact ⟨.panic v, s', H', φ', N', rfl, hq, hI'⟩
  | loop x ih =>
    intro Q s H φ N a w hI h
    obtain ⟨I, m, ⟨s1, H1, hW, h1⟩, hstep⟩ := h
    obtain ⟨φ1, N1, hI1⟩ := hW.ok hR0 hI
    refine wp_loop_ind (fun m a w => ∃ s H φ N, I m s H ∧ Inv H0 φ0 N0 w0 n ds s H φ N a w) (n := m) ?_ ⟨s1, H1, φ1, N1, h1, hI1⟩
    rintro m a w ⟨s, H, φ, N, hIm, hI⟩
    refine wp_mono (ih _ hI (hstep m s H hIm)) ?_
    rintro e a' w' ⟨ax, s', H', φ', N', rfl, hq, hI'⟩
    cases ax with
    | normal =>
      obtain ⟨s2, H2, m', hW2, hm, hlt⟩ := hq
      obtain ⟨φ2, N2, hI2⟩ := hW2.ok hR0 hI'
      exact ⟨m', hlt, s2, H2, φ2, N2, hm, hI2⟩
    | exit i => exact ⟨.exit i, s', H', φ', N', rfl, hq, hI'⟩
    | ret => exact ⟨.ret, s', H', φ', N', rfl, hq, hI'⟩
    | panic v => exact ⟨.panic v, s', H', φ', N', rfl, hq, hI'⟩
  | exit id => exact fun Q s H φ N a w hI h => wp_exit ⟨.exit id, s, H, φ, N, rfl, h, hI⟩
  | ret => exact fun Q s H φ N a w hI h => wp_ret ⟨.ret, s, H, φ, N, rfl, h, hI⟩
  | _ => intros; rename_i h; exact h.elim

def ares (rs : List Tmp) (s : Nat → AV) : AV :=
  match rs with
  | [t] => s t
  | l => .tup (l.map s)
/-- What is left to show where a body has ended. -/
def AEnd (rs : List Tmp) (H0 : AHeap) (res : ARes) (H' : AHeap) : Post := fun e s H =>
  match e with
  | .normal => ∃ s', Weak H0 s H s' H' ∧ res = .ok (ares rs s')
  | .ret => ∃ s', Weak H0 s H s' H' ∧ res = .ok (ares rs s')
  | .panic v => ∃ s', Weak H0 s H s' H' ∧ res = .panic v
  | _ => False
def ainit (args : List AV) : Nat → AV := fun t => args.getD t .top

theorem run_results {fn : Func} (rs : List Tmp) (h : fn.results.toList = rs.map .tmp) (hl : rs.length ≤ 4) (tmps : Array Value) (w : World) :
    (results fn tmps).run P w = .ok (match rs with | [t] => tmps.getD t undef | l => .tuple (l.map fun t => tmps.getD t undef).toArray) w := by
  have h' : fn.results = (rs.map .tmp).toArray := by rw [← h]
  match rs, hl, h' with
  | [], _, h' => simp [results, h']
  | [_], _, h' => simp [results, h']
  | [_, _], _, h' => simp [results, h']
  | [_, _, _], _, h' => simp [results, h']
  | [_, _, _, _], _, h' => simp [results, h']
  | _ :: _ :: _ :: _ :: _ :: _, hl, _ => simp at hl

theorem enter_run {f : FuncId} {fn : Func} (hf : P.funcs[f]? = some fn) (hn : (fn.name == "runtime.NumGoroutine") = false) (hb : fn.body.isSome = true) (vals : Array Value) (w : World) : (callFunc f vals).run P w = .ok (.enter f vals) w := by
  have h1 : fn.name ≠ "runtime.NumGoroutine" := by simpa using hn
  have h2 : fn.body ≠ none := by intro h; rw [h] at hb; cases hb
  simp [callFunc, hf, h1, h2]

theorem Does.of_awp {f : FuncId} {fn : Func} {body : Code} (hf : P.funcs[f]? = some fn) (hn : (fn.name == "runtime.NumGoroutine") = false) (hb : fn.body = some body) (rs : List Tmp) (hr : fn.results.toList = rs.map .tmp) (hl : rs.length ≤ 4)
    {args : List AV} {H : AHeap} {res : ARes} {H' : AHeap} (ha : args.length ≤ fn.ntmps) (h : awp P hint fn.ntmps H body (AEnd rs H res H') (ainit args) H) : Does P f args H res H' := by
  intro φ N w vals hR hA
  refine .inl ⟨enter_run hf hn (by rw [hb]; rfl) vals w, calls_of_wp hf hb ?_⟩
  have hI : Inv H φ N w fn.ntmps [] (ainit args) H φ N { tmps := vals ++ Array.replicate (fn.ntmps - vals.size) undef, defers := [] } w := by
    refine ⟨hR, fun t => ?_, Since.refl, by simp; have := hA.1; omega, rfl⟩
    simp only [ainit]
    by_cases ht : t < args.length
    · have ht' : t < vals.size := by rw [← hA.1]; exact ht
      have := hA.2 t ht ht'
      have e1 : args.getD t .top = args[t] := by simp [List.getD, ht]
      have e2 : (vals ++ Array.replicate (fn.ntmps - vals.size) undef).getD t undef = vals[t] := by
        rw [Array.getD_eq_getD_getElem?, Array.getElem?_append_left ht']; simp [ht']
      rw [e1, e2]
      exact this
    · have e1 : args.getD t .top = .top := by simp [List.getD, List.getElem?_eq_none (Nat.le_of_not_lt ht)]
      rw [e1]
      exact .top _
  refine wp_mono (awp_ok hR body _ hI h) ?_
  rintro e a' w' ⟨ax, s', H1, φ1, N1, rfl, hq, hI1⟩
  have fin : ∀ (s'' : Nat → AV), Weak H s' H1 s'' H' → res = .ok (ares rs s'') → a'.defers = [] ∧ ∃ v, (results fn a'.tmps).run P w' = .ok v w' ∧ ∃ φ' N', Rel H' φ' N' w' ∧ Since H φ N w H' φ' N' w' ∧ REnd H' φ' N' w' res (.returned v) := by
    intro s'' hW hres
    obtain ⟨φ2, N2, hI2⟩ := hW.ok hR hI1
    refine ⟨hI2.defers, _, run_results rs hr hl _ _, φ2, N2, hI2.rel, hI2.since, ?_⟩
    subst hres
    have many : ∀ l : List Tmp, RA H' φ2 N2 w' (.tup (l.map s'')) (.tuple (l.map fun t => a'.tmps.getD t undef).toArray) := fun l => .tup _ _ (by simp) fun i h1 h2 => by simpa using hI2.tmps _
    show RA H' φ2 N2 w' (ares rs s'') _
    match rs with
    | [] => exact many []
    | [t] => exact hI2.tmps t
    | t :: u :: l => exact many (t :: u :: l)
  cases ax with
  | normal =>
    obtain ⟨s'', hW, hres⟩ := hq
    exact fin s'' hW hres
  | ret =>
    obtain ⟨s'', hW, hres⟩ := hq
    exact fin s'' hW hres
  | exit i => exact hq.elim
  | panic v =>
    obtain ⟨s'', hW, rfl⟩ := hq
    obtain ⟨φ2, N2, hI2⟩ := hW.ok hR hI1
    exact ⟨hI2.defers, φ2, N2, hI2.rel, hI2.since, rfl⟩
end
end Go.Proofs.YtkapgooedfompaaGreatAw
namespace Go.Proofs.YtkapgooedfompaaGreat.K
open Go.Proofs.YtkapgooedfompaaGreatAw
theorem TI2 : TI Tryz.prog 2 = some ((.int .i64 0 : Value), 1, 8) := by kernel_rfl
theorem agB2 : agB Tryz.prog 2 = some false := by kernel_rfl
theorem SE2 : SE Tryz.prog 2 = none := by kernel_rfl
theorem UK2 : UK Tryz.prog 2 = some .i64 := by kernel_rfl
theorem TI3 : TI Tryz.prog 3 = some ((.int .i64 0 : Value), 1, 8) := by kernel_rfl
theorem agB3 : agB Tryz.prog 3 = some false := by kernel_rfl
theorem SE3 : SE Tryz.prog 3 = none := by kernel_rfl
theorem UK3 : UK Tryz.prog 3 = some .i64 := by kernel_rfl
theorem TI4 : TI Tryz.prog 4 = some ((.bool false : Value), 1, 1) := by kernel_rfl
theorem agB4 : agB Tryz.prog 4 = some false := by kernel_rfl
theorem TI5 : TI Tryz.prog 5 = some ((.int .u8 0 : Value), 1, 1) := by kernel_rfl
theorem agB5 : agB Tryz.prog 5 = some false := by kernel_rfl
theorem SE5 : SE Tryz.prog 5 = none := by kernel_rfl
theorem UK5 : UK Tryz.prog 5 = some .u8 := by kernel_rfl
theorem TI9 : TI Tryz.prog 9 = some ((.string ⟨#[]⟩ : Value), 1, 16) := by kernel_rfl
theorem agB9 : agB Tryz.prog 9 = some false := by kernel_rfl
theorem SE9 : SE Tryz.prog 9 = none := by kernel_rfl
theorem MT9 : MT Tryz.prog 9 = none := by kernel_rfl
theorem US9 : Tryz.prog.underlying 9 = some .string := by kernel_rfl
theorem agB22 : agB Tryz.prog 22 = some false := by kernel_rfl
theorem SE22 : SE Tryz.prog 22 = some 45 := by kernel_rfl
theorem TI23 : TI Tryz.prog 23 = some ((.slice none 0 0 : Value), 1, 24) := by kernel_rfl
theorem agB23 : agB Tryz.prog 23 = some false := by kernel_rfl
theorem SE23 : SE Tryz.prog 23 = some 5 := by kernel_rfl
theorem TI26 : TI Tryz.prog 26 = some ((.int .i64 0 : Value), 1, 8) := by kernel_rfl
theorem agB26 : agB Tryz.prog 26 = some false := by kernel_rfl
theorem NI26 : isIface Tryz.prog 26 = false := by kernel_rfl
theorem SE35 : SE Tryz.prog 35 = some 48 := by kernel_rfl
theorem TI45 : TI Tryz.prog 45 = some ((.agg #[.int .i64 0, .int .i64 0, .string ⟨#[]⟩] : Value), 3, 32) := by kernel_rfl
theorem agB45 : agB Tryz.prog 45 = some true := by kernel_rfl
theorem FO45_0 : FO Tryz.prog 45 0 = some (0, 3) := by kernel_rfl
theorem FO45_1 : FO Tryz.prog 45 1 = some (1, 2) := by kernel_rfl
theorem FO45_2 : FO Tryz.prog 45 2 = some (2, 9) := by kernel_rfl
theorem SP45 : SP Tryz.prog 45 = some [(0, 1), (1, 1), (2, 1)] := by kernel_rfl
theorem TI48 : TI Tryz.prog 48 = some ((.int .u64 0 : Value), 1, 8) := by kernel_rfl
theorem agB48 : agB Tryz.prog 48 = some false := by kernel_rfl
theorem SE48 : SE Tryz.prog 48 = none := by kernel_rfl
theorem UK48 : UK Tryz.prog 48 = some .u64 := by kernel_rfl
theorem SE72 : SE Tryz.prog 72 = some 4 := by kernel_rfl
theorem SE80 : SE Tryz.prog 80 = none := by kernel_rfl
theorem UK80 : UK Tryz.prog 80 = some .u64 := by kernel_rfl
theorem TI86 : TI Tryz.prog 86 = some ((.agg #[.slice none 0 0, .int .i64 0] : Value), 2, 32) := by kernel_rfl
theorem FO86_0 : FO Tryz.prog 86 0 = some (0, 23) := by kernel_rfl
theorem FO86_1 : FO Tryz.prog 86 1 = some (1, 3) := by kernel_rfl
theorem SP86 : SP Tryz.prog 86 = some [(0, 1), (1, 1)] := by kernel_rfl
theorem TI98 : TI Tryz.prog 98 = some ((.slice none 0 0 : Value), 1, 24) := by kernel_rfl
theorem agB98 : agB Tryz.prog 98 = some false := by kernel_rfl
theorem SE98 : SE Tryz.prog 98 = some 5 := by kernel_rfl
theorem SE105 : SE Tryz.prog 105 = none := by kernel_rfl
theorem MT105 : MT Tryz.prog 105 = some (.u64, 48, 4) := by kernel_rfl
theorem TI127 : TI Tryz.prog 127 = some ((.agg #[.slice none 0 0, .int .i64 0] : Value), 2, 32) := by kernel_rfl
theorem FO127_0 : FO Tryz.prog 127 0 = some (0, 23) := by kernel_rfl
theorem FO127_1 : FO Tryz.prog 127 1 = some (1, 3) := by kernel_rfl
theorem SP127 : SP Tryz.prog 127 = some [(0, 1), (1, 1)] := by kernel_rfl
theorem mixed : Tryz.prog.follows .mixedOrders = true := by kernel_rfl
attribute [go_sem] TI2 agB2 SE2 UK2 TI3 agB3 SE3 UK3 TI4 agB4 TI5 agB5 SE5 UK5 TI9 agB9 SE9 MT9 US9 agB22 SE22 TI23 agB23 SE23 TI26 agB26 NI26 SE35 TI45 agB45 FO45_0 FO45_1 FO45_2 SP45 TI48 agB48 SE48 UK48 SE72 SE80 UK80 TI86 FO86_0 FO86_1 SP86 TI98 agB98 SE98 SE105 MT105 TI127 FO127_0 FO127_1 SP127 mixed
end Go.Proofs.YtkapgooedfompaaGreat.K
namespace Go.Proofs.YtkapgooedfompaaGreatAw
theorem aput_at (n : Nat) (s : Nat → AV) (d : Tmp) (v : AV) (t : Nat) : aput n s (some d) v t = if t = d then (if d < n then v else .top) else s t := rfl
theorem aput_no (n : Nat) (s : Nat → AV) (v : AV) : aput n s none v = s := rfl
theorem aeval_tmp (s : Nat → AV) (t : Tmp) : aeval s (.tmp t) = s t := rfl
theorem aeval_const (s : Nat → AV) (v : Value) : aeval s (.const v) = aconst v := rfl
theorem aeval_func (s : Nat → AV) (f : FuncId) : aeval s (.func f) = .fn f [] := rfl
theorem aconst_int (k : IntKind) (n : Int) : aconst (.int k n) = .d (.v (.int k n)) := rfl
theorem aconst_bool (b : Bool) : aconst (.bool b) = .d (.v (.bool b)) := rfl
theorem aconst_string (b : ByteArray) : aconst (.string b) = .d (.v (.string b)) := rfl
theorem aconst_slice (a : Option Addr) (n c : Nat) : aconst (.slice a n c) = .d (.v (.slice a n c)) := rfl
theorem aconst_pointer (a : Option Addr) : aconst (.pointer a) = .d (.v (.pointer a)) := rfl
theorem aconst_iface (t : TypeId) (v : Value) : aconst (.iface t v) = .d (.v (.iface t v)) := rfl
theorem aconst_nilIface : aconst .nilIface = .d (.v .nilIface) := rfl
theorem ainit_at (args : List AV) (t : Nat) : ainit args t = args.getD t .top := rfl
theorem closed_v (x : Value) : closed (.d (.v x)) = some x := rfl
theorem closed_list (nn : Bool) (es : List (List D)) : closed (.d (.list nn es)) = none := rfl
theorem closed_ptr (id ver i j : Nat) : closed (.ptr id ver i j) = none := rfl
theorem closed_agg (cs : List AV) : closed (.agg cs) = (closedAll cs).map fun l => .agg l.toArray := rfl
theorem cellsOf_d (x : D) : cellsOf (.d x) = some [.d x] := rfl
theorem cellsOf_sl (id ver off len : Nat) : cellsOf (.sl id ver off len) = some [.sl id ver off len] := rfl
theorem cellsOf_agg (cs : List AV) : cellsOf (.agg cs) = if cs.all AV.one then some cs else none := rfl
theorem app_get (H T : AHeap) (k : Nat) : (H ++ T)[H.length + k]? = T[k]? := by rw [List.getElem?_append_right (by omega)]; congr 1; omega
theorem app_get0 (H T : AHeap) : (H ++ T)[H.length]? = T[0]? := app_get H T 0
theorem app_set (H T : AHeap) (k : Nat) (o : AObj) : (H ++ T).set (H.length + k) o = H ++ T.set k o := by
  rw [List.set_append_right _ _ (by omega)]; congr 2; omega
theorem app_set0 (H T : AHeap) (o : AObj) : (H ++ T).set H.length o = H ++ T.set 0 o := app_set H T 0 o
theorem alen_list (H : AHeap) (nn : Bool) (es : List (List D)) : alen H (.d (.list nn es)) = some es.length := rfl
theorem alen_slice (H : AHeap) (a : Option Addr) (n c : Nat) : alen H (.d (.v (.slice a n c))) = some n := rfl
theorem alen_sl (H : AHeap) (id ver off len : Nat) : alen H (.sl id ver off len) = match H[id]? with | some ob => if ob.ver = ver then some len else none | none => none := rfl
theorem asrc_list (H : AHeap) (nn : Bool) (es : List (List D)) : asrc H (.d (.list nn es)) = some es := rfl
theorem aelem_list (H : AHeap) (k : Nat) (i : Int) (nn : Bool) (es : List (List D)) : aelem H k i (.d (.list nn es)) = if 0 ≤ i then (es[i.toNat]?).bind fun e => if e.length = k then some (.iptr e) else none else none := rfl
theorem aread_iptr (H : AHeap) (n : Nat) (cs : List D) : aread H n (.iptr cs) = if n ≤ cs.length then some ((cs.take n).map .d) else none := rfl
theorem aread_ptr (H : AHeap) (n id ver i j : Nat) : aread H n (.ptr id ver i j) = oread H id ver i j n := rfl
theorem awrite_ptr (H : AHeap) (cs : List AV) (id ver i j : Nat) : awrite H cs (.ptr id ver i j) = owrite H id ver i j cs := rfl
theorem amove_ptr (off id ver i j : Nat) : amove off (.ptr id ver i j) = some (.ptr id ver i (j + off)) := rfl
theorem amove_iptr (off : Nat) (cs : List D) : amove off (.iptr cs) = if off ≤ cs.length then some (.iptr (cs.drop off)) else none := rfl
theorem fresh_ptr (H : AHeap) (id ver i j : Nat) : fresh H (.ptr id ver i j) = match H[id]? with | some o => o.ver == ver | none => false := rfl
theorem fresh_iptr (H : AHeap) (cs : List D) : fresh H (.iptr cs) = true := rfl
theorem toDs_nil : toDs [] = some [] := rfl
theorem toDs_cons (x : AV) (xs : List AV) : toDs (x :: xs) = match x.toD?, toDs xs with | some y, some ys => some (y :: ys) | _, _ => none := rfl
theorem toD_d (x : D) : (AV.d x).toD? = some x := rfl
theorem afill_nil (place : Nat → Option (Nat × Nat)) (cells : List AV) : afill place cells [] = some cells := rfl
theorem afill_cons (place : Nat → Option (Nat × Nat)) (cells : List AV) (i : Nat) (x : AV) (rest : List (Nat × AV)) : afill place cells ((i, x) :: rest) = match place i, cellsOf x with
    | some (off, size), some cs => if cs.length = size ∧ off + size ≤ cells.length then afill place (splice cells off cs) rest else none
    | _, _ => none := rfl
theorem get_snoc_self (H : AHeap) (o : AObj) : (H ++ [o])[H.length]? = some o := by simp
/-- A mark: what bears it is looked into. (simp looks into a term's parts by itself where a congruence of ours turned nothing: so each of ours turns this mark.) -/
def nf {α : Sort _} (x : α) : α := x
theorem nf_id {α : Sort _} (x : α) : nf x = x := rfl
def ob {α : Type} (x : Option α) (K : α → Prop) : Prop := match x with | some a => K a | none => False
theorem ob_some {α : Type} (a : α) (K : α → Prop) : ob (some a) K = K a := rfl
theorem ob_congr {α : Type} {x y : Option α} {K : α → Prop} (h : nf x = y) : ob x K = ob y K := by rw [← h]; rfl
def oalt {α : Type} (x : Option α) (K : α → Prop) (L : Prop) : Prop := match x with | some a => K a | none => L
theorem oalt_some {α : Type} (a : α) (K : α → Prop) (L : Prop) : oalt (some a) K L = K a := rfl
theorem oalt_none {α : Type} (K : α → Prop) (L : Prop) : oalt none K L = L := rfl
theorem oalt_congr {α : Type} {x y : Option α} {K : α → Prop} {L : Prop} (h : nf x = y) : oalt x K L = oalt y K L := by rw [← h]; rfl
def aite (b : Bool) (A B : Prop) : Prop := if b = true then A else B
theorem aite_true (A B : Prop) : aite true A B = A := by simp [aite]
theorem aite_false (A B : Prop) : aite false A B = B := by simp [aite]
theorem aite_congr {b c : Bool} {A B : Prop} (h : nf b = c) : aite b A B = aite c A B := by rw [← h]; rfl
def asB : AV → Option Bool
  | .d (.v (.bool b)) => some b
  | _ => none
theorem asB_bool (b : Bool) : asB (.d (.v (.bool b))) = some b := rfl
def asI : AV → Option Int
  | .d (.v (.int _ i)) => some i
  | _ => none
theorem asI_int (k : IntKind) (i : Int) : asI (.d (.v (.int k i))) = some i := rfl
def asF : AV → Option (FuncId × List AV)
  | .fn f cs => some (f, cs)
  | _ => none
theorem asF_fn (f : FuncId) (cs : List AV) : asF (.fn f cs) = some (f, cs) := rfl
def asT : AV → Option (List AV)
  | .tup cs => some cs
  | _ => none
theorem asT_tup (cs : List AV) : asT (.tup cs) = some cs := rfl
def asSt : Option Value → Option ByteArray
  | some (.string b) => some b
  | _ => none
theorem asSt_string (b : ByteArray) : asSt (some (.string b)) = some b := rfl
def asIn : Option Value → Option Int
  | some (.int _ i) => some i
  | _ => none
theorem asIn_int (k : IntKind) (i : Int) : asIn (some (.int k i)) = some i := rfl
def as1 {α : Type} : Option (List α) → Option α
  | some [c] => some c
  | _ => none
theorem as1_one {α : Type} (c : α) : as1 (some [c]) = some c := rfl
theorem beq_tf : (true == false) = false := rfl
theorem beq_ft : (false == true) = false := rfl
attribute [go_sem] nf_id beq_tf beq_ft ob_some oalt_some oalt_none aite_true aite_false asB_bool asI_int asF_fn asT_tup asSt_string asIn_int as1_one
def TIok (P : Program) (t : TypeId) : Bool := match TI P t with | some (z, k, _) => decide (0 < k) && z.cells.size == k && z.cells.all Value.oneCell' | none => false
theorem TIok_eq {P : Program} {t : TypeId} {z : Value} {k b : Nat} (h : TI P t = some (z, k, b)) : (TIok P t = true) = (0 < k ∧ z.cells.size = k ∧ z.cells.all Value.oneCell' = true) := by
  simp [TIok, h, and_assoc]

section
variable (P : Program) (hint : Nat → Bool) (n : Nat) (H0 : AHeap)
def KOp (ops : Array Oper) (Q : Post) (rest : List Oper) (s : Nat → AV) (d : Option Tmp) : AV → AHeap → Prop := fun r H' => awpList P hint n ops Q rest (aput n s d r) H'
def KPan (Q : Post) (s : Nat → AV) : Value → AHeap → Prop := fun v H' => Q (.panic v) s H'
def KSeq (y : Code) (Q : Post) : Post := fun e s' H' => match e with | .normal => (if hintAt hint y = true then ∃ s'' H'', Weak H0 s' H' s'' H'' ∧ awp P hint n H0 y Q s'' H'' else awp P hint n H0 y Q s' H') | e => Q e s' H'
def KBlock (id : Nat) (Q : Post) : Post := fun e s' H' => match e with | .exit i => if i = id then Q .normal s' H' else Q (.exit i) s' H' | e => Q e s' H'
def KLoop (R : (Nat → AV) → AHeap → Prop) (Q : Post) : Post := fun e s' H' => match e with | .normal => R s' H' | e => Q e s' H'
def KVal (K : AV → AHeap → Prop) (H : AHeap) : Value → Prop := fun r => K (aconst r) H
theorem KOp_app (ops : Array Oper) (Q : Post) (rest : List Oper) (s : Nat → AV) (d : Option Tmp) (r : AV) (H : AHeap) : KOp P hint n ops Q rest s d r H = awpList P hint n ops Q rest (aput n s d r) H := rfl
theorem KPan_app (Q : Post) (s : Nat → AV) (v : Value) (H : AHeap) : KPan Q s v H = Q (.panic v) s H := rfl
theorem KSeq_normal (y : Code) (Q : Post) (s : Nat → AV) (H : AHeap) : KSeq P hint n H0 y Q .normal s H = aite (hintAt hint y) (∃ s'' H'', Weak H0 s H s'' H'' ∧ awp P hint n H0 y Q s'' H'') (awp P hint n H0 y Q s H) := rfl
theorem hintAt_seq (x y : Code) : hintAt hint (.seq x y) = hintAt hint x := rfl
theorem hintAt_region (id : Nat) (ops : Array Oper) (b : Bool) : hintAt hint (.region id ops b) = hint (id + 1000000) := rfl
theorem hintAt_cond (c : Operand) (x y : Code) : hintAt hint (.cond c x y) = false := rfl
theorem hintAt_block (id : Nat) (x : Code) : hintAt hint (.block id x) = false := rfl
theorem hintAt_ret : hintAt hint .ret = false := rfl
theorem hintAt_exit (id : Nat) : hintAt hint (.exit id) = false := rfl
attribute [go_sem] hintAt_seq hintAt_region hintAt_cond hintAt_block hintAt_ret hintAt_exit
theorem KSeq_exit (y : Code) (Q : Post) (i : Nat) (s : Nat → AV) (H : AHeap) : KSeq P hint n H0 y Q (.exit i) s H = Q (.exit i) s H := rfl
theorem KSeq_ret (y : Code) (Q : Post) (s : Nat → AV) (H : AHeap) : KSeq P hint n H0 y Q .ret s H = Q .ret s H := rfl
theorem KSeq_panic (y : Code) (Q : Post) (v : Value) (s : Nat → AV) (H : AHeap) : KSeq P hint n H0 y Q (.panic v) s H = Q (.panic v) s H := rfl
theorem KBlock_normal (id : Nat) (Q : Post) (s : Nat → AV) (H : AHeap) : KBlock id Q .normal s H = Q .normal s H := rfl
theorem KBlock_exit (id : Nat) (Q : Post) (i : Nat) (s : Nat → AV) (H : AHeap) : KBlock id Q (.exit i) s H = if i = id then Q .normal s H else Q (.exit i) s H := rfl
theorem KBlock_ret (id : Nat) (Q : Post) (s : Nat → AV) (H : AHeap) : KBlock id Q .ret s H = Q .ret s H := rfl
theorem KBlock_panic (id : Nat) (Q : Post) (v : Value) (s : Nat → AV) (H : AHeap) : KBlock id Q (.panic v) s H = Q (.panic v) s H := rfl
theorem KLoop_normal (R : (Nat → AV) → AHeap → Prop) (Q : Post) (s : Nat → AV) (H : AHeap) : KLoop R Q .normal s H = R s H := rfl
theorem KLoop_exit (R : (Nat → AV) → AHeap → Prop) (Q : Post) (i : Nat) (s : Nat → AV) (H : AHeap) : KLoop R Q (.exit i) s H = Q (.exit i) s H := rfl
theorem KLoop_ret (R : (Nat → AV) → AHeap → Prop) (Q : Post) (s : Nat → AV) (H : AHeap) : KLoop R Q .ret s H = Q .ret s H := rfl
theorem KLoop_panic (R : (Nat → AV) → AHeap → Prop) (Q : Post) (v : Value) (s : Nat → AV) (H : AHeap) : KLoop R Q (.panic v) s H = Q (.panic v) s H := rfl
theorem KVal_app (K : AV → AHeap → Prop) (H : AHeap) (r : Value) : KVal K H r = K (aconst r) H := rfl

theorem awp_skip (Q : Post) (s : Nat → AV) (H : AHeap) : awp P hint n H0 .skip Q s H = Q .normal s H := rfl
theorem awp_region (id : Nat) (ops : Array Oper) (Q : Post) (s : Nat → AV) (H : AHeap) : awp P hint n H0 (.region id ops false) Q s H = awpList P hint n ops Q ops.toList s H := rfl
theorem awp_seq (x y : Code) (Q : Post) (s : Nat → AV) (H : AHeap) : awp P hint n H0 (.seq x y) Q s H = awp P hint n H0 x (KSeq P hint n H0 y Q) s H := rfl
theorem awp_cond (c : Operand) (x y : Code) (Q : Post) (s : Nat → AV) (H : AHeap) : awp P hint n H0 (.cond c x y) Q s H = (match aeval s c with | .d (.v (.bool b)) => if b = true then awp P hint n H0 x Q s H else awp P hint n H0 y Q s H | _ => False) := rfl
theorem awp_block (id : Nat) (x : Code) (Q : Post) (s : Nat → AV) (H : AHeap) : awp P hint n H0 (.block id x) Q s H = awp P hint n H0 x (KBlock id Q) s H := rfl
theorem awp_exit (id : Nat) (Q : Post) (s : Nat → AV) (H : AHeap) : awp P hint n H0 (.exit id) Q s H = Q (.exit id) s H := rfl
theorem awp_ret (Q : Post) (s : Nat → AV) (H : AHeap) : awp P hint n H0 .ret Q s H = Q .ret s H := rfl
theorem awp_loop {α : Type} (I : α → (Nat → AV) → AHeap → Prop) (μ : α → Nat) (x0 : α) {body : Code} {Q : Post} {s s' : Nat → AV} {H H' : AHeap} (hW : Weak H0 s H s' H') (h0 : I x0 s' H')
    (step : ∀ x s H, I x s H → awp P hint n H0 body (KLoop (fun s' H' => ∃ s'' H'' y, Weak H0 s' H' s'' H'' ∧ I y s'' H'' ∧ μ y < μ x) Q) s H) : awp P hint n H0 (.loop body) Q s H := by
  refine ⟨fun m s H => ∃ x, μ x = m ∧ I x s H ∧ awp P hint n H0 body (KLoop (fun s' H' => ∃ s'' H'' y, Weak H0 s' H' s'' H'' ∧ I y s'' H'' ∧ μ y < μ x) Q) s H, μ x0, ⟨s', H', hW, x0, rfl, h0, step x0 s' H' h0⟩, ?_⟩
  rintro m s H ⟨x, rfl, hI, h⟩
  have e : (KLoop (fun s' H' => ∃ s'' H'' y, Weak H0 s' H' s'' H'' ∧ I y s'' H'' ∧ μ y < μ x) Q : Post) = fun e s' H' => match e with
      | .normal => ∃ s'' H'' m', Weak H0 s' H' s'' H'' ∧ (∃ x, μ x = m' ∧ I x s'' H'' ∧ awp P hint n H0 body (KLoop (fun s' H' => ∃ s'' H'' y, Weak H0 s' H' s'' H'' ∧ I y s'' H'' ∧ μ y < μ x) Q) s'' H'') ∧ m' < μ x
      | e => Q e s' H' := by
    funext e s' H'
    cases e with
    | normal =>
      refine propext ⟨?_, ?_⟩
      · rintro ⟨s'', H'', y, hW, hI, hlt⟩
        exact ⟨s'', H'', μ y, hW, ⟨y, rfl, hI, step y s'' H'' hI⟩, hlt⟩
      · rintro ⟨s'', H'', m', hW, ⟨y, rfl, hI, _⟩, hlt⟩
        exact ⟨s'', H'', y, hW, hI, hlt⟩
    | _ => rfl
  rw [e] at h
  exact h

theorem awpList_nil (ops : Array Oper) (Q : Post) (s : Nat → AV) (H : AHeap) : awpList P hint n ops Q [] s H = Q .normal s H := rfl
theorem awpList_none (ops : Array Oper) (Q : Post) (d : Option Tmp) (op : Op) (ty : TypeId) (p : String) (af : Array Edge) (rest : List Oper) (s : Nat → AV) (H : AHeap) :
    awpList P hint n ops Q (⟨d, op, ty, p, af, none⟩ :: rest) s H = astep P hint s H ⟨d, op, ty, p, af, none⟩ (KOp P hint n ops Q rest s d) (KPan Q s) := rfl
theorem awpList_guard (ops : Array Oper) (Q : Post) (d : Option Tmp) (op : Op) (ty : TypeId) (p : String) (af : Array Edge) (j : Nat) (b : Bool) (rest : List Oper) (s : Nat → AV) (H : AHeap) :
    awpList P hint n ops Q (⟨d, op, ty, p, af, some (j, b)⟩ :: rest) s H = ob (ayield ops s n j b) fun b' => aite b' (astep P hint s H ⟨d, op, ty, p, af, some (j, b)⟩ (KOp P hint n ops Q rest s d) (KPan Q s)) (awpList P hint n ops Q rest (aput n s d (.tup [])) H) := by
  simp only [awpList, awpOp]
  cases ayield ops s n j b with
  | none => rfl
  | some b' => cases b' <;> rfl
theorem asW_bool (w b : Bool) : asW w (.d (.v (.bool b))) = some (b == w) := rfl
theorem asW_tup (w : Bool) : asW w (.tup []) = some false := rfl
theorem ayield_eq (ops : Array Oper) (s : Nat → AV) (j : Nat) (w : Bool) : ayield ops s n j w = ((ops[j]?).bind (·.dst)).bind fun d => if d < n then asW w (s d) else none := by
  unfold ayield
  cases (ops[j]?).bind (·.dst) with
  | none => rfl
  | some d => rfl
end
section
variable (P : Program) (hint : Nat → Bool) (s : Nat → AV) (H : AHeap) (d : Option Tmp) (ty : TypeId) (p : String) (af : Array Edge) (g : Option (Nat × Bool)) (K : AV → AHeap → Prop) (KP : Value → AHeap → Prop)
def hintOf (hint : Nat → Bool) (d : Option Tmp) : Bool := match d with | some d => hint d | none => false
theorem st_move (x : Operand) : astep P hint s H ⟨d, .move x, ty, p, af, g⟩ K KP = K (aeval s x) H := rfl
theorem st_assign (x : Operand) : astep P hint s H ⟨d, .assign x, ty, p, af, g⟩ K KP = K (aeval s x) H := rfl
theorem st_pick (c x y : Operand) : astep P hint s H ⟨d, .pick c x y, ty, p, af, g⟩ K KP = ob (asB (aeval s c)) fun t => K (if t = true then aeval s x else aeval s y) H := by
  simp only [astep, aop]
  cases aeval s c <;> first | rfl | (rename_i u; cases u <;> first | rfl | (rename_i v; cases v <;> rfl))
theorem st_alloc (e : TypeId) : astep P hint s H ⟨d, .alloc e, ty, p, af, g⟩ K KP = ob (TI P e) fun z => TIok P e = true ∧ K (.ptr H.length 0 0 0) (H ++ [.box e z.2.1 0 1 (dcells z.1.cells)]) := by
  simp only [astep, aop]
  rcases h : TI P e with _ | ⟨z, k, b⟩
  · rfl
  · simp only [ob_some, TIok_eq h]
theorem st_box (e : TypeId) (x : Operand) : astep P hint s H ⟨d, .box e x, ty, p, af, g⟩ K KP = ob (cellsOf (aeval s x)) fun cs => 0 < cs.length ∧ K (.ptr H.length 0 0 0) (H ++ [.box e cs.length 0 1 cs]) := by
  simp only [astep, aop]
  cases cellsOf (aeval s x) <;> rfl
theorem st_build (t : TypeId) (ps : Array (Nat × Operand)) : astep P hint s H ⟨d, .build t ps, ty, p, af, g⟩ K KP = ob (TI P t) fun z => z.1.cells.all Value.oneCell' = true ∧ oalt (SP P t) (fun places => ob (afill (places.toArray[·]?) (dcells z.1.cells) (aparts s ps)) fun out => K (.agg out) H)
    (ob (AE P t) fun ne => ob (TI P ne.2) fun ze => ob (afill (fun i => some (i * ze.2.1, ze.2.1)) (dcells z.1.cells) (aparts s ps)) fun out => K (.agg out) H) := by
  simp only [astep, aop]
  rcases TI P t with _ | ⟨z, k, b⟩
  · rfl
  · simp only [ob_some]
    congr 1
    cases SP P t with
    | some pl => simp only [oalt_some]; cases afill (pl.toArray[·]?) (dcells z.cells) (aparts s ps) <;> rfl
    | none =>
      simp only [oalt_none]
      rcases AE P t with _ | ⟨m, e⟩
      · rfl
      · simp only [ob_some]
        rcases TI P e with _ | ⟨ze, ke, be⟩
        · rfl
        · simp only [ob_some]; cases afill (fun i => some (i * ke, ke)) (dcells z.cells) (aparts s ps) <;> rfl
theorem st_buildSlice (t : TypeId) (m : Nat) (ps : Array (Nat × Operand)) : astep P hint s H ⟨d, .buildSlice t (m + 1) ps, ty, p, af, g⟩ K KP = ob (SE P t) fun e => ob (TI P e) fun z =>
    (TIok P e = true ∧ (m + 1) * z.2.1 ≤ 16777216) ∧ ob (afill (fun i => some (i * z.2.1, z.2.1)) (zcells z.1 ((m + 1) * z.2.1)) (aparts s ps)) fun out => ob (toDs out) fun ds =>
      aite (hintOf hint d) (K (.sl H.length 0 0 (m + 1)) (H ++ [.arr e z.2.1 0 (chunk (m + 1) z.2.1 ds)])) (K (.d (.list true (chunk (m + 1) z.2.1 ds))) H) := by
  simp only [astep, aop]
  cases SE P t with
  | none => rfl
  | some e =>
    simp only [ob_some]
    rcases h : TI P e with _ | ⟨z, k, b⟩
    · rfl
    · simp only [ob_some, Nat.add_one_ne_zero, if_false]
      have hc : (z.cells.size = k ∧ z.cells.all Value.oneCell' = true ∧ (m + 1) * k ≤ 16777216 ∧ 0 < (m + 1) * k) = (TIok P e = true ∧ (m + 1) * k ≤ 16777216) := by
        rw [TIok_eq h]
        refine propext ⟨fun ⟨h1, h2, h3, h4⟩ => ⟨⟨Nat.pos_of_mul_pos_left h4, h1, h2⟩, h3⟩, fun ⟨⟨h0, h1, h2⟩, h3⟩ => ⟨h1, h2, h3, Nat.mul_pos (Nat.succ_pos m) h0⟩⟩
      rw [hc]
      congr 1
      cases afill (fun i => some (i * k, k)) (zcells z ((m + 1) * k)) (aparts s ps) with
      | none => rfl
      | some out =>
        simp only [ob_some]
        cases toDs out with
        | none => rfl
        | some ds => rfl
theorem st_buildSlice0 (t : TypeId) (ps : Array (Nat × Operand)) : astep P hint s H ⟨d, .buildSlice t 0 ps, ty, p, af, g⟩ K KP = ob (SE P t) fun e => ob (TI P e) fun _ => ps = #[] ∧ K .cap0 H := by
  simp only [astep, aop]
  cases SE P t with
  | none => rfl
  | some e =>
    simp only [ob_some]
    rcases TI P e with _ | ⟨z, k, b⟩ <;> simp [ob]
theorem st_load (t : TypeId) (x : Operand) : astep P hint s H ⟨d, .load t x, ty, p, af, g⟩ K KP = ob (agB P t) fun b => aite b (ob (TI P t) fun z => ob (aread H z.2.1 (aeval s x)) fun cs => K (.agg cs) H) (ob (as1 (aread H 1 (aeval s x))) fun c => K c H) := by
  simp only [astep, aop]
  cases agB P t with
  | none => rfl
  | some b =>
    cases b with
    | true =>
      simp only [ob_some, aite_true]
      rcases TI P t with _ | ⟨z, k, b⟩
      · rfl
      · simp only [ob_some]; cases aread H k (aeval s x) <;> rfl
    | false =>
      simp only [ob_some, aite_false]
      cases aread H 1 (aeval s x) with
      | none => rfl
      | some cs => rcases cs with _ | ⟨c, _ | ⟨c', l⟩⟩ <;> rfl
theorem st_store (t : TypeId) (x y : Operand) : astep P hint s H ⟨d, .store t x y, ty, p, af, g⟩ K KP = ob (TI P t) fun z => ob (cellsOf (aeval s y)) fun cs => cs.length = z.2.1 ∧ ob (awrite H cs (aeval s x)) fun H' => K .top H' := by
  simp only [astep, aop]
  rcases TI P t with _ | ⟨z, k, b⟩
  · rfl
  · simp only [ob_some]
    cases cellsOf (aeval s y) with
    | none => rfl
    | some cs => simp only [ob_some]; congr 1; cases awrite H cs (aeval s x) <;> rfl
theorem st_fieldAddr (t : TypeId) (x : Operand) (f : Nat) : astep P hint s H ⟨d, .fieldAddr t x f, ty, p, af, g⟩ K KP = ob (FO P t f) fun o => ob (TI P o.2) fun z => 0 < z.2.1 ∧ fresh H (aeval s x) = true ∧ ob (amove o.1 (aeval s x)) fun y => K y H := by
  simp only [astep, aop]
  rcases FO P t f with _ | ⟨off, ft⟩
  · rfl
  · simp only [ob_some]
    rcases TI P ft with _ | ⟨z, k, b⟩
    · rfl
    · simp only [ob_some]; congr 2; cases amove off (aeval s x) <;> rfl
theorem st_indexAddr (t : TypeId) (x i : Operand) : astep P hint s H ⟨d, .indexAddr t x i, ty, p, af, g⟩ K KP = ob (asI (aeval s i)) fun i => oalt (SE P t) (fun e => ob (TI P e) fun z => ob (aelem H z.2.1 i (aeval s x)) fun y => K y H)
    (ob (AE P t) fun ne => ob (TI P ne.2) fun z => 0 ≤ i ∧ i < ne.1 ∧ fresh H (aeval s x) = true ∧ ob (amove (i.toNat * z.2.1) (aeval s x)) fun y => K y H) := by
  have main : ∀ n : Int, (match SE P t with
      | some e => (match TI P e with | some (_, k, _) => (match aelem H k n (aeval s x) with | some y => K y H | none => False) | none => False)
      | none => (match AE P t with
        | some (m, e) => (match TI P e with | some (_, k, _) => 0 ≤ n ∧ n < m ∧ fresh H (aeval s x) = true ∧ (match amove (n.toNat * k) (aeval s x) with | some y => K y H | none => False) | none => False)
        | none => False)) = oalt (SE P t) (fun e => ob (TI P e) fun z => ob (aelem H z.2.1 n (aeval s x)) fun y => K y H)
    (ob (AE P t) fun ne => ob (TI P ne.2) fun z => 0 ≤ n ∧ n < ne.1 ∧ fresh H (aeval s x) = true ∧ ob (amove (n.toNat * z.2.1) (aeval s x)) fun y => K y H) := by
    intro n
    cases SE P t with
    | some e =>
      simp only [oalt_some]
      rcases TI P e with _ | ⟨z, k, b⟩
      · rfl
      · simp only [ob_some]; cases aelem H k n (aeval s x) <;> rfl
    | none =>
      simp only [oalt_none]
      rcases AE P t with _ | ⟨m, e⟩
      · rfl
      · simp only [ob_some]
        rcases TI P e with _ | ⟨z, k, b⟩
        · rfl
        · simp only [ob_some]; congr 3; cases amove (n.toNat * k) (aeval s x) <;> rfl
  simp only [astep, aop]
  cases aeval s i <;> first | rfl | skip
  rename_i u
  cases u <;> first | rfl | skip
  rename_i v
  cases v <;> first | rfl | exact main _
def ob2 {α β : Type} (x : Option α) (y : Option β) (F : α → β → Prop) (L : Prop) : Prop := match x, y with | some a, some b => F a b | _, _ => L
theorem ob2_some {α β : Type} (a : α) (b : β) (F : α → β → Prop) (L : Prop) : ob2 (some a) (some b) F L = F a b := rfl
theorem ob2_noneL {α β : Type} (y : Option β) (F : α → β → Prop) (L : Prop) : ob2 none y F L = L := rfl
theorem ob2_congr {α β : Type} {x x' : Option α} {y y' : Option β} {F : α → β → Prop} {L : Prop} (g : nf x = x') (h : nf y = y') : ob2 x y F L = ob2 x' y' F L := by rw [← g, ← h]; rfl
attribute [go_sem] ob2_some ob2_noneL
theorem st_bin (op : BinOp) (t : TypeId) (x y : Operand) (t' : TypeId) : astep P hint s H ⟨d, .binOp op t x y t', ty, p, af, g⟩ K KP = ob2 (closed (aeval s x)) (closed (aeval s y)) (fun u v => binK P op t u v (KVal K H)) (nilCmp P H op t (aeval s x) (aeval s y) = true ∧ K (.d (.v (.bool (isNeq op)))) H) := by
  simp only [astep, aop]
  cases closed (aeval s x) with
  | none => rfl
  | some u => cases closed (aeval s y) <;> rfl
theorem st_un (op : UnOp) (t : TypeId) (x : Operand) : astep P hint s H ⟨d, .unOp op t x, ty, p, af, g⟩ K KP = ob (closed (aeval s x)) fun u => unK op u (KVal K H) := by
  simp only [astep, aop]
  cases closed (aeval s x) <;> rfl
def asLi : AV → Option (List (List D))
  | .d (.list _ es) => some es
  | _ => none
theorem asLi_list (nn : Bool) (es : List (List D)) : asLi (.d (.list nn es)) = some es := rfl
theorem st_convert (a b : TypeId) (x : Operand) : astep P hint s H ⟨d, .convert a b x, ty, p, af, g⟩ K KP = oalt (SE P a) (fun e => UK P e = some .u8 ∧ P.underlying b = some .string ∧ ob (asLi (aeval s x)) fun es => ob (asBytes es) fun ns => K (.d (.v (.string (pushAll ns)))) H)
    (ob (asIn (closed (aeval s x))) fun n => ob (UK P a) fun _ => ob (UK P b) fun k => K (.d (.v (.int k (k.wrap n)))) H) := by
  have main : ∀ n : Int, (match UK P a, UK P b with | some _, some k => K (.d (.v (.int k (k.wrap n)))) H | _, _ => False) = ob (UK P a) fun _ => ob (UK P b) fun k => K (.d (.v (.int k (k.wrap n)))) H := by
    intro n
    cases UK P a with
    | none => rfl
    | some _ => simp only [ob_some]; cases UK P b <;> rfl
  simp only [astep, aop]
  cases SE P a with
  | some e =>
    simp only [oalt_some]
    congr 2
    cases aeval s x <;> first | rfl | (rename_i u; cases u <;> first | rfl | (rename_i es; simp only [asLi_list, ob_some]; cases asBytes es <;> rfl))
  | none =>
    simp only [oalt_none]
    cases closed (aeval s x) with
    | none => rfl
    | some v => cases v <;> first | rfl | exact main _
theorem st_extract (x : Operand) (i : Nat) : astep P hint s H ⟨d, .extract x i, ty, p, af, g⟩ K KP = ob (asT (aeval s x)) fun cs => ob cs[i]? fun c => K c H := by
  simp only [astep, aop]
  cases aeval s x <;> first | rfl | skip
  rename_i cs
  simp only [asT_tup, ob_some]
  cases cs[i]? <;> rfl
theorem st_makeFunc (f : FuncId) (x y : Array Operand) : astep P hint s H ⟨d, .makeFunc (.func f) x y, ty, p, af, g⟩ K KP = (x = #[] ∧ K (.fn f (y.toList.map (aeval s))) H) := rfl
theorem st_nilCheck (x : Operand) : astep P hint s H ⟨d, .nilCheck x, ty, p, af, g⟩ K KP = (nonNil H (aeval s x) = true ∧ K (aeval s x) H) := rfl
theorem st_makeInterface (t : TypeId) (x : Operand) : astep P hint s H ⟨d, .makeInterface t x, ty, p, af, g⟩ K KP = ob (closed (aeval s x)) fun u => isIface P t = false ∧ K (.d (.v (.iface t u))) H := by
  simp only [astep, aop]
  cases closed (aeval s x) <;> rfl
def asMp : AV → Option Nat
  | .mp id => some id
  | _ => none
theorem asMp_mp (id : Nat) : asMp (.mp id) = some id := rfl
def asMo : Option AObj → Option (IntKind × List (Int × AV))
  | some (.mp kk es) => some (kk, es)
  | _ => none
theorem asMo_mp (kk : IntKind) (es : List (Int × AV)) : asMo (some (.mp kk es)) = some (kk, es) := rfl
def asIk : Option Value → Option (IntKind × Int)
  | some (.int k i) => some (k, i)
  | _ => none
theorem asIk_int (k : IntKind) (i : Int) : asIk (some (.int k i)) = some (k, i) := rfl
attribute [go_sem] asMp_mp asMo_mp asIk_int
theorem st_len (x : Operand) (t : TypeId) (ts : Array TypeId) (h : ts.toList = [t]) : astep P hint s H ⟨d, .call ⟨.builtin .len, #[x], ts⟩, ty, p, af, g⟩ K KP = oalt (SE P t) (fun _ => ob (alen H (aeval s x)) fun n => K (.d (.v (.int .i64 n))) H)
    (oalt (MT P t) (fun m => ob (asMp (aeval s x)) fun id => ob (asMo H[id]?) fun o => o.1 = m.1 ∧ K (.d (.v (.int .i64 o.2.length))) H)
    (P.underlying t = some .string ∧ ob (asSt (closed (aeval s x))) fun b => K (.d (.v (.int .i64 b.size))) H)) := by
  simp only [astep, abuiltin, h]
  cases SE P t with
  | some e => simp only [oalt_some]; cases alen H (aeval s x) <;> rfl
  | none =>
    simp only [oalt_none]
    rcases MT P t with _ | ⟨kk, kt, e⟩
    · simp only [oalt_none]
      congr 1
      cases closed (aeval s x) with
      | none => rfl
      | some v => cases v <;> rfl
    · simp only [oalt_some]
      cases aeval s x with
      | mp id =>
        simp only [asMp_mp, ob_some]
        rcases H[id]? with _ | o
        · rfl
        · cases o <;> rfl
      | _ => rfl
theorem st_len1 (x : Operand) (t : TypeId) : astep P hint s H ⟨d, .call ⟨.builtin .len, #[x], #[t]⟩, ty, p, af, g⟩ K KP = oalt (SE P t) (fun _ => ob (alen H (aeval s x)) fun n => K (.d (.v (.int .i64 n))) H)
    (oalt (MT P t) (fun m => ob (asMp (aeval s x)) fun id => ob (asMo H[id]?) fun o => o.1 = m.1 ∧ K (.d (.v (.int .i64 o.2.length))) H)
    (P.underlying t = some .string ∧ ob (asSt (closed (aeval s x))) fun b => K (.d (.v (.int .i64 b.size))) H)) := st_len P hint s H d ty p af g K KP x t #[t] rfl
theorem st_max (x : Operand) (xs : List Operand) (ts : Array TypeId) : astep P hint s H ⟨d, .call ⟨.builtin .max, ⟨x :: xs⟩, ts⟩, ty, p, af, g⟩ K KP = ob (asIk (closed (aeval s x))) fun n => ob (intArgs s n.1 xs) fun ns => K (.d (.v (.int n.1 (ns.foldl max n.2)))) H := by
  simp only [astep, abuiltin]
  cases closed (aeval s x) with
  | none => rfl
  | some v => cases v <;> first | rfl | (rename_i k n; simp only [asIk_int, ob_some]; cases intArgs s k xs <;> rfl)
theorem intArgs_nil (k : IntKind) : intArgs s k [] = some [] := rfl
theorem intArgs_cons (k : IntKind) (x : Operand) (xs : List Operand) : intArgs s k (x :: xs) = (asIk (closed (aeval s x))).bind fun n => (intArgs s k xs).bind fun ns => if n.1 = k then some (n.2 :: ns) else none := by
  show (match closed (aeval s x), intArgs s k xs with | some (.int k' n), some ns => if k' = k then some (n :: ns) else none | _, _ => none) = _
  cases closed (aeval s x) with
  | none => rfl
  | some v => cases v <;> first | rfl | (cases intArgs s k xs <;> rfl)
theorem st_slice (t : TypeId) (x : Operand) (lo hi : Option Operand) : astep P hint s H ⟨d, .slice t x lo hi none, ty, p, af, g⟩ K KP = oalt (SE P t) (fun e => ob (TI P e) fun z => aslice H z.2.1 (sliceLo s lo) (fun n => sliceHi s n hi) K (aeval s x))
    (P.underlying t = some .string ∧ ob (asSt (closed (aeval s x))) fun b => ob (sliceLo s lo) fun l => ob (sliceHi s b.size hi) fun h => 0 ≤ l ∧ l ≤ h ∧ h ≤ b.size ∧ K (.d (.v (.string (b.extract l.toNat h.toNat)))) H) := by
  simp only [astep, aop]
  cases SE P t with
  | some e =>
    simp only [oalt_some]
    rcases TI P e with _ | ⟨z, k, b⟩ <;> rfl
  | none =>
    simp only [oalt_none]
    congr 1
    cases closed (aeval s x) with
    | none => rfl
    | some v =>
      cases v <;> first | rfl | skip
      rename_i b
      simp only [asSt_string, ob_some]
      cases sliceLo s lo with
      | none => rfl
      | some l => simp only [ob_some]; cases sliceHi s b.size hi <;> rfl
theorem aslice_list (k : Nat) (lo : Option Int) (hi : Nat → Option Int) (K : AV → AHeap → Prop) (nn : Bool) (es : List (List D)) : aslice H k lo hi K (.d (.list nn es)) = ((∀ c ∈ es, c.length = k) ∧ ob lo fun l => ob (hi es.length) fun h => 0 ≤ l ∧ l ≤ h ∧ h ≤ es.length ∧ K (.d (.list false ((es.take h.toNat).drop l.toNat))) H) := by
  simp only [aslice]
  congr 1
  cases lo with
  | none => rfl
  | some l => simp only [ob_some]; cases hi es.length <;> rfl
theorem aslice_sl (k : Nat) (lo : Option Int) (hi : Nat → Option Int) (K : AV → AHeap → Prop) (id ver off len : Nat) : aslice H k lo hi K (.sl id ver off len) = (ob H[id]? fun o => ob lo fun l => ob (hi len) fun h => (o.ver = ver ∧ o.k = k) ∧ 0 ≤ l ∧ l ≤ h ∧ h ≤ len ∧ (l = 0 ∨ l < h) ∧ K (.sl id ver (off + l.toNat) (h.toNat - l.toNat)) H) := by
  simp only [aslice]
  cases H[id]? with
  | none => rfl
  | some o =>
    cases lo with
    | none => rfl
    | some l => simp only [ob_some]; cases hi len <;> rfl
theorem st_slice3 (t : TypeId) (x : Operand) (lo : Option Operand) (hi mx : Operand) : astep P hint s H ⟨d, .slice t x lo (some hi) (some mx), ty, p, af, g⟩ K KP = ob (SE P t) fun e => ob (TI P e) fun z => aslice3 H z.2.1 (sliceLo s lo) (sliceLo s (some hi)) (sliceLo s (some mx)) K (aeval s x) := by
  simp only [astep, aop]
  cases SE P t with
  | some e =>
    simp only [ob_some]
    rcases TI P e with _ | ⟨z, k, b⟩ <;> rfl
  | none => rfl
theorem aslice3_list (k : Nat) (lo hi mx : Option Int) (K : AV → AHeap → Prop) (nn : Bool) (es : List (List D)) : aslice3 H k lo hi mx K (.d (.list nn es)) = ((∀ c ∈ es, c.length = k) ∧ ob lo fun l => ob hi fun h => ob mx fun m => 0 ≤ l ∧ l ≤ h ∧ h ≤ m ∧ m ≤ es.length ∧ K (.d (.list false ((es.take h.toNat).drop l.toNat))) H) := by
  cases lo <;> cases hi <;> cases mx <;> rfl
theorem st_typeAssert (x : Operand) (xT t : TypeId) (ok : Bool) : astep P hint s H ⟨d, .typeAssert x xT t ok, ty, p, af, g⟩ K KP = aassert P t ok H K (closed (aeval s x)) := rfl
theorem aassert_iface (t : TypeId) (ok : Bool) (K : AV → AHeap → Prop) (t' : TypeId) (u : Value) : aassert P t ok H K (some (.iface t' u)) = (isIface P t = false ∧ if t' = t then K (if ok = true then .tup [aconst u, .d (.v (.bool true))] else aconst u) H else ok = true ∧ ob (TI P t) fun z => K (.tup [aconst z.1, .d (.v (.bool false))]) H) := by
  simp only [aassert, assertR]
  by_cases h : t' = t
  · simp only [h, if_true]
  · simp only [h, if_false, assertNo]
    cases ok
    · simp
    · cases TI P t <;> simp [ob]
theorem st_clear (x : Operand) (t : TypeId) : astep P hint s H ⟨d, .call ⟨.builtin .clear, #[x], #[t]⟩, ty, p, af, g⟩ K KP = ob (SE P t) fun e => ob (TI P e) fun z => (z.1.cells.size = z.2.1 ∧ z.1.cells.all Value.oneCell' = true) ∧ (match aeval s x with
        | .sl id ver off len => (match H[id]? with
          | some (.arr e' k' ver' es) => (e' = e ∧ k' = z.2.1 ∧ ver' = ver) ∧ K (.tup []) (H.set id (.arr e z.2.1 ver (setRows es off (zrows z.1 len))))
          | _ => False)
        | _ => False) := by
  simp only [astep, abuiltin]
  cases SE P t with
  | none => rfl
  | some e =>
    simp only [ob_some]
    rcases TI P e with _ | ⟨z, k, b⟩ <;> rfl
theorem sliceLo_none : sliceLo s none = some 0 := rfl
theorem sliceLo_some (x : Operand) : sliceLo s (some x) = asIn (closed (aeval s x)) := by
  simp only [sliceLo]
  cases closed (aeval s x) with
  | none => rfl
  | some v => cases v <;> rfl
theorem sliceHi_none (n : Nat) : sliceHi s n none = some (n : Int) := rfl
theorem sliceHi_some (n : Nat) (x : Operand) : sliceHi s n (some x) = asIn (closed (aeval s x)) := by
  simp only [sliceHi]
  cases closed (aeval s x) with
  | none => rfl
  | some v => cases v <;> rfl
theorem st_index (t : TypeId) (x ix : Operand) : astep P hint s H ⟨d, .index t x ix, ty, p, af, g⟩ K KP = (P.underlying t = some .string ∧ ob (asSt (closed (aeval s x))) fun b => ob (asIn (closed (aeval s ix))) fun i => 0 ≤ i ∧ ob b[i.toNat]? fun u => K (.d (.v (.int .u8 u.toNat))) H) := by
  simp only [astep, aop]
  congr 1
  cases closed (aeval s x) with
  | none => rfl
  | some v =>
    cases v <;> first | rfl | skip
    rename_i b
    cases closed (aeval s ix) with
    | none => rfl
    | some v =>
      cases v <;> first | rfl | skip
      simp only [asSt_string, ob_some, asIn_int]
      rename_i i
      congr 1
      cases b[i.toNat]? <;> rfl
theorem st_makeMap (t : TypeId) : astep P hint s H ⟨d, .makeMap t none, ty, p, af, g⟩ K KP = ob (MT P t) fun m => K (.mp H.length) (H ++ [.mp m.1 []]) := by
  simp only [astep, aop]
  rcases MT P t with _ | ⟨kk, kt, e⟩ <;> rfl
theorem st_makeSlice (t : TypeId) (l c : Operand) : astep P hint s H ⟨d, .makeSlice t l c, ty, p, af, g⟩ K KP = ob (SE P t) fun e => ob (TI P e) fun z => ob (asIn (closed (aeval s l))) fun n => ob (asIn (closed (aeval s c))) fun m =>
    (TIok P e = true ∧ m = n ∧ 0 ≤ n ∧ n ≤ 1000000000000 ∧ n * (z.2.2 : Int) ≤ 140737488355328) ∧ K (.sl H.length 0 0 n.toNat) (H ++ [.arr e z.2.1 0 (List.replicate n.toNat (z.1.cells.toList.map D.v))]) := by
  simp only [astep, aop]
  cases SE P t with
  | none => rfl
  | some e =>
    simp only [ob_some]
    rcases h : TI P e with _ | ⟨z, k, b⟩
    · rfl
    · simp only [ob_some, TIok_eq h]
      cases closed (aeval s l) with
      | none => rfl
      | some v =>
        cases v <;> first | rfl | skip
        cases closed (aeval s c) with
        | none => rfl
        | some v =>
          cases v <;> first | rfl | skip
          simp only [asIn_int, ob_some, and_assoc]
def asIt : Option AObj → Option (Nat × Nat × List Nat)
  | some (.iter m since seen) => some (m, since, seen)
  | _ => none
theorem asIt_iter (m since : Nat) (seen : List Nat) : asIt (some (.iter m since seen)) = some (m, since, seen) := rfl
def asP0 : AV → Option Nat
  | .ptr id 0 0 0 => some id
  | _ => none
theorem asP0_ptr (id : Nat) : asP0 (.ptr id 0 0 0) = some id := rfl
theorem st_range (t : TypeId) (x : Operand) : astep P hint s H ⟨d, .range t x, ty, p, af, g⟩ K KP = ob (MT P t) fun m => ob (asMp (aeval s x)) fun id => ob (asMo H[id]?) fun o => o.1 = m.1 ∧ K (.ptr H.length 0 0 0) (H ++ [.iter id o.2.length []]) := by
  simp only [astep, aop]
  rcases MT P t with _ | ⟨kk, kt, e⟩
  · rfl
  · simp only [ob_some]
    cases aeval s x with
    | mp id =>
      simp only [asMp_mp, ob_some]
      rcases H[id]? with _ | o
      · rfl
      · cases o <;> rfl
    | _ => rfl
theorem st_entry (x : Operand) : astep P hint s H ⟨d, .entry x, ty, p, af, g⟩ K KP = ob (asP0 (aeval s x)) fun id => ob (asIt H[id]?) fun it => ob (asMo H[it.1]?) fun o => ob it.2.2.getLast? fun j => ob o.2[j]? fun e => it.2.1 = o.2.length ∧ K (.tup [.d (.v (.int o.1 e.1)), e.2]) H := by
  simp only [astep, aop]
  generalize aeval s x = v
  cases v with
  | ptr id ver i j =>
    cases ver with
    | succ _ => rfl
    | zero =>
      cases i with
      | succ _ => rfl
      | zero =>
        cases j with
        | succ _ => rfl
        | zero =>
            simp only [asP0_ptr, ob_some]
            rcases H[id]? with _ | o
            · rfl
            · cases o with
              | iter m since seen =>
                simp only [asIt_iter, ob_some]
                rcases H[m]? with _ | o
                · rfl
                · cases o with
                  | mp kk es =>
                    simp only [asMo_mp, ob_some]
                    rcases seen.getLast? with _ | j
                    · rfl
                    · simp only [ob_some]
                      rcases es[j]? with _ | e <;> rfl
                  | _ => rfl
              | _ => rfl
  | _ => rfl
theorem st_next (x : Operand) : astep P hint s H ⟨d, .next x false, ty, p, af, g⟩ K KP = ob (asP0 (aeval s x)) fun id => ob (asIt H[id]?) fun it => ob (asMo H[it.1]?) fun o => it.2.1 = o.2.length ∧ ((∀ j, j < o.2.length → j ∈ it.2.2) → K (.tup [.d (.v (.bool false))]) H) ∧
    ∀ j e, o.2[j]? = some e → j ∉ it.2.2 → K (.tup [.d (.v (.bool true)), .d (.v (.int o.1 e.1)), e.2]) (H.set id (.iter it.1 it.2.1 (it.2.2 ++ [j]))) := by
  simp only [astep, aop]
  generalize aeval s x = v
  cases v with
  | ptr id ver i j =>
    cases ver with
    | succ _ => rfl
    | zero =>
      cases i with
      | succ _ => rfl
      | zero =>
        cases j with
        | succ _ => rfl
        | zero =>
            simp only [asP0_ptr, ob_some]
            rcases H[id]? with _ | o
            · rfl
            · cases o with
              | iter m since seen =>
                simp only [asIt_iter, ob_some]
                rcases H[m]? with _ | o
                · rfl
                · cases o with
                  | mp kk es => simp only [asMo_mp, ob_some]
                  | _ => rfl
              | _ => rfl
  | _ => rfl
theorem st_mapUpdate (t : TypeId) (x ix y : Operand) : astep P hint s H ⟨d, .mapUpdate t x ix y, ty, p, af, g⟩ K KP = ob (MT P t) fun m => ob (asMp (aeval s x)) fun id => ob (asMo H[id]?) fun o => ob (asIk (closed (aeval s ix))) fun n =>
    (o.1 = m.1 ∧ n.1 = m.1) ∧ K .top (H.set id (.mp m.1 (mpPut n.2 (aeval s y) o.2))) := by
  simp only [astep, aop]
  rcases MT P t with _ | ⟨kk, kt, e⟩
  · rfl
  · simp only [ob_some]
    cases aeval s x with
    | mp id =>
      simp only [asMp_mp, ob_some]
      rcases H[id]? with _ | o
      · rfl
      · cases o with
        | mp kk es =>
          simp only [asMo_mp, ob_some]
          rcases closed (aeval s ix) with _ | v
          · rfl
          · cases v <;> rfl
        | _ => rfl
    | _ => rfl
theorem un_not (b : Bool) (K : Value → Prop) : unK .not (.bool b) K = K (.bool !b) := rfl
theorem un_neg (k : IntKind) (n : Int) (K : Value → Prop) : unK .neg (.int k n) K = K (.int k (k.wrap (0 - n))) := rfl
def notI (k : IntKind) (n : Int) : Int := (BitVec.ofInt k.bits (if k.signed then -1 else k.max) ^^^ BitVec.ofInt k.bits n).toNat
theorem un_xor (k : IntKind) (n : Int) (K : Value → Prop) : unK .xor (.int k n) K = K (.int k (k.wrap (notI k n))) := rfl
attribute [go_sem] un_not un_neg un_xor Option.getD_some Option.getD_none Option.isSome_some Option.isSome_none
def shlI (k : IntKind) (m n : Int) : Int := m * 2 ^ (min n.toNat k.bits)
def shrI (k : IntKind) (m n : Int) : Int := m.fdiv (2 ^ (min n.toNat k.bits))
def andI (k : IntKind) (m n : Int) : Int := (BitVec.ofInt k.bits m &&& BitVec.ofInt k.bits n).toNat
def orI (k : IntKind) (m n : Int) : Int := (BitVec.ofInt k.bits m ||| BitVec.ofInt k.bits n).toNat
def xorI (k : IntKind) (m n : Int) : Int := (BitVec.ofInt k.bits m ^^^ BitVec.ofInt k.bits n).toNat
def andNotI (k : IntKind) (m n : Int) : Int := (BitVec.ofInt k.bits m &&& ~~~BitVec.ofInt k.bits n).toNat
theorem bi_shl (P : Program) (t : TypeId) (k k' : IntKind) (m n : Int) (K : Value → Prop) : binK P .shl t (.int k m) (.int k' n) K = (0 ≤ n ∧ K (.int k (k.wrap (shlI k m n)))) := rfl
theorem bi_shr (P : Program) (t : TypeId) (k k' : IntKind) (m n : Int) (K : Value → Prop) : binK P .shr t (.int k m) (.int k' n) K = (0 ≤ n ∧ K (.int k (shrI k m n))) := rfl
theorem bi_add (P : Program) (t : TypeId) (k k' : IntKind) (m n : Int) (K : Value → Prop) : binK P .add t (.int k m) (.int k' n) K = (k = k' ∧ K (.int k (k.wrap (m + n)))) := rfl
theorem bi_sub (P : Program) (t : TypeId) (k k' : IntKind) (m n : Int) (K : Value → Prop) : binK P .sub t (.int k m) (.int k' n) K = (k = k' ∧ K (.int k (k.wrap (m - n)))) := rfl
theorem bi_mul (P : Program) (t : TypeId) (k k' : IntKind) (m n : Int) (K : Value → Prop) : binK P .mul t (.int k m) (.int k' n) K = (k = k' ∧ K (.int k (k.wrap (m * n)))) := rfl
theorem bi_quo (P : Program) (t : TypeId) (k k' : IntKind) (m n : Int) (K : Value → Prop) : binK P .quo t (.int k m) (.int k' n) K = (k = k' ∧ n ≠ 0 ∧ K (.int k (k.wrap (m.tdiv n)))) := rfl
theorem bi_rem (P : Program) (t : TypeId) (k k' : IntKind) (m n : Int) (K : Value → Prop) : binK P .rem t (.int k m) (.int k' n) K = (k = k' ∧ n ≠ 0 ∧ K (.int k (m.tmod n))) := rfl
theorem bi_and (P : Program) (t : TypeId) (k k' : IntKind) (m n : Int) (K : Value → Prop) : binK P .and t (.int k m) (.int k' n) K = (k = k' ∧ K (.int k (k.wrap (andI k m n)))) := rfl
theorem bi_or (P : Program) (t : TypeId) (k k' : IntKind) (m n : Int) (K : Value → Prop) : binK P .or t (.int k m) (.int k' n) K = (k = k' ∧ K (.int k (k.wrap (orI k m n)))) := rfl
theorem bi_xor (P : Program) (t : TypeId) (k k' : IntKind) (m n : Int) (K : Value → Prop) : binK P .xor t (.int k m) (.int k' n) K = (k = k' ∧ K (.int k (k.wrap (xorI k m n)))) := rfl
theorem bi_andNot (P : Program) (t : TypeId) (k k' : IntKind) (m n : Int) (K : Value → Prop) : binK P .andNot t (.int k m) (.int k' n) K = (k = k' ∧ K (.int k (k.wrap (andNotI k m n)))) := rfl
theorem bi_eql (P : Program) (t : TypeId) (k k' : IntKind) (m n : Int) (K : Value → Prop) : binK P .eql t (.int k m) (.int k' n) K = (k = k' ∧ K (.bool (m == n))) := rfl
theorem bi_neq (P : Program) (t : TypeId) (k k' : IntKind) (m n : Int) (K : Value → Prop) : binK P .neq t (.int k m) (.int k' n) K = (k = k' ∧ K (.bool (m != n))) := rfl
theorem bi_lss (P : Program) (t : TypeId) (k k' : IntKind) (m n : Int) (K : Value → Prop) : binK P .lss t (.int k m) (.int k' n) K = (k = k' ∧ K (.bool (decide (m < n)))) := rfl
theorem bi_leq (P : Program) (t : TypeId) (k k' : IntKind) (m n : Int) (K : Value → Prop) : binK P .leq t (.int k m) (.int k' n) K = (k = k' ∧ K (.bool (decide (m ≤ n)))) := rfl
theorem bi_gtr (P : Program) (t : TypeId) (k k' : IntKind) (m n : Int) (K : Value → Prop) : binK P .gtr t (.int k m) (.int k' n) K = (k = k' ∧ K (.bool (decide (m > n)))) := rfl
theorem bi_geq (P : Program) (t : TypeId) (k k' : IntKind) (m n : Int) (K : Value → Prop) : binK P .geq t (.int k m) (.int k' n) K = (k = k' ∧ K (.bool (decide (m ≥ n)))) := rfl
theorem bs_eql (P : Program) (t : TypeId) (m n : ByteArray) (K : Value → Prop) : binK P .eql t (.string m) (.string n) K = K (.bool (m.toList == n.toList)) := rfl
theorem bs_neq (P : Program) (t : TypeId) (m n : ByteArray) (K : Value → Prop) : binK P .neq t (.string m) (.string n) K = K (.bool (!(m.toList == n.toList))) := rfl
theorem bs_lss (P : Program) (t : TypeId) (m n : ByteArray) (K : Value → Prop) : binK P .lss t (.string m) (.string n) K = K (.bool (Op.bytesLess m.toList n.toList)) := rfl
theorem bs_gtr (P : Program) (t : TypeId) (m n : ByteArray) (K : Value → Prop) : binK P .gtr t (.string m) (.string n) K = K (.bool (!(Op.bytesLess m.toList n.toList || m.toList == n.toList))) := rfl
attribute [go_sem] bi_shl bi_shr bi_add bi_sub bi_mul bi_quo bi_rem bi_and bi_or bi_xor bi_andNot bi_eql bi_neq bi_lss bi_leq bi_gtr bi_geq bs_eql bs_neq bs_lss bs_gtr
/-- append: where to. -/
def appTo (H : AHeap) (e : TypeId) (k b : Nat) (news : List (List D)) (K : AV → AHeap → Prop) : AV → Prop
  | .sl id ver 0 len => ob H[id]? fun o => match o with
    | .arr e' k' ver' es => (e' = e ∧ k' = k ∧ ver' = ver ∧ es.length = len) ∧ (es.length + news.length) * b ≤ 140737488355328 ∧ es.length + news.length ≤ 9223372036854775807 ∧
        K (.sl id (ver + 1) 0 (es.length + news.length)) (H.set id (.arr e k (ver + 1) (es ++ news)))
    | _ => False
  | x => isNone x = true ∧ news.length * b ≤ 140737488355328 ∧ news.length ≤ 9223372036854775807 ∧ K (.sl H.length 1 0 news.length) (H ++ [.arr e k 1 news])
theorem appTo_cap0 (H : AHeap) (e : TypeId) (k b : Nat) (news : List (List D)) (K : AV → AHeap → Prop) : appTo H e k b news K .cap0 = (news.length * b ≤ 140737488355328 ∧ news.length ≤ 9223372036854775807 ∧ K (.sl H.length 1 0 news.length) (H ++ [.arr e k 1 news])) := by
  simp [appTo, isNone]
theorem st_append (x y : Operand) (t t' : TypeId) : astep P hint s H ⟨d, .call ⟨.builtin .append, #[x, y], #[t, t']⟩, ty, p, af, g⟩ K KP = ob (SE P t) fun e => ob (TI P e) fun z => (z.1.cells.size = z.2.1 ∧ 0 < z.2.1) ∧ ob (asrc2 P t t' z.2.1 H (aeval s y)) fun news =>
    (∀ c ∈ news, c.length = z.2.1) ∧ appTo H e z.2.1 z.2.2 news K (aeval s x) := by
  simp only [astep, abuiltin]
  cases SE P t with
  | none => simp [ob]
  | some e =>
    simp only [ob_some]
    rcases TI P e with _ | ⟨z, k, b⟩
    · rfl
    · simp only [ob_some]
      congr 1
      cases asrc2 P t t' k H (aeval s y) with
      | none => rfl
      | some news =>
        simp only [ob_some]
        congr 1
        cases aeval s x with
        | sl id ver off len =>
          cases off with
          | zero =>
            simp only [appTo]
            cases H[id]? with
            | none => rfl
            | some ob => cases ob <;> rfl
          | succ off => rfl
        | _ => rfl
/-- A call: what is asked of it. -/
def KCall (P : Program) (f : FuncId) (args : List AV) (H : AHeap) (K : AV → AHeap → Prop) (KP : Value → AHeap → Prop) : Prop := ∃ res H', Does P f args H res H' ∧ (match res with | .ok r => K r H' | .panic v => KP v H')
theorem st_call (f : Operand) (xs : Array Operand) (ts : Array TypeId) : astep P hint s H ⟨d, .call ⟨.value f, xs, ts⟩, ty, p, af, g⟩ K KP = ob (asF (aeval s f)) fun fc => KCall P fc.1 (xs.toList.map (aeval s) ++ fc.2) H K KP := by
  simp only [astep]
  cases aeval s f <;> rfl
theorem st_panic (x : Operand) : astep P hint s H ⟨d, .panic x, ty, p, af, g⟩ K KP = (match closed (aeval s x) with | some (.iface t u) => KP (.iface t u) H | _ => False) := rfl
theorem KCall.ok {P : Program} {f : FuncId} {args : List AV} {H : AHeap} {K : AV → AHeap → Prop} {KP : Value → AHeap → Prop} {r : AV} {H' : AHeap} (h : Does P f args H (.ok r) H') (hk : K r H') : KCall P f args H K KP := ⟨_, _, h, hk⟩
theorem KCall.panic {P : Program} {f : FuncId} {args : List AV} {H : AHeap} {K : AV → AHeap → Prop} {KP : Value → AHeap → Prop} {v : Value} {H' : AHeap} (h : Does P f args H (.panic v) H') (hk : KP v H') : KCall P f args H K KP := ⟨_, _, h, hk⟩
end
attribute [go_sem] KOp_app KPan_app KSeq_normal KSeq_exit KSeq_ret KSeq_panic KBlock_normal KBlock_exit KBlock_ret KBlock_panic KLoop_normal KLoop_exit KLoop_ret KLoop_panic KVal_app awp_skip awp_region awp_seq awp_block awp_exit awp_ret awpList_nil awpList_none awpList_guard st_range st_entry st_next asIt_iter asP0_ptr st_move st_assign st_pick st_alloc st_box st_build st_buildSlice st_buildSlice0 st_load st_store st_fieldAddr st_indexAddr st_bin st_un st_convert asLi_list st_extract st_makeFunc st_nilCheck st_makeInterface st_panic st_len1 st_makeMap st_makeSlice st_mapUpdate st_slice aslice_list aslice_sl st_slice3 aslice3_list st_typeAssert aassert_iface st_clear sliceLo_none sliceLo_some sliceHi_none sliceHi_some st_index st_max intArgs_nil intArgs_cons List.foldl_cons List.foldl_nil st_append st_call ayield_eq asW_bool asW_tup appTo_cap0 aput_at aput_no aeval_tmp aeval_const aeval_func aconst_int aconst_bool aconst_string aconst_slice aconst_pointer aconst_iface aconst_nilIface ainit_at closed_v closed_list closed_ptr closed_agg closedAll cellsOf_d cellsOf_sl cellsOf_agg alen_list alen_slice alen_sl asrc_list aelem_list aread_iptr aread_ptr awrite_ptr amove_ptr amove_iptr fresh_ptr fresh_iptr toDs_nil toDs_cons toD_d afill_nil afill_cons get_snoc_self app_get app_get0 app_set app_set0 List.set_cons_zero List.set_cons_succ aparts chunk zcells splice dcells ares AObj.ver AObj.k AObj.len AV.one hintOf nonNil isNone
theorem tail_append (H T : AHeap) : ∀ i o, i < H.length → (H ++ T)[i]? = some o → H[i]? = some o ∨ o.below H.length = true := fun i o hi h => .inl (by rwa [List.getElem?_append_left hi] at h)
theorem Weak.drop (H T : AHeap) (s : Nat → AV) : Weak H s (H ++ T) (fun t => frz (H ++ T) H.length (s t)) H := by
  have := Weak.trunc (H0 := H) s (H ++ T) H.length (Nat.le_refl _) (by simp) (tail_append H T)
  rwa [List.take_left] at this
theorem AEnd.ret {rs : List Tmp} {H T : AHeap} {s : Nat → AV} {r : AV} (h : r = ares rs fun t => frz (H ++ T) H.length (s t)) : AEnd rs H (.ok r) H .ret s (H ++ T) := ⟨_, Weak.drop H T s, by rw [h]⟩
theorem AEnd.ret0 {rs : List Tmp} {H : AHeap} {s : Nat → AV} {r : AV} (h : r = ares rs s) : AEnd rs H (.ok r) H .ret s H := ⟨_, Weak.refl s H, by rw [h]⟩
theorem frz_d (H : AHeap) (m : Nat) (x : D) : frz H m (.d x) = .d x := rfl
theorem frz_agg (H : AHeap) (m : Nat) (cs : List AV) : frz H m (.agg cs) = .agg (cs.map (frz0 H m)) := rfl
theorem frz_sl (H : AHeap) (m id v off len : Nat) : frz H m (.sl id v off len) = frz0 H m (.sl id v off len) := rfl
theorem frz_ptr (H : AHeap) (m id v i j : Nat) : frz H m (.ptr id v i j) = frz0 H m (.ptr id v i j) := rfl
theorem frz0_d (H : AHeap) (m : Nat) (x : D) : frz0 H m (.d x) = .d x := rfl
theorem frz0_sl (H : AHeap) (m id v off len : Nat) : frz0 H m (.sl id v off len) = if id < m then .sl id v off len else match H[id]? with
    | some (.arr _ _ ver es) => if ver = v then .d (.list false ((es.drop off).take len)) else .top
    | _ => .top := rfl
theorem frz0_ptr (H : AHeap) (m id v i j : Nat) : frz0 H m (.ptr id v i j) = if id < m then .ptr id v i j else .top := rfl
theorem Weak.virt1 (H : AHeap) (s : Nat → AV) (t : Nat) (e : TypeId) (k : Nat) (hk : 0 < k) (h : isNone (s t) = true) (H0 : AHeap) : Weak H0 s H (fun u => if u = t then .sl H.length 0 0 0 else s u) (H ++ [.arr e k 0 []]) := .virt s H t e k hk h
attribute [go_sem] frz_d frz_agg frz_sl frz_ptr frz0_d frz0_sl frz0_ptr
theorem getD_zero {α : Type} (x : α) (l : List α) (d : α) : (x :: l).getD 0 d = x := rfl
theorem getD_succ {α : Type} (x : α) (l : List α) (n : Nat) (d : α) : (x :: l).getD (n + 1) d = l.getD n d := rfl
theorem getD_nil {α : Type} (n : Nat) (d : α) : ([] : List α).getD n d = d := rfl
theorem toList_mk {α : Type} (l : List α) : l.toArray.toList = l := rfl
theorem getElem_toArray' {α : Type} (l : List α) (i : Nat) : l.toArray[i]? = l[i]? := by simp
attribute [go_sem] getD_zero getD_succ getD_nil toList_mk getElem_toArray' List.map_cons List.map_nil List.length_cons List.length_nil List.length_map List.getElem?_cons_zero List.getElem?_cons_succ List.getElem?_map List.getElem?_nil Option.map_some Option.map_none Option.bind_some Option.bind_none List.take_succ_cons List.take_zero List.take_nil List.drop_succ_cons List.drop_zero List.drop_nil List.append_assoc List.cons_append List.nil_append List.all_cons List.all_nil Bool.and_true Bool.true_and Bool.and_false Bool.false_and Bool.and_self Nat.zero_add Nat.add_zero Nat.zero_mul Nat.mul_zero Nat.one_mul Nat.mul_one Bool.not_true Bool.not_false Int.toNat_natCast Int.natCast_nonneg List.size_toArray true_and and_true beq_self_eq_true decide_true decide_false if_true if_false Nat.le_refl ne_eq not_true not_false_iff reduceCtorEq Array.toList_map List.length_append List.mem_cons List.not_mem_nil or_false forall_eq Int.ofNat_lt Int.ofNat_le
theorem range0 : List.range 0 = [] := rfl
theorem one_int (k : IntKind) (n : Int) : (Value.int k n).oneCell' = true := rfl
theorem one_string (b : ByteArray) : (Value.string b).oneCell' = true := rfl
theorem one_slice (a : Option Addr) (n c : Nat) : (Value.slice a n c).oneCell' = true := rfl
theorem wrap64_in (n : Int) (h0 : -9223372036854775808 ≤ n) (h1 : n ≤ 9223372036854775807) : IntKind.i64.wrap n = n := by
  simp [IntKind.wrap, IntKind.signed, IntKind.bits]; omega
theorem wrapu64_in (n : Int) (h0 : 0 ≤ n) (h1 : n ≤ 18446744073709551615) : IntKind.u64.wrap n = n := by
  simp [IntKind.wrap, IntKind.signed, IntKind.bits]; omega
theorem wrapu8_in (n : Int) (h0 : 0 ≤ n) (h1 : n ≤ 255) : IntKind.u8.wrap n = n := by
  simp [IntKind.wrap, IntKind.signed, IntKind.bits]; omega
attribute [go_sem] ge_iff_le gt_iff_lt range0 one_int one_string one_slice List.getElem!_toArray List.getElem!_cons_zero List.getElem!_cons_succ
theorem take_len {α : Type} (l : List α) (n : Nat) (h : l.length = n) : l.take n = l := by subst h; simp
end Go.Proofs.YtkapgooedfompaaGreatAw
namespace Go.Proofs.YtkapgooedfompaaGreatAw
open Go.RowKit
set_option linter.unusedVariables false

theorem Rel.nothing {N : Addr → Prop} {w : World} (h : ∀ a, N a → ∃ v, w.cell? a = some v) : Rel [] (fun _ => none) N w where
  obj id o h := by simp at h
  inj i j B c c' hi := by simp at hi
  live := h
  apart a id B c ha hid := by simp at hid

/-- The law is true, and nothing that was has turned. -/
theorem Does.walk {P : Program} {f : FuncId} {fn : Func} {body : Code} (hf : P.funcs[f]? = some fn) (hn : (fn.name == "runtime.NumGoroutine") = false) (hb : fn.body = some body) {args : List AV}
    (h : Does P f args [] (.ok (.d (.v (.bool true)))) []) (N : Addr → Prop) (w : World) (vals : Array Value) (hN : ∀ a, N a → ∃ v, w.cell? a = some v) (hA : RAs [] (fun _ => none) N w args vals) :
    Calls P f vals w fun e w' => e = .returned (.bool true) ∧ Below w.heap.size w w' := by
  rcases h (fun _ => none) N w vals (Rel.nothing hN) hA with ⟨_, h⟩ | ⟨v, w', h, _⟩
  · refine h.mono ?_
    rintro e w' ⟨φ', N', hR, hS, hE⟩
    refine ⟨?_, hS.os, hS.tape, hS.output, hS.size, fun k hk => hS.keep k hk fun id c hid => by simp at hid⟩
    cases e with
    | returned v => rw [RA.closed hE]
    | _ => exact hE.elim
  · rw [enter_run hf hn (by rw [hb]; rfl)] at h
    cases h
end Go.Proofs.YtkapgooedfompaaGreatAw
namespace Go.Proofs.YtkapgooedfompaaGreatAw
open Go.RowKit Go.WideShapes
set_option linter.unusedVariables false
set_option linter.unusedSimpArgs false

/-- What a cell may hold. slice: the bytes of an element, its cells. -/
inductive Sh where
  | int (k : IntKind)
  | bool
  | str
  | slice (b : Nat) (es : List Sh)
mutual
inductive Fits : Sh → D → Prop
  | int (k : IntKind) (n : Int) (h : (Lit.int k n).wf = true) : Fits (.int k) (.v (.int k n))
  | bool (b : Bool) : Fits .bool (.v (.bool b))
  | str (s : ByteArray) (h : s.size ≤ reachBytes) : Fits .str (.v (.string s))
  | slice (b : Nat) (es : List Sh) (l : List (List D)) (h1 : l.length * b ≤ reachBytes) (h2 : l.length ≤ maxLen) (h : ∀ e ∈ l, FitsL es e) : Fits (.slice b es) (.list false l)
inductive FitsL : List Sh → List D → Prop
  | nil : FitsL [] []
  | cons {s : Sh} {x : D} {ss : List Sh} {xs : List D} (h : Fits s x) (t : FitsL ss xs) : FitsL (s :: ss) (x :: xs)
end
def shFields (P : Program) (g : TypeId → Option (List Sh)) : Nat → List Field → Option (List Sh)
  | _, [] => some []
  | off, f :: fs => if f.offset = off then (match g f.type with | some l => if l.length = P.cellsOf f.type then (shFields P g (off + l.length) fs).map (l ++ ·) else none | none => none) else none
def shOf (P : Program) : Nat → TypeId → Option (List Sh)
  | 0, _ => none
  | n + 1, t => match P.underlying t with
    | some .bool => some [.bool]
    | some (.int k) => some [.int k]
    | some .string => some [.str]
    | some (.slice e) => (match shOf P n e with | some es => if es.length = P.cellsOf e then some [.slice (P.bytesOf e) es] else none | none => none)
    | some (.struct fs) => (match shFields P (shOf P n) 0 fs.toList with | some l => if l.length = P.cellsOf t then some l else none | none => none)
    | some (.array m e) => (match shOf P n e with | some es => if es.length = P.cellsOf e ∧ P.cellsOf t = m * es.length then some ((List.replicate m es).flatten) else none | none => none)
    | _ => none
def Live (w : World) : Addr → Prop := fun a => ∃ v, w.cell? a = some v
def RDs (w : World) (ds : List D) (cs : List Value) : Prop := ds.length = cs.length ∧ ∀ i (h1 : i < ds.length) (h2 : i < cs.length), RD (Live w) w (ds[i]) (cs[i])
theorem RDs.nil {w : World} : RDs w [] [] := ⟨rfl, fun i h => by simp at h⟩
theorem RDs.one {w : World} {d : D} {c : Value} (h : RD (Live w) w d c) : RDs w [d] [c] := ⟨rfl, fun i h1 h2 => by
  simp only [List.length_singleton] at h1
  have : i = 0 := by omega
  subst this; exact h⟩
theorem RDs.append {w : World} {ds es : List D} {cs bs : List Value} (h : RDs w ds cs) (g : RDs w es bs) : RDs w (ds ++ es) (cs ++ bs) := by
  refine ⟨by simp [h.1, g.1], fun i h1 h2 => ?_⟩
  by_cases hi : i < ds.length
  · rw [List.getElem_append_left hi, List.getElem_append_left (by rw [← h.1]; exact hi)]
    exact h.2 i _ _
  · simp only [List.length_append] at h1
    rw [List.getElem_append_right (by omega), List.getElem_append_right (by rw [← h.1]; omega)]
    have := g.2 (i - ds.length) (by omega) (by rw [← g.1]; omega)
    simpa [h.1] using this
theorem FitsL.append : ∀ {ss ts : List Sh} {xs ys : List D}, FitsL ss xs → FitsL ts ys → FitsL (ss ++ ts) (xs ++ ys)
  | _, _, _, _, .nil, h => h
  | _, _, _, _, .cons h t, g => .cons h (t.append g)
theorem FitsL.len : ∀ {ss : List Sh} {xs : List D}, FitsL ss xs → xs.length = ss.length
  | _, _, .nil => rfl
  | _, _, .cons _ t => by simp [t.len]
theorem exists_list {α : Type} (p : Nat → α → Prop) : ∀ n, (∀ i, i < n → ∃ y, p i y) → ∃ l : List α, l.length = n ∧ ∀ i (h : i < l.length), p i l[i]
  | 0, _ => ⟨[], rfl, fun i h => by simp at h⟩
  | n + 1, h => by
    obtain ⟨l, hl, hp⟩ := exists_list p n fun i hi => h i (by omega)
    obtain ⟨y, hy⟩ := h n (by omega)
    refine ⟨l ++ [y], by simp [hl], fun i hi => ?_⟩
    by_cases e : i < l.length
    · rw [List.getElem_append_left e]; exact hp i e
    · simp at hi
      have : i = n := by omega
      subst this
      rw [List.getElem_append_right (by omega)]
      simpa [hl] using hy
theorem cells_get {w : World} {a : Addr} {k : Nat} {cs : List Value} (h : w.cells? 0 a k = some cs) : cs.length = k ∧ ∀ j (hj : j < cs.length), w.cell? (a.add j) = some cs[j] := by
  unfold World.cells? at h
  rw [if_pos (Nat.zero_le _)] at h
  have hl := mapM_some_length h
  rw [List.length_range] at hl
  refine ⟨hl, fun j hj => ?_⟩
  have := mapM_some_get h j j (by rw [List.getElem?_range (by omega)])
  rw [this]
  simp
section
variable {H : Type} {enc : TypeId × Value → H} {P : Program} {w : World}
theorem shFields_good {g : TypeId → Option (List Sh)} : ∀ (fs : List Field) (off : Nat) (shs : List Sh) (cs : List Value), shFields P g off fs = some shs → cs.length = off + shs.length →
    (∀ f ∈ fs, ∀ l, g f.type = some l → ∃ ds, FitsL l ds ∧ RDs w ds ((cs.drop f.offset).take (P.cellsOf f.type))) → ∃ ds, FitsL shs ds ∧ RDs w ds (cs.drop off)
  | [], off, shs, cs, h, hl, _ => by
    simp only [shFields] at h
    cases h
    refine ⟨[], .nil, ?_⟩
    rw [List.drop_of_length_le (by simp at hl; omega)]
    exact .nil
  | f :: fs, off, shs, cs, h, hl, hf => by
    simp only [shFields] at h
    split at h
    · rename_i ho
      split at h
      · rename_i l hgl
        split at h
        · rename_i hk
          obtain ⟨rest, hr, rfl⟩ := Option.map_eq_some_iff.1 h
          simp only [List.length_append] at hl
          obtain ⟨ds, h1, h2⟩ := hf f (by simp) l hgl
          obtain ⟨es, h3, h4⟩ := shFields_good fs (off + l.length) rest cs hr (by omega) fun f' hf' => hf f' (by simp [hf'])
          refine ⟨ds ++ es, h1.append h3, ?_⟩
          rw [ho, ← hk] at h2
          have := h2.append h4
          rwa [← List.drop_drop, List.take_append_drop] at this
        · cases h
      · cases h
    · cases h
theorem weightsAll_mem : ∀ {ds : List (DataW H)} {e : TypeId} {d : DataW H} {n : Nat}, d ∈ ds → n ∈ d.weights P e → n ∈ DataW.weightsAll P e ds
  | d' :: ds, e, d, n, hd, hn => by
    simp only [DataW.weightsAll, List.mem_append]
    rcases List.mem_cons.1 hd with rfl | hd
    · exact .inl hn
    · exact .inr (weightsAll_mem hd hn)
theorem trod_good : ∀ (n : Nat) (t : TypeId) (shs : List Sh) (fuel : Nat) (cs : List Value) (x : DataW H × List MemPlace), shOf P n t = some shs → DataW.trod enc P w 0 (fun _ => true) true fuel t cs = some x →
    (∀ m ∈ x.1.weights P t, m ≤ reachBytes) → ∃ ds, FitsL shs ds ∧ RDs w ds cs := by
  intro n
  induction n with
  | zero => intro t shs fuel cs x h; cases h
  | succ n ih =>
    intro t shs fuel cs x h hx hw
    unfold shOf at h
    split at h
    · rename_i hu
      cases h
      obtain ⟨b, rfl, rfl⟩ := DataW.trod_bool hu hx
      exact ⟨[.v (.bool b)], .cons (.bool b) .nil, .one (.v _ rfl)⟩
    · rename_i k hu
      cases h
      obtain ⟨m, rfl, rfl, hwf⟩ := DataW.trod_int hu hx
      exact ⟨[.v (.int k m)], .cons (.int k m hwf) .nil, .one (.v _ rfl)⟩
    · rename_i hu
      cases h
      obtain ⟨s, rfl, rfl, hs⟩ := DataW.trod_string hu hx
      have : s.size ≤ reachBytes := by
        have := hw s.data.toList.length (by simp [DataW.weights])
        simpa using this
      exact ⟨[.v (.string s)], .cons (.str s this) .nil, .one (.v _ rfl)⟩
    · rename_i e hu
      split at h
      · rename_i es hes
        split at h
        · rename_i hk
          cases h
          rcases DataW.trod_slice hu hx with ⟨rfl, rfl⟩ | ⟨a, len, cap, elems, rest, m, rfl, rfl, rfl, _, hlc, hcm, hel, hget, _, _⟩
          · exact ⟨[.list false []], .cons (.slice _ _ _ (by simp) (by simp) (by simp)) .nil, .one (.nil _ _ fun _ => rfl)⟩
          · have key : ∀ i, i < len → ∃ y : List D, FitsL es y ∧ ∀ j (h1 : j < y.length), ∃ c, w.cell? (a.add (i * es.length + j)) = some c ∧ RD (Live w) w y[j] c := by
              intro i hi
              have hg := hget i hi
              rw [List.getElem?_eq_getElem (by omega)] at hg
              obtain ⟨ci, hci, htr⟩ := Option.bind_eq_some_iff.1 hg
              obtain ⟨hcl, hcell⟩ := cells_get hci
              obtain ⟨ds, h1, h2⟩ := ih e es m ci _ hes htr fun q hq => hw q (by
                simp only [DataW.weights, hu]
                refine List.mem_cons_of_mem _ (List.mem_append_left _ (weightsAll_mem (List.mem_map.2 ⟨_, List.getElem_mem (show i < elems.length by omega), rfl⟩) hq)))
              refine ⟨ds, h1, fun j hj => ?_⟩
              have hjc : j < ci.length := by rw [← h2.1]; exact hj
              refine ⟨ci[j], ?_, h2.2 j hj hjc⟩
              rw [← hcell j hjc, add_add, hk]
            obtain ⟨l, hll, hlp⟩ := exists_list _ len key
            refine ⟨[.list false l], .cons (.slice _ _ _ ?_ (by omega) fun y hy => ?_) .nil, .one ?_⟩
            · have := hw ((elems.length + rest.length) * P.bytesOf e) (by simp [DataW.weights, hu])
              have h2 : l.length * P.bytesOf e ≤ (elems.length + rest.length) * P.bytesOf e := Nat.mul_le_mul_right _ (by omega)
              omega
            · obtain ⟨i, hi, rfl⟩ := List.mem_iff_getElem.1 hy
              exact (hlp i hi).1
            · have hlen : l.length = len := hll
              subst hlen
              have hw' : ∀ i j, i < l.length → j < es.length → ∃ c, w.cell? (a.add (i * es.length + j)) = some c := by
                intro i j hi hj
                have := (hlp i hi).1.len
                obtain ⟨c, hc, _⟩ := (hlp i hi).2 j (by omega)
                exact ⟨c, hc⟩
              refine .list false l a cap es.length (fun i j => (w.cell? (a.add (i * es.length + j))).getD undef) hlc (fun y hy => ?_) (fun i j hi hj => ?_) fun i hi j hj => ?_
              · obtain ⟨i, hi, rfl⟩ := List.mem_iff_getElem.1 hy
                exact (hlp i hi).1.len
              · obtain ⟨c, hc⟩ := hw' i j hi hj
                exact ⟨⟨c, hc⟩, by simp [hc]⟩
              · obtain ⟨c, hc, hd⟩ := (hlp i hi).2 j hj
                simpa [hc] using hd
        · cases h
      · cases h
    · rename_i fs hu
      split at h
      · rename_i l hl
        split at h
        · rename_i hk
          cases h
          obtain ⟨xs, m, rfl, rfl, hcl, hxl, hget⟩ := DataW.trod_struct hu hx
          have := shFields_good (w := w) fs.toList 0 shs cs hl (by omega) fun f hf l' hl' => by
            obtain ⟨i, hi, rfl⟩ := List.mem_iff_getElem.1 hf
            have hi' : i < fs.size := by simpa using hi
            have hg := hget i fs[i] (by simp [hi'])
            rw [List.getElem?_eq_getElem (by omega)] at hg
            refine ih _ l' m _ _ (by simpa using hl') (by simpa using hg) fun q hq => hw q ?_
            simp only [DataW.weights, hu]
            refine DataW.weights_mem_each (j := i) (t := (fs.toList[i]).type) (d := (xs[i]'(by omega)).1) ?_ ?_ q hq
            · simp [hi']
            · simp [show i < xs.length by omega]
          simpa using this
        · cases h
      · cases h
    · rename_i m e hu
      split at h
      · rename_i es hes
        split at h
        · rename_i hk
          cases h
          cases fuel with
          | zero => simp [DataW.trod] at hx
          | succ f =>
            unfold DataW.trod at hx
            rw [hu] at hx
            have hx' : (if cs.length = P.cellsOf t then ((List.range m).mapM fun i => DataW.trod enc P w 0 (fun _ => true) true f e ((cs.drop (i * P.cellsOf e)).take (P.cellsOf e))).map fun xs => (DataW.agg (xs.map (·.1)), xs.flatMap (·.2)) else none) = some x := by
              revert hx
              rcases cs with _ | ⟨c, _ | ⟨c', cs⟩⟩
              · exact id
              · cases c <;> exact id
              · exact id
            split at hx'
            · rename_i hcl
              obtain ⟨xs, hxs, rfl⟩ := Option.map_eq_some_iff.1 hx'
              have hxl := mapM_some_length hxs
              rw [List.length_range] at hxl
              have key : ∀ q, q ≤ m → ∃ ds, FitsL ((List.replicate q es).flatten) ds ∧ RDs w ds (cs.take (q * es.length)) := by
                intro q
                induction q with
                | zero => intro _; exact ⟨[], by simpa using FitsL.nil, by simpa using RDs.nil⟩
                | succ q ihq =>
                  intro hq
                  obtain ⟨ds, h1, h2⟩ := ihq (by omega)
                  have hg := mapM_some_get hxs q q (by rw [List.getElem?_range (by omega)])
                  rw [List.getElem?_eq_getElem (by omega)] at hg
                  obtain ⟨ds', h3, h4⟩ := ih e es f _ _ hes hg fun z hz => hw z (by
                    simp only [DataW.weights, hu]
                    exact weightsAll_mem (List.mem_map.2 ⟨_, List.getElem_mem (show q < xs.length by omega), rfl⟩) hz)
                  refine ⟨ds ++ ds', ?_, ?_⟩
                  · rw [List.replicate_succ', List.flatten_append]
                    simpa using h1.append h3
                  · have := h2.append h4
                    rw [← hk.1, ← List.take_add] at this
                    rwa [Nat.add_mul, Nat.one_mul]
              obtain ⟨ds, h1, h2⟩ := key m (Nat.le_refl _)
              refine ⟨ds, h1, ?_⟩
              rwa [← hk.2, ← hcl, List.take_length] at h2
            · cases hx'
        · cases h
      · cases h
    · cases h

/-- An argument of a type, as abstract data. -/
def ArgOk (P : Program) (t : TypeId) (x : AV) : Prop := (agB P t = some false ∧ ∃ sh d, shOf P 9 t = some [sh] ∧ Fits sh d ∧ x = .d d) ∨ (agB P t = some true ∧ ∃ shs ds, shOf P 9 t = some shs ∧ FitsL shs ds ∧ x = .agg (ds.map .d))
theorem arg_in {t : TypeId} {v : Value} {d : DataW H} {ps : List MemPlace} {shs : List Sh} {b : Bool} (hs : shOf P 9 t = some shs) (hg : agB P t = some b) (hval : Value.okWide P w .any 0 t v) (h : DataW.Trod enc P w 0 (fun _ => true) true t v d ps)
    (hw : ∀ m ∈ d.weights P t, m ≤ reachBytes) : ∃ x, ArgOk P t x ∧ RA [] (fun _ => none) (Live w) w x v := by
  obtain ⟨fuel, hf⟩ := h
  obtain ⟨ds, h1, h2⟩ := trod_good 9 t shs fuel v.cells.toList _ hs hf hw
  unfold agB at hg
  obtain ⟨desc, hd, hb⟩ := Option.map_eq_some_iff.1 hg
  have one : v.cells = #[v] → ds.length = 1 → b = false → ∃ x, ArgOk P t x ∧ RA [] (fun _ => none) (Live w) w x v := by
    intro hv hl hbf
    subst hbf
    have hl2 := h1.len
    match ds, hl, shs, hs, h1, h2 with
    | [d0], _, [sh], hs, .cons hd0 .nil, h2 =>
      refine ⟨.d d0, .inl ⟨by unfold agB; rw [hd]; exact congrArg some hb, sh, d0, hs, hd0, rfl⟩, .d ?_⟩
      have := h2.2 0 (by simp) (by simp [hv])
      simpa [hv] using this
  have agg : b = true → (∃ cs, v = .agg cs) → ∃ x, ArgOk P t x ∧ RA [] (fun _ => none) (Live w) w x v := by
    intro hbt ⟨cs, hv⟩
    subst hbt hv
    refine ⟨.agg (ds.map .d), .inr ⟨by unfold agB; rw [hd]; exact congrArg some hb, shs, ds, hs, h1, rfl⟩, .agg _ _ (by simpa [Value.cells] using h2.1) fun i g1 g2 => ?_⟩
    simp only [List.getElem_map]
    have := h2.2 i (by simpa using g1) (by simpa [Value.cells] using g2)
    exact .d (by simpa [Value.cells] using this)
  have len1 : v.cells = #[v] → ds.length = 1 := fun hv => by rw [h2.1, hv]; rfl
  unfold shOf at hs
  rw [hd] at hs
  cases desc with
  | bool => obtain ⟨q, rfl⟩ := okWide_bool hd hval; exact one rfl (len1 rfl) hb.symm
  | int k => obtain ⟨q, rfl⟩ := okWide_int hd hval; exact one rfl (len1 rfl) hb.symm
  | string => obtain ⟨q, rfl⟩ := okWide_string hd hval; exact one rfl (len1 rfl) hb.symm
  | slice e => obtain ⟨q, l, c, rfl⟩ := okWide_slice hd hval; exact one rfl (len1 rfl) hb.symm
  | struct fs => obtain ⟨cs, rfl, _⟩ := okWide_struct hd hval; exact agg hb.symm ⟨cs, rfl⟩
  | array m e =>
    have hval' := hval
    unfold Value.okWide at hval'
    rw [hd] at hval'
    obtain ⟨cs, rfl, _⟩ := hval'
    exact agg hb.symm ⟨cs, rfl⟩
  | _ => simp at hs
theorem arg_in' {t : TypeId} {v : Value} {d : DataW H} {ps : List MemPlace} (hs : (shOf P 9 t).isSome = true) (hg : (agB P t).isSome = true) (hval : Value.okWide P w .any 0 t v) (h : DataW.Trod enc P w 0 (fun _ => true) true t v d ps)
    (hw : ∀ m ∈ d.weights P t, m ≤ reachBytes) : ∃ x, ArgOk P t x ∧ RA [] (fun _ => none) (Live w) w x v := by
  obtain ⟨shs, hs⟩ := Option.isSome_iff_exists.1 hs
  obtain ⟨b, hg⟩ := Option.isSome_iff_exists.1 hg
  exact arg_in hs hg hval h hw
end
inductive RAL (H : AHeap) (φ : Phi) (N : Addr → Prop) (w : World) : List AV → List Value → Prop
  | nil : RAL H φ N w [] []
  | cons {x : AV} {v : Value} {xs : List AV} {vs : List Value} (h : RA H φ N w x v) (t : RAL H φ N w xs vs) : RAL H φ N w (x :: xs) (v :: vs)
theorem RAL.to {H : AHeap} {φ : Phi} {N : Addr → Prop} {w : World} : ∀ {xs : List AV} {vs : List Value}, RAL H φ N w xs vs → xs.length = vs.length ∧ ∀ i (h1 : i < xs.length) (h2 : i < vs.length), RA H φ N w (xs[i]) (vs[i])
  | _, _, .nil => ⟨rfl, fun i h => by simp at h⟩
  | _, _, .cons h t => ⟨by simp [t.to.1], fun i h1 h2 => by
    cases i with
    | zero => exact h
    | succ i => simpa using t.to.2 i (by simpa using h1) (by simpa using h2)⟩
theorem RAL.ras {H : AHeap} {φ : Phi} {N : Addr → Prop} {w : World} {xs : List AV} {vs : List Value} (h : RAL H φ N w xs vs) : RAs H φ N w xs vs.toArray := ⟨by simpa using h.to.1, fun i h1 h2 => by simpa using h.to.2 i h1 (by simpa using h2)⟩
end Go.Proofs.YtkapgooedfompaaGreatAw
namespace Go.Proofs.YtkapgooedfompaaGreat.K
open Go.Proofs.YtkapgooedfompaaGreatAw
theorem ZO4 : TIok Tryz.prog 4 = true := by kernel_rfl
theorem ZO5 : TIok Tryz.prog 5 = true := by kernel_rfl
theorem ZO26 : TIok Tryz.prog 26 = true := by kernel_rfl
theorem ZO45 : TIok Tryz.prog 45 = true := by kernel_rfl
theorem ZO48 : TIok Tryz.prog 48 = true := by kernel_rfl
theorem PT84 : isPtrT Tryz.prog 84 = true := by kernel_rfl
theorem ZO98 : TIok Tryz.prog 98 = true := by kernel_rfl
theorem PT100 : isPtrT Tryz.prog 100 = true := by kernel_rfl
theorem AN20 : isAny Tryz.prog 20 = true := by kernel_rfl
attribute [go_sem] ZO4 ZO5 ZO26 ZO45 ZO48 PT84 ZO98 PT100 AN20
end Go.Proofs.YtkapgooedfompaaGreat.K
namespace Go.Proofs.YtkapgooedfompaaGreatAw
open Go.RowKit
set_option linter.unusedVariables false
section
variable {P : Program} {hint : Nat → Bool} {s : Nat → AV} {H : AHeap}
theorem and7 {A B C D E F G G' : Prop} (g : G → G') : (A ∧ B ∧ C ∧ D ∧ E ∧ F ∧ G) → (A ∧ B ∧ C ∧ D ∧ E ∧ F ∧ G') := fun ⟨a, b, c, d, e, f, h⟩ => ⟨a, b, c, d, e, f, g h⟩
theorem and6 {A B C D E G G' : Prop} (g : G → G') : (A ∧ B ∧ C ∧ D ∧ E ∧ G) → (A ∧ B ∧ C ∧ D ∧ E ∧ G') := fun ⟨a, b, c, d, e, h⟩ => ⟨a, b, c, d, e, g h⟩
theorem binK_mono {op : BinOp} {t : TypeId} {u v : Value} {K K' : Value → Prop} (hk : ∀ r, K r → K' r) (h : binK P op t u v K) : binK P op t u v K' := by
  unfold binK at h ⊢
  repeat' (split at h)
  all_goals first | exact h.elim | exact hk _ h | exact ⟨h.1, hk _ h.2⟩ | exact ⟨h.1, h.2.1, hk _ h.2.2⟩ | (obtain ⟨r, h1, h2⟩ := h; first | exact ⟨r, h1, hk _ h2⟩ | (simp_all; done))
  all_goals exact ⟨_, h.choose_spec.1, hk _ h.choose_spec.2⟩
theorem unK_mono {op : UnOp} {u : Value} {K K' : Value → Prop} (hk : ∀ r, K r → K' r) (h : unK op u K) : unK op u K' := by
  cases op <;> cases u <;> first | exact h.elim | exact hk _ h | exact ⟨h.1, hk _ h.2⟩
theorem abuiltin_mono {b : Builtin} {args : List Operand} {tys : List TypeId} {K K' : AV → AHeap → Prop} (hk : ∀ r H, K r H → K' r H) (h : abuiltin P s H b args tys K) : abuiltin P s H b args tys K' := by
  unfold abuiltin at h ⊢
  repeat' (split at h)
  all_goals first | exact h.elim | exact hk _ _ h | exact ⟨h.1, hk _ _ h.2⟩ | exact ⟨h.1, h.2.1, hk _ _ h.2.2⟩ | exact ⟨h.1, h.2.1, h.2.2.1, hk _ _ h.2.2.2⟩ | exact and6 (hk _ _) h | exact and7 (hk _ _) h | (simp_all; done)
theorem aslice_mono {k : Nat} {lo : Option Int} {hi : Nat → Option Int} {x : AV} {K K' : AV → AHeap → Prop} (hk : ∀ r H, K r H → K' r H) (h : aslice H k lo hi K x) : aslice H k lo hi K' x := by
  cases x with
  | d u =>
    cases u with
    | v _ => exact h.elim
    | list nn es =>
      simp only [aslice] at h ⊢
      refine ⟨h.1, ?_⟩
      replace h := h.2
      cases lo with
      | none => exact h
      | some l =>
        cases hq : hi es.length with
        | none => rw [hq] at h; exact h
        | some m => rw [hq] at h; exact ⟨h.1, h.2.1, h.2.2.1, hk _ _ h.2.2.2⟩
  | sl id ver off len =>
    simp only [aslice] at h ⊢
    cases ho : H[id]? with
    | none => rw [ho] at h; exact h.elim
    | some o =>
      rw [ho] at h
      cases lo with
      | none => exact h.elim
      | some l =>
        cases hq : hi len with
        | none => rw [hq] at h; exact h.elim
        | some m => rw [hq] at h; exact ⟨h.1, h.2.1, h.2.2.1, h.2.2.2.1, h.2.2.2.2.1, hk _ _ h.2.2.2.2.2⟩
  | _ => exact h.elim
theorem aslice3_mono {k : Nat} {lo hi mx : Option Int} {x : AV} {K K' : AV → AHeap → Prop} (hk : ∀ r H, K r H → K' r H) (h : aslice3 H k lo hi mx K x) : aslice3 H k lo hi mx K' x := by
  cases x with
  | d u =>
    cases u with
    | v _ => exact h.elim
    | list nn es => cases lo <;> cases hi <;> cases mx <;> first | exact h.2.elim | exact ⟨h.1, h.2.1, h.2.2.1, h.2.2.2.1, h.2.2.2.2.1, hk _ _ h.2.2.2.2.2⟩
  | _ => exact h.elim
theorem aassert_mono {t : TypeId} {ok : Bool} {v : Option Value} {K K' : AV → AHeap → Prop} (hk : ∀ r H, K r H → K' r H) (h : aassert P t ok H K v) : aassert P t ok H K' v := by
  unfold aassert at h ⊢
  cases e : assertR P t ok v with
  | none => rw [e] at h; exact h.2.elim
  | some r => rw [e] at h; exact ⟨h.1, hk _ _ h.2⟩
theorem aop_mono {hi : Bool} {op : Op} {K K' : AV → AHeap → Prop} (hk : ∀ r H, K r H → K' r H) (h : aop P s H hi op K) : aop P s H hi op K' := by
  unfold aop at h ⊢
  repeat' (split at h)
  all_goals first | exact h.elim | exact hk _ _ h | exact ⟨h.1, hk _ _ h.2⟩ | exact ⟨h.1, h.2.1, hk _ _ h.2.2⟩ | exact ⟨h.1, h.2.1, h.2.2.1, hk _ _ h.2.2.2⟩ | exact and7 (hk _ _) h | exact binK_mono (fun r => hk _ _) h | exact unK_mono (fun r => hk _ _) h | exact abuiltin_mono hk h | exact aslice_mono hk h | exact aslice3_mono hk h | exact aassert_mono hk h | exact ⟨h.1, fun g => hk _ _ (h.2.1 g), fun j e g1 g2 => hk _ _ (h.2.2 j e g1 g2)⟩ | skip
  all_goals first | (rw [if_neg (by assumption)]; exact ⟨h.1, by first | (rw [if_pos (by assumption)]; exact hk _ _ h.2) | (rw [if_neg (by assumption)]; exact hk _ _ h.2)⟩) | (simp_all; done)
theorem astep_mono {o : Oper} {K K' : AV → AHeap → Prop} {KP KP' : Value → AHeap → Prop} (hk : ∀ r H, K r H → K' r H) (hp : ∀ r H, KP r H → KP' r H) (h : astep P hint s H o K KP) : astep P hint s H o K' KP' := by
  unfold astep at h ⊢
  split at h
  · split at h
    · exact hp _ _ h
    · exact h.elim
  · split at h
    · split at h
      · obtain ⟨res, H', hd, h⟩ := h
        refine ⟨res, H', hd, ?_⟩
        cases res with
        | ok r => exact hk _ _ h
        | panic v => exact hp _ _ h
      · exact h.elim
    · exact abuiltin_mono hk h
    · exact h.elim
  · exact aop_mono hk h
theorem awpOp_mono {n : Nat} {ops : Array Oper} {Q Q' : Post} {o : Oper} {K K' : (Nat → AV) → AHeap → Prop} (hq : ∀ v s H, Q (.panic v) s H → Q' (.panic v) s H) (hk : ∀ s H, K s H → K' s H) (h : awpOp P hint n ops Q o K s H) : awpOp P hint n ops Q' o K' s H := by
  unfold awpOp at h ⊢
  split at h
  · exact astep_mono (fun r H => hk _ _) (fun v H => hq _ _ _) h
  · split at h
    · split at h
      · rw [if_pos (by assumption)]
        exact astep_mono (fun r H => hk _ _) (fun v H => hq _ _ _) h
      · rw [if_neg (by assumption)]
        exact hk _ _ h
    · exact h.elim
theorem awpList_mono {n : Nat} {ops : Array Oper} {Q Q' : Post} (hq : ∀ e s H, Q e s H → Q' e s H) : ∀ (l : List Oper) (s : Nat → AV) (H : AHeap), awpList P hint n ops Q l s H → awpList P hint n ops Q' l s H
  | [], s, H, h => hq _ _ _ h
  | o :: rest, s, H, h => awpOp_mono (fun v => hq _) (fun s H => awpList_mono hq rest s H) h
theorem awpAny_mono {n : Nat} {ops : Array Oper} {Q Q' : Post} (hq : ∀ e s H, Q e s H → Q' e s H) : ∀ (fuel : Nat) (l : Array Bool) (s : Nat → AV) (H : AHeap), awpAny P hint n ops Q fuel l s H → awpAny P hint n ops Q' fuel l s H
  | 0, l, s, H, h => ⟨h.1, hq _ _ _ h.2⟩
  | fuel + 1, l, s, H, h => by
    refine ⟨fun hr => hq _ _ _ (h.1 hr), fun i hi => ?_⟩
    have := h.2 i hi
    split at this
    · exact awpAny_mono hq fuel _ _ _ this
    · exact awpOp_mono (fun v => hq _) (fun s H => awpAny_mono hq fuel _ s H) this
theorem awp_mono {n : Nat} {H0 : AHeap} : ∀ (c : Code) {Q Q' : Post} (hq : ∀ e s H, Q e s H → Q' e s H) (s : Nat → AV) (H : AHeap), awp P hint n H0 c Q s H → awp P hint n H0 c Q' s H := by
  intro c
  induction c with
  | skip => exact fun hq s H h => hq _ _ _ h
  | label l => exact fun hq s H h => hq _ _ _ h
  | scope x ih => exact fun hq s H h => ih hq s H h
  | region id ops draw =>
    intro Q Q' hq s H h
    cases draw with
    | false => exact awpList_mono hq _ _ _ h
    | true => exact ⟨h.1, awpAny_mono hq _ _ _ _ h.2⟩
  | seq x y ihx ihy =>
    intro Q Q' hq s H h
    refine ihx (fun e s H h => ?_) s H h
    cases e with
    | normal =>
      have h : if hintAt hint y = true then ∃ s'' H'', Weak H0 s H s'' H'' ∧ awp P hint n H0 y Q s'' H'' else awp P hint n H0 y Q s H := h
      show if hintAt hint y = true then ∃ s'' H'', Weak H0 s H s'' H'' ∧ awp P hint n H0 y Q' s'' H'' else awp P hint n H0 y Q' s H
      split at h
      · rw [if_pos (by assumption)]
        obtain ⟨s'', H'', hW, h⟩ := h
        exact ⟨s'', H'', hW, ihy hq s'' H'' h⟩
      · rw [if_neg (by assumption)]
        exact ihy hq s H h
    | _ => exact hq _ _ _ h
  | cond c x y ihx ihy =>
    intro Q Q' hq s H h
    unfold awp at h ⊢
    split at h
    · split at h
      · rw [if_pos (by assumption)]; exact ihx hq s H h
      · rw [if_neg (by assumption)]; exact ihy hq s H h
    · exact h.elim
  | block id x ih =>
    intro Q Q' hq s H h
    refine ih (fun e s H h => ?_) s H h
    cases e with
    | exit i =>
      show if i = id then Q' .normal s H else Q' (.exit i) s H
      have h : if i = id then Q .normal s H else Q (.exit i) s H := h
      split at h
      · rw [if_pos (by assumption)]; exact hq _ _ _ h
      · rw [if_neg (by assumption)]; exact hq _ _ _ h
    | _ => exact hq _ _ _ h
  | loop x ih =>
    intro Q Q' hq s H h
    obtain ⟨I, m, h1, h2⟩ := h
    refine ⟨I, m, h1, fun m s H hI => ih (fun e s H h => ?_) s H (h2 m s H hI)⟩
    cases e with
    | normal => exact h
    | _ => exact hq _ _ _ h
  | exit id => exact fun hq s H h => hq _ _ _ h
  | ret => exact fun hq s H h => hq _ _ _ h
  | _ => intros; rename_i h; exact h.elim
end
section
variable (P : Program) (hint : Nat → Bool) (n : Nat) (H0 : AHeap)
/-- Behind a loop's test. -/
def KTest (c : Operand) (b : Bool) (R : (Nat → AV) → AHeap → Prop) : Post := fun e s H => match e with | .normal => aeval s c = .d (.v (.bool b)) ∧ R s H | _ => False
theorem KTest_normal (c : Operand) (b : Bool) (R : (Nat → AV) → AHeap → Prop) (s : Nat → AV) (H : AHeap) : KTest c b R .normal s H = (aeval s c = .d (.v (.bool b)) ∧ R s H) := rfl
/-- Behind a loop's body: its end, or what leaves it. -/
def KBody (pR : Code) (b b' : Nat) (R : (Nat → AV) → AHeap → Prop) (Q : Post) : Post := fun e s H => match e with
  | .normal => KSeq P hint n H0 pR (KLoop R (KBlock b Q)) .normal s H
  | .exit i => if i = b' then KSeq P hint n H0 pR (KLoop R (KBlock b Q)) .normal s H else KBlock b Q (.exit i) s H
  | e => Q e s H
theorem KBody_normal (pR : Code) (b b' : Nat) (R : (Nat → AV) → AHeap → Prop) (Q : Post) (s : Nat → AV) (H : AHeap) : KBody P hint n H0 pR b b' R Q .normal s H = KSeq P hint n H0 pR (KLoop R (KBlock b Q)) .normal s H := rfl
theorem KBody_exit (pR : Code) (b b' : Nat) (R : (Nat → AV) → AHeap → Prop) (Q : Post) (i : Nat) (s : Nat → AV) (H : AHeap) : KBody P hint n H0 pR b b' R Q (.exit i) s H = if i = b' then KSeq P hint n H0 pR (KLoop R (KBlock b Q)) .normal s H else KBlock b Q (.exit i) s H := rfl
theorem KBody_ret (pR : Code) (b b' : Nat) (R : (Nat → AV) → AHeap → Prop) (Q : Post) (s : Nat → AV) (H : AHeap) : KBody P hint n H0 pR b b' R Q .ret s H = Q .ret s H := rfl
end
attribute [go_sem] KTest_normal KBody_normal KBody_exit KBody_ret
def acond (x : Option Bool) (A B : Prop) : Prop := match x with | some true => A | some false => B | none => False
theorem acond_true (A B : Prop) : acond (some true) A B = A := rfl
theorem acond_false (A B : Prop) : acond (some false) A B = B := rfl
theorem acond_congr {x y : Option Bool} {A B : Prop} (h : nf x = y) : acond x A B = acond y A B := by rw [← h]; rfl
theorem awp_test {P : Program} {hint : Nat → Bool} {n : Nat} {H0 : AHeap} (c : Operand) (x y : Code) (Q : Post) (s : Nat → AV) (H : AHeap) : awp P hint n H0 (.cond c x y) Q s H = acond (asB (aeval s c)) (awp P hint n H0 x Q s H) (awp P hint n H0 y Q s H) := by
  rw [awp_cond]
  generalize aeval s c = v
  cases v with
  | d u =>
    cases u with
    | v z => cases z <;> first | rfl | (rename_i b; cases b <;> rfl)
    | list _ _ => rfl
  | _ => rfl
theorem awp_T {x : Option Bool} {A B : Prop} (hc : x = some true) (h : A) : acond x A B := by rw [hc]; exact h
theorem awp_F {x : Option Bool} {A B : Prop} (hc : x = some false) (h : B) : acond x A B := by rw [hc]; exact h
attribute [go_sem] acond_true acond_false
def asArr : Option AObj → Option (TypeId × Nat × Nat × List (List D))
  | some (.arr e k ver es) => some (e, k, ver, es)
  | _ => none
theorem asArr_arr (e : TypeId) (k ver : Nat) (es : List (List D)) : asArr (some (.arr e k ver es)) = some (e, k, ver, es) := rfl
theorem appTo_any (H : AHeap) (e : TypeId) (k b : Nat) (news : List (List D)) (K : AV → AHeap → Prop) (id ver len : Nat) : appTo H e k b news K (.sl id ver 0 len) = ob (asArr H[id]?) fun a =>
    (a.1 = e ∧ a.2.1 = k ∧ a.2.2.1 = ver ∧ a.2.2.2.length = len) ∧ (a.2.2.2.length + news.length) * b ≤ 140737488355328 ∧ a.2.2.2.length + news.length ≤ 9223372036854775807 ∧
        K (.sl id (ver + 1) 0 (a.2.2.2.length + news.length)) (H.set id (.arr e k (ver + 1) (a.2.2.2 ++ news))) := by
  simp only [appTo]
  rcases H[id]? with _ | o
  · rfl
  · cases o <;> rfl
theorem all_arr' (l : List Value) (n : Nat) (h : l.length = n) : l.toArray.all Value.oneCell' 0 n = l.all Value.oneCell' := by subst h; simp
attribute [go_sem] all_arr' Int.cast_ofNat_Int
theorem bk_neq_float {P : Program} {t : TypeId} (k : FloatKind) (a b : Nat) (K : Value → Prop) : binK P .neq t (.float k a) (.float k b) K = K (.bool (k.format.order a b != some .eq)) := by
  have hp : PureBin P .neq t (.float k a) (.float k b) (.bool (k.format.order a b != some .eq)) := fun x y w => by
    simp [eqGuard, binOp, Op.floatCmp]
  have : binK P .neq t (.float k a) (.float k b) K = ∃ r, PureBin P .neq t (.float k a) (.float k b) r ∧ K r := by unfold binK; rfl
  rw [this]
  refine propext ⟨fun ⟨r, hr, k⟩ => ?_, fun k => ⟨_, hp, k⟩⟩
  have h1 := hr (.const .nilIface) (.const .nilIface) default
  rw [hp (.const .nilIface) (.const .nilIface) default] at h1
  cases h1; exact k
theorem isAny.get {P : Program} {t : TypeId} (h : isAny P t = true) : ∃ ms, P.underlying t = some (.interface ms) ∧ ms.isEmpty = true := by
  unfold isAny at h
  split at h
  · rename_i ms hm; exact ⟨ms, hm, h⟩
  · cases h
theorem eqI_nil {P : Program} {t : TypeId} {ms : Array (String × TypeId)} (hu : P.underlying t = some (.interface ms)) (d : Nat) (w : World) : (Op.equalIn (d + 1) t .nilIface .nilIface).run P w = .ok true w := by simp [Op.equalIn, run_underlying hu]
theorem eqI_iface {P : Program} {t : TypeId} {ms : Array (String × TypeId)} (hu : P.underlying t = some (.interface ms)) (d : Nat) (w : World) (t' : TypeId) (u : Value) : (Op.equalIn (d + 1) t (.iface t' u) .nilIface).run P w = .ok false w := by simp [Op.equalIn, run_underlying hu]
theorem eqG_nil {P : Program} {t : TypeId} {ms : Array (String × TypeId)} (hu : P.underlying t = some (.interface ms)) (hm : ms.isEmpty = true) (d : Nat) (w : World) : (Op.eqGuardIn (d + 1) t .nilIface .nilIface).run P w = .ok false w := by simp [Op.eqGuardIn, run_underlying hu]; simpa using hm
theorem pb_neq_nil {P : Program} {t : TypeId} (h : isAny P t = true) : PureBin P .neq t .nilIface .nilIface (.bool false) := by
  obtain ⟨ms, hu, hm⟩ := isAny.get h
  intro x y w
  have he : (Op.equal t .nilIface .nilIface).run P w = .ok true w := eqI_nil hu 9999 w
  have hg : (Op.eqGuardIn Op.maxDepth t .nilIface .nilIface).run P w = .ok false w := eqG_nil hu hm 9999 w
  have hq : (eqGuard .neq t x y .nilIface .nilIface).run P w = .ok () w := by
    cases x <;> cases y <;> simp [eqGuard, hg]
  rw [Sem.run_bind, hq]
  simp only [Result.andThen_ok, binOp]
  simp [he]
theorem pb_neq_iface {P : Program} {t : TypeId} (h : isAny P t = true) (t' : TypeId) (u : Value) : PureBin P .neq t (.iface t' u) .nilIface (.bool true) := by
  obtain ⟨ms, hu, hm⟩ := isAny.get h
  intro x y w
  have he : (Op.equal t (.iface t' u) .nilIface).run P w = .ok false w := eqI_iface hu 9999 w t' u
  simp only [binOp]
  simp [eqGuard, he]
theorem pbK {P : Program} {op : BinOp} {t : TypeId} {u v r : Value} (h : PureBin P op t u v r) (hf : ∀ K, binK P op t u v K = ∃ r, PureBin P op t u v r ∧ K r) (K : Value → Prop) : binK P op t u v K = K r := by
  rw [hf]
  refine propext ⟨fun ⟨r', h', k⟩ => ?_, fun k => ⟨r, h, k⟩⟩
  have h1 := h' (.const .nilIface) (.const .nilIface) default
  rw [h (.const .nilIface) (.const .nilIface) default] at h1
  cases h1; exact k
theorem bk_neq_nil {P : Program} {t : TypeId} (K : Value → Prop) (h : isAny P t = true) : binK P .neq t .nilIface .nilIface K = K (.bool false) := pbK (pb_neq_nil h) (fun _ => rfl) K
theorem bk_neq_iface {P : Program} {t : TypeId} (t' : TypeId) (u : Value) (K : Value → Prop) (h : isAny P t = true) : binK P .neq t (.iface t' u) .nilIface K = K (.bool true) := pbK (pb_neq_iface h t' u) (fun _ => rfl) K
attribute [go_sem] bk_neq_float bk_neq_nil bk_neq_iface
theorem isNilV_nil (P : Program) (t : TypeId) : isNilV P t (.d (.v (.slice none 0 0))) = (SE P t).isSome := rfl
theorem isNilV_ptr (P : Program) (t : TypeId) : isNilV P t (.d (.v (.pointer none))) = isPtrT P t := rfl
theorem isNilV_list (P : Program) (t : TypeId) (nn : Bool) (es : List (List D)) : isNilV P t (.d (.list nn es)) = false := rfl
theorem isNilV_p (P : Program) (t : TypeId) (a b c d : Nat) : isNilV P t (.ptr a b c d) = false := rfl
theorem known_list (P : Program) (H : AHeap) (t : TypeId) (nn : Bool) (es : List (List D)) : known P H t (.d (.list nn es)) = ((SE P t).isSome && (nn || !es.isEmpty)) := rfl
theorem known_ptr (P : Program) (H : AHeap) (t : TypeId) (id ver i j : Nat) : known P H t (.ptr id ver i j) = (isPtrT P t && (match H[id]? with | some o => o.ver == ver | none => false)) := rfl
theorem known_v (P : Program) (H : AHeap) (t : TypeId) (x : Value) : known P H t (.d (.v x)) = false := by cases x <;> rfl
theorem nilCmp_eql (P : Program) (H : AHeap) (t : TypeId) (x y : AV) : nilCmp P H .eql t x y = ((isNilV P t y && known P H t x) || (isNilV P t x && known P H t y)) := by simp [nilCmp]
theorem isNeq_eql : isNeq .eql = false := rfl
attribute [go_sem] isNilV_nil isNilV_ptr isNilV_list isNilV_p known_list known_ptr known_v nilCmp_eql isNeq_eql Option.isSome_some Option.isSome_none Bool.or_false Bool.false_or Bool.or_true Bool.true_or List.isEmpty_cons
theorem beq_decide_int (a b : Int) : (a == b) = decide (a = b) := by by_cases h : a = b <;> simp [h]
theorem bne_decide_int (a b : Int) : (a != b) = !decide (a = b) := by by_cases h : a = b <;> simp [h]
attribute [go_sem] Int.natCast_add beq_decide_int bne_decide_int List.all_map
theorem len_lt0 (H : AHeap) (m : Nat) : (H.length < H.length + m) = (0 < m) := by simp
theorem len_lt1 (H : AHeap) (m : Nat) : (H.length + m < H.length) = False := by simp
theorem below_arr (m : Nat) (e : TypeId) (k ver : Nat) (es : List (List D)) : (AObj.arr e k ver es).below m = true := rfl
theorem below_box (m : Nat) (e : TypeId) (k ver n : Nat) (cs : List AV) : (AObj.box e k ver n cs).below m = cs.all (below1 m) := rfl
theorem below1_d (m : Nat) (x : D) : below1 m (.d x) = true := rfl
attribute [go_sem] below_arr below_box below1_d len_lt0 len_lt1 Nat.lt_irrefl decide_eq_true_eq
theorem aelem_sl (H : AHeap) (k : Nat) (i : Int) (id ver off len : Nat) : aelem H k i (.sl id ver off len) = if 0 ≤ i ∧ i < len then (H[id]?).bind fun ob => if ob.ver = ver ∧ ob.k = k then some (.ptr id ver (off + i.toNat) 0) else none else none := rfl
theorem asrc_sl (H : AHeap) (id ver off len : Nat) : asrc H (.sl id ver off len) = (asArr H[id]?).bind fun a => if a.2.2.1 = ver then some ((a.2.2.2.drop off).take len) else none := by
  simp only [asrc]
  rcases H[id]? with _ | o
  · rfl
  · cases o <;> rfl
attribute [go_sem] aelem_sl asrc_sl asrc2_same asrc2_str asrc2_list
attribute [go_sem] asArr_arr appTo_any
section
variable {P : Program} {hint : Nat → Bool} {n : Nat} {H0 : AHeap}
/-- A loop of m rounds with its test ahead: round k goes from I k to I (k + 1), or leaves. -/
theorem awp_for {b b' : Nat} {cR pR body : Code} {c : Operand} (I : Nat → (Nat → AV) → AHeap → Prop) (m : Nat) {Q : Post} {s s' : Nat → AV} {H H' : AHeap} (hm : m ≤ 9223372036854775807) (hW : Weak H0 s H s' H') (h0 : I 0 s' H')
    (step : ∀ k s H, k < m → IntKind.i64.wrap ((k : Int) + 1) = (k : Int) + 1 → I k s H → awp P hint n H0 cR (KTest c true fun s H => awp P hint n H0 body (KBody P hint n H0 pR b b' (fun s' H' => ∃ s'' H'', Weak H0 s' H' s'' H'' ∧ I (k + 1) s'' H'') Q) s H) s H)
    (done : ∀ s H, I m s H → awp P hint n H0 cR (KTest c false fun s H => Q .normal s H) s H) :
    awp P hint n H0 (.loop (.seq cR (.seq (.cond c .skip (.exit b)) (.seq (.block b' body) pR)))) (KBlock b Q) s H := by
  refine awp_loop P hint n H0 (fun k s H => k ≤ m ∧ I k s H) (fun k => m - k) 0 hW ⟨Nat.zero_le _, h0⟩ ?_
  rintro k s H ⟨hk, hI⟩
  rw [awp_seq]
  by_cases hlt : k < m
  · refine awp_mono cR (fun e s H h => ?_) s H (step k s H hlt (wrap64_in _ (by omega) (by omega)) hI)
    cases e with
    | normal =>
      obtain ⟨hc, h⟩ := h
      simp only [KSeq_normal, awp_seq]
      rw [awp_cond, hc]
      simp only [if_true, awp_skip, KSeq_normal, awp_seq, awp_block]
      refine awp_mono body (fun e s H h => ?_) s H h
      have fin : KSeq P hint n H0 pR (KLoop (fun s' H' => ∃ s'' H'', Weak H0 s' H' s'' H'' ∧ I (k + 1) s'' H'') (KBlock b Q)) .normal s H →
          KSeq P hint n H0 pR (KLoop (fun s' H' => ∃ s'' H'' y, Weak H0 s' H' s'' H'' ∧ (y ≤ m ∧ I y s'' H'') ∧ m - y < m - k) (KBlock b Q)) .normal s H := by
        have mon : ∀ s H, awp P hint n H0 pR (KLoop (fun s' H' => ∃ s'' H'', Weak H0 s' H' s'' H'' ∧ I (k + 1) s'' H'') (KBlock b Q)) s H →
            awp P hint n H0 pR (KLoop (fun s' H' => ∃ s'' H'' y, Weak H0 s' H' s'' H'' ∧ (y ≤ m ∧ I y s'' H'') ∧ m - y < m - k) (KBlock b Q)) s H := by
          refine fun s H => awp_mono pR (fun e s H h => ?_) s H
          cases e with
          | normal =>
            obtain ⟨s'', H'', h1, h2⟩ := h
            exact ⟨s'', H'', k + 1, h1, ⟨hlt, h2⟩, by omega⟩
          | _ => exact h
        rw [KSeq_normal, KSeq_normal]
        cases hintAt hint pR with
        | true => exact fun ⟨s2, H2, h1, h2⟩ => ⟨s2, H2, h1, mon _ _ h2⟩
        | false => exact mon s H
      cases e with
      | normal => exact fin h
      | exit i =>
        rw [KBody_exit] at h
        rw [KBlock_exit]
        by_cases hi : i = b'
        · rw [if_pos hi] at h ⊢; exact fin h
        · rw [if_neg hi] at h ⊢; exact h
      | ret => exact h
      | panic v => exact h
    | _ => exact h.elim
  · obtain rfl : k = m := by omega
    refine awp_mono cR (fun e s H h => ?_) s H (done s H hI)
    cases e with
    | normal =>
      obtain ⟨hc, h⟩ := h
      simp only [KSeq_normal, awp_seq]
      rw [awp_cond, hc]
      simp only [Bool.false_eq_true, if_false, awp_exit, KSeq_exit]
      show KBlock b Q (.exit b) s H
      rw [KBlock_exit, if_pos rfl]
      exact h
    | _ => exact h.elim
theorem awp_assoc (x y z : Code) (Q : Post) (s : Nat → AV) (H : AHeap) : awp P hint n H0 (.seq (.seq x y) z) Q s H = awp P hint n H0 (.seq x (.seq y z)) Q s H := by
  simp only [awp_seq]
  congr 1
  funext e s H
  cases e <;> rfl
theorem awp_loop_congr {x y : Code} (h : ∀ Q s H, awp P hint n H0 x Q s H = awp P hint n H0 y Q s H) (Q : Post) (s : Nat → AV) (H : AHeap) : awp P hint n H0 (.loop x) Q s H = awp P hint n H0 (.loop y) Q s H := by
  unfold awp
  simp only [h]
/-- The same for a loop that is written with its three parts. -/
theorem awp_for3 {b b' : Nat} {cR pR body : Code} {c : Operand} (I : Nat → (Nat → AV) → AHeap → Prop) (m : Nat) {Q : Post} {s s' : Nat → AV} {H H' : AHeap} (hm : m ≤ 9223372036854775807) (hW : Weak H0 s H s' H') (h0 : I 0 s' H')
    (step : ∀ k s H, k < m → IntKind.i64.wrap ((k : Int) + 1) = (k : Int) + 1 → I k s H → awp P hint n H0 cR (KTest c true fun s H => awp P hint n H0 body (KBody P hint n H0 pR b b' (fun s' H' => ∃ s'' H'', Weak H0 s' H' s'' H'' ∧ I (k + 1) s'' H'') Q) s H) s H)
    (done : ∀ s H, I m s H → awp P hint n H0 cR (KTest c false fun s H => Q .normal s H) s H) :
    awp P hint n H0 (.loop (.seq (.seq cR (.cond c .skip (.exit b))) (.seq (.block b' body) pR))) (KBlock b Q) s H := by
  rw [awp_loop_congr fun Q s H => awp_assoc cR (.cond c .skip (.exit b)) (.seq (.block b' body) pR) Q s H]
  exact awp_for I m hm hW h0 step done
theorem Weak.cut (objs T : AHeap) (m : Nat) (hm : objs.length = m) (s : Nat → AV) (h : objs.all (AObj.below (H0.length + m)) = true) : Weak H0 s (H0 ++ (objs ++ T)) (fun t => frz (H0 ++ (objs ++ T)) (H0.length + m) (s t)) (H0 ++ objs) := by
  subst hm
  have := Weak.trunc (H0 := H0) s (H0 ++ (objs ++ T)) (H0.length + objs.length) (by omega) (by simp) ?_
  · rwa [show (H0 ++ (objs ++ T)).take (H0.length + objs.length) = H0 ++ objs from by rw [← List.append_assoc, ← List.length_append, List.take_left]] at this
  · intro i o hi ho
    rcases Nat.lt_or_ge i H0.length with h1 | h1
    · exact .inl (by rwa [List.getElem?_append_left h1] at ho)
    · right
      rw [List.getElem?_append_right h1, List.getElem?_append_left (by omega)] at ho
      rw [List.all_eq_true] at h
      exact h o (List.mem_of_getElem? ho)
/-- A round's end: what lies behind the first objects is forgotten. -/
theorem Rnd.cut {I : (Nat → AV) → AHeap → Prop} {s : Nat → AV} {H : AHeap} (objs T : AHeap) (m : Nat) (hm : objs.length = m) (e : H = H0 ++ (objs ++ T)) (h : objs.all (AObj.below (H0.length + m)) = true)
    (hi : I (fun t => frz H (H0.length + m) (s t)) (H0 ++ objs)) : ∃ s'' H'', Weak H0 s H s'' H'' ∧ I s'' H'' := by
  subst e
  exact ⟨_, _, Weak.cut objs T m hm s h, hi⟩
/-- A round's end: nothing is forgotten. -/
theorem Rnd.same {I : (Nat → AV) → AHeap → Prop} {s : Nat → AV} {H : AHeap} (h : I s H) : ∃ s'' H'', Weak H0 s H s'' H'' ∧ I s'' H'' := ⟨s, H, .refl _ _, h⟩
end

mutual
inductive Sub : AV → AV → Prop
  | refl (x : AV) : Sub x x
  | top (x : AV) : Sub x .top
  | nil : Sub (.d (.v (.slice none 0 0))) (.d (.list false []))
  | cap0 : Sub .cap0 (.d (.list false []))
  | nn (es : List (List D)) : Sub (.d (.list true es)) (.d (.list false es))
  | agg {cs cs' : List AV} (h : SubL cs cs') : Sub (.agg cs) (.agg cs')
  | sem {x y : D} (h : ∀ N w v, RD N w x v → RD N w y v) : Sub (.d x) (.d y)
inductive SubL : List AV → List AV → Prop
  | nil : SubL [] []
  | cons {x y : AV} {xs ys : List AV} (h : Sub x y) (t : SubL xs ys) : SubL (x :: xs) (y :: ys)
end
theorem SubL.len : ∀ {cs cs' : List AV}, SubL cs cs' → cs.length = cs'.length
  | _, _, .nil => rfl
  | _, _, .cons _ t => by simp [SubL.len t]
mutual
theorem Sub.ra {H : AHeap} {φ : Phi} {N : Addr → Prop} {w : World} : ∀ {x y : AV} {v : Value}, Sub x y → RA H φ N w x v → RA H φ N w y v
  | _, _, _, .refl _, h => h
  | _, _, _, .top _, _ => .top _
  | _, _, v, .nil, h => by rw [h.closed]; exact .d (.nil _ _ fun _ => rfl)
  | _, _, _, .cap0, h => by cases h with | cap0 A => exact .d (.nil _ _ fun _ => rfl)
  | _, _, _, .nn es, h => by
    cases h with
    | d h =>
      cases h with
      | list nn es ad cap k c hc hk h hd => exact .d (.list false es ad cap k c hc hk h hd)
  | _, _, _, .sem hs, h => by
    cases h with
    | d h => exact .d (hs _ _ _ h)
  | _, _, _, .agg hs, h => by
    cases h with
    | agg cs vs hl hh => exact .agg _ vs (hs.len.symm.trans hl) fun i h1 h2 => SubL.ra hs i (by rw [hs.len]; exact h1) h1 (hh i (by rw [hs.len]; exact h1) h2)
theorem SubL.ra {H : AHeap} {φ : Phi} {N : Addr → Prop} {w : World} : ∀ {cs cs' : List AV}, SubL cs cs' → ∀ (i : Nat) (h1 : i < cs.length) (h2 : i < cs'.length) {v : Value}, RA H φ N w (cs[i]) v → RA H φ N w (cs'[i]) v
  | _, _, .nil, i, h1, _, _, _ => by simp at h1
  | _, _, .cons h t, 0, _, _, _, g => Sub.ra h g
  | _, _, .cons h t, i + 1, h1, h2, v, g => by
    simp only [List.getElem_cons_succ] at g ⊢
    exact SubL.ra t i _ _ g
end
theorem Does.sub {P : Program} {f : FuncId} {args args' : List AV} {H H' : AHeap} {res : ARes} (hs : SubL args args') (h : Does P f args' H res H') : Does P f args H res H' :=
  fun φ N w vals hR hA => h φ N w vals hR ⟨hs.len.symm.trans hA.1, fun i h1 h2 => hs.ra i (by rw [hs.len]; exact h1) h1 (hA.2 i (by rw [hs.len]; exact h1) h2)⟩
theorem KCall.sub {P : Program} {f : FuncId} {args args' : List AV} {H H' : AHeap} {K : AV → AHeap → Prop} {KP : Value → AHeap → Prop} {r : AV} (hs : SubL args args') (h : Does P f args' H (.ok r) H') (hk : K r H') : KCall P f args H K KP := KCall.ok (h.sub hs) hk
attribute [go_sem] awp_test
attribute [congr] ob_congr oalt_congr aite_congr ob2_congr acond_congr
section
variable {P : Program} {hint : Nat → Bool} {n : Nat} {H0 H H' : AHeap} {s : Nat → AV} {Q : Post} {ops : Array Oper}
@[congr] theorem cg_awp {c : Code} (h : nf H = H') : awp P hint n H0 c Q s H = awp P hint n H0 c Q s H' := by rw [← h]; rfl
@[congr] theorem cg_list {l : List Oper} (h : nf H = H') : awpList P hint n ops Q l s H = awpList P hint n ops Q l s H' := by rw [← h]; rfl
@[congr] theorem cg_step {o : Oper} {K : AV → AHeap → Prop} {KP : Value → AHeap → Prop} (h : nf H = H') : astep P hint s H o K KP = astep P hint s H' o K KP := by rw [← h]; rfl
@[congr] theorem cg_KOp {rest : List Oper} {d : Option Tmp} {r r' : AV} (g : nf r = r') (h : nf H = H') : KOp P hint n ops Q rest s d r H = KOp P hint n ops Q rest s d r' H' := by rw [← g, ← h]; rfl
@[congr] theorem cg_KPan {v : Value} (h : nf H = H') : KPan Q s v H = KPan Q s v H' := by rw [← h]; rfl
@[congr] theorem cg_KSeq {c : Code} {e : AX} (h : nf H = H') : KSeq P hint n H0 c Q e s H = KSeq P hint n H0 c Q e s H' := by rw [← h]; rfl
@[congr] theorem cg_KBlock {i : Nat} {e : AX} (h : nf H = H') : KBlock i Q e s H = KBlock i Q e s H' := by rw [← h]; rfl
@[congr] theorem cg_KLoop {R : (Nat → AV) → AHeap → Prop} {e : AX} (h : nf H = H') : KLoop R Q e s H = KLoop R Q e s H' := by rw [← h]; rfl
@[congr] theorem cg_KTest {c : Operand} {b : Bool} {R : (Nat → AV) → AHeap → Prop} {e : AX} (h : nf H = H') : KTest c b R e s H = KTest c b R e s H' := by rw [← h]; rfl
@[congr] theorem cg_KBody {pR : Code} {b b' : Nat} {R : (Nat → AV) → AHeap → Prop} {e : AX} (h : nf H = H') : KBody P hint n H0 pR b b' R Q e s H = KBody P hint n H0 pR b b' R Q e s H' := by rw [← h]; rfl
@[congr] theorem cg_KCall {f : FuncId} {args args' : List AV} {K : AV → AHeap → Prop} {KP : Value → AHeap → Prop} (g : nf args = args') (h : nf H = H') : KCall P f args H K KP = KCall P f args' H' K KP := by rw [← g, ← h]; rfl
@[congr] theorem cg_KVal {K : AV → AHeap → Prop} {r r' : Value} (g : nf r = r') (h : nf H = H') : KVal K H r = KVal K H' r' := by rw [← g, ← h]; rfl
@[congr] theorem cg_AEnd {rs : List Tmp} {res : ARes} {H1 : AHeap} {e : AX} (h : nf H = H') : AEnd rs H0 res H1 e s H = AEnd rs H0 res H1 e s H' := by rw [← h]; rfl
@[congr] theorem cg_aput {d : Option Tmp} {v : AV} {t t' : Nat} (h : nf t = t') : aput n s d v t = aput n s d v t' := by rw [← h]; rfl
theorem awpList_mk (l : List Oper) : awpList P hint n ops Q l.toArray.toList s H = awpList P hint n ops Q l s H := rfl
@[congr] theorem cg_binK {op : BinOp} {t : TypeId} {u u' v v' : Value} {K : Value → Prop} (g : nf u = u') (h : nf v = v') : binK P op t u v K = binK P op t u' v' K := by rw [← g, ← h]; rfl
@[congr] theorem cg_unK {op : UnOp} {u u' : Value} {K : Value → Prop} (g : nf u = u') : unK op u K = unK op u' K := by rw [← g]; rfl
@[congr] theorem cg_aslice {k : Nat} {lo lo' : Option Int} {hi hi' : Nat → Option Int} {K : AV → AHeap → Prop} {x x' : AV} (f : nf lo = lo') (g : nf x = x') (h : nf H = H') (e : ∀ n, hi n = hi' n) : aslice H k lo hi K x = aslice H' k lo' hi' K x' := by rw [← f, ← g, ← h, funext e]; rfl
@[congr] theorem cg_aslice3 {k : Nat} {lo lo' hi hi' mx mx' : Option Int} {K : AV → AHeap → Prop} {x x' : AV} (f : nf lo = lo') (f2 : nf hi = hi') (f3 : nf mx = mx') (g : nf x = x') (h : nf H = H') : aslice3 H k lo hi mx K x = aslice3 H' k lo' hi' mx' K x' := by rw [← f, ← f2, ← f3, ← g, ← h]; rfl
@[congr] theorem cg_aassert {t : TypeId} {ok : Bool} {K : AV → AHeap → Prop} {v v' : Option Value} (g : nf v = v') (h : nf H = H') : aassert P t ok H K v = aassert P t ok H' K v' := by rw [← g, ← h]; rfl
@[congr] theorem cg_appTo {e : TypeId} {k b : Nat} {news news' : List (List D)} {K : AV → AHeap → Prop} {x x' : AV} (f : nf news = news') (g : nf x = x') (h : nf H = H') : appTo H e k b news K x = appTo H' e k b news' K x' := by rw [← f, ← g, ← h]; rfl
end
attribute [go_sem] awpList_mk
end Go.Proofs.YtkapgooedfompaaGreatAw
namespace Go.Proofs.YtkapgooedfompaaGreatAw
open Go.RowKit
set_option linter.unusedVariables false
set_option linter.unusedSimpArgs false
section
variable {P : Program} {hint : Nat → Bool} {s s' : Nat → AV} {H : AHeap}
theorem binK_det {op : BinOp} {t : TypeId} {u v : Value} {K : Value → Prop} (h : binK P op t u v K) : ∃ r, K r ∧ ∀ K', K' r → binK P op t u v K' := by
  unfold binK at h ⊢
  repeat' (split at h)
  all_goals first | exact h.elim | exact ⟨_, h, fun K' g => g⟩ | exact ⟨_, h.2, fun K' g => ⟨h.1, g⟩⟩ | exact ⟨_, h.2.2, fun K' g => ⟨h.1, h.2.1, g⟩⟩ | (obtain ⟨r, h1, h2⟩ := h; first | exact ⟨r, h2, fun K' g => ⟨r, h1, g⟩⟩ | exact ⟨r, h2, fun K' g => by simp_all; exact ⟨r, h1, g⟩⟩)
theorem unK_det {op : UnOp} {u : Value} {K : Value → Prop} (h : unK op u K) : ∃ r, K r ∧ ∀ K', K' r → unK op u K' := by
  cases op <;> cases u <;> first | exact h.elim | exact ⟨_, h, fun K' g => g⟩ | exact ⟨_, h.2, fun K' g => ⟨h.1, g⟩⟩
theorem abuiltin_det {b : Builtin} {args : List Operand} {tys : List TypeId} {K : AV → AHeap → Prop} (h : abuiltin P s H b args tys K) : ∃ r H', K r H' ∧ ∀ K', K' r H' → abuiltin P s H b args tys K' := by
  unfold abuiltin at h ⊢
  repeat' (split at h)
  all_goals first | exact h.elim | (exact (show False from by first | exact h.2 | exact h.2.2 | exact h.2.2.2 | exact h.2.2.2.2).elim) | exact ⟨_, _, h, fun K' g => g⟩ | exact ⟨_, _, h.2, fun K' g => ⟨h.1, g⟩⟩ | exact ⟨_, _, h.2.2, fun K' g => ⟨h.1, h.2.1, g⟩⟩ | exact ⟨_, _, h.2.2.2, fun K' g => ⟨h.1, h.2.1, h.2.2.1, g⟩⟩ | exact ⟨_, _, h.2.2.2.2.2, fun K' g => ⟨h.1, h.2.1, h.2.2.1, h.2.2.2.1, h.2.2.2.2.1, g⟩⟩ | exact ⟨_, _, h.2.2.2.2.2.2, fun K' g => ⟨h.1, h.2.1, h.2.2.1, h.2.2.2.1, h.2.2.2.2.1, h.2.2.2.2.2.1, g⟩⟩
theorem aslice_det {k : Nat} {lo : Option Int} {hi : Nat → Option Int} {x : AV} {K : AV → AHeap → Prop} (h : aslice H k lo hi K x) : ∃ r H', K r H' ∧ ∀ K', K' r H' → aslice H k lo hi K' x := by
  cases x with
  | d u =>
    cases u with
    | v _ => exact h.elim
    | list nn es =>
      simp only [aslice] at h ⊢
      obtain ⟨h0, h⟩ := h
      cases lo with
      | none => exact h.elim
      | some l =>
        cases hq : hi es.length with
        | none => rw [hq] at h; exact h.elim
        | some m => rw [hq] at h; exact ⟨_, _, h.2.2.2, fun K' g => ⟨h0, h.1, h.2.1, h.2.2.1, g⟩⟩
  | sl id ver off len =>
    simp only [aslice] at h ⊢
    cases ho : H[id]? with
    | none => rw [ho] at h; exact h.elim
    | some o =>
      rw [ho] at h
      cases lo with
      | none => exact h.elim
      | some l =>
        cases hq : hi len with
        | none => rw [hq] at h; exact h.elim
        | some m => rw [hq] at h; exact ⟨_, _, h.2.2.2.2.2, fun K' g => ⟨h.1, h.2.1, h.2.2.1, h.2.2.2.1, h.2.2.2.2.1, g⟩⟩
  | _ => exact h.elim
theorem aslice3_det {k : Nat} {lo hi mx : Option Int} {x : AV} {K : AV → AHeap → Prop} (h : aslice3 H k lo hi mx K x) : ∃ r H', K r H' ∧ ∀ K', K' r H' → aslice3 H k lo hi mx K' x := by
  cases x with
  | d u =>
    cases u with
    | v _ => exact h.elim
    | list nn es => cases lo <;> cases hi <;> cases mx <;> first | exact h.2.elim | exact ⟨_, _, h.2.2.2.2.2, fun K' g => ⟨h.1, h.2.1, h.2.2.1, h.2.2.2.1, h.2.2.2.2.1, g⟩⟩
  | _ => exact h.elim
theorem aassert_det {t : TypeId} {ok : Bool} {v : Option Value} {K : AV → AHeap → Prop} (h : aassert P t ok H K v) : ∃ r H', K r H' ∧ ∀ K', K' r H' → aassert P t ok H K' v := by
  unfold aassert at h ⊢
  cases e : assertR P t ok v with
  | none => rw [e] at h; exact h.2.elim
  | some r => rw [e] at h; exact ⟨_, _, h.2, fun K' g => ⟨h.1, g⟩⟩
/-- Only the step of a range over a map has more than one outcome. -/
def detOp : Op → Bool
  | .next _ _ => false
  | _ => true
theorem aop_det {hi : Bool} {op : Op} {K : AV → AHeap → Prop} (hd : detOp op = true) (h : aop P s H hi op K) : ∃ r H', K r H' ∧ ∀ K', K' r H' → aop P s H hi op K' := by
  unfold aop at h ⊢
  repeat' (split at h)
  all_goals first | exact h.elim | (cases hd; done) | (exact (show False from by first | exact h.2 | exact h.2.2 | exact h.2.2.2 | exact h.2.2.2.2).elim) | exact ⟨_, _, h, fun K' g => g⟩ | exact ⟨_, _, h.2, fun K' g => ⟨h.1, g⟩⟩ | exact ⟨_, _, h.2.2, fun K' g => ⟨h.1, h.2.1, g⟩⟩ | exact ⟨_, _, h.2.2.2, fun K' g => ⟨h.1, h.2.1, h.2.2.1, g⟩⟩ | exact ⟨_, _, h.2.2.2.2.2.2, fun K' g => ⟨h.1, h.2.1, h.2.2.1, h.2.2.2.1, h.2.2.2.2.1, h.2.2.2.2.2.1, g⟩⟩ | exact ⟨_, _, h.2.2.2.2, fun K' g => ⟨h.1, h.2.1, h.2.2.1, h.2.2.2.1, g⟩⟩ | exact abuiltin_det h |
    (obtain ⟨r, h1, h2⟩ := binK_det h; exact ⟨_, _, h1, fun K' g => h2 _ g⟩) | (obtain ⟨r, h1, h2⟩ := unK_det h; exact ⟨_, _, h1, fun K' g => h2 _ g⟩) | exact aslice_det h | exact aslice3_det h | exact aassert_det h | skip
  all_goals first | (exfalso; simp_all; done) | exact ⟨_, _, h, fun K' g => by rw [if_pos (by assumption)]; exact g⟩ | exact ⟨_, _, h, fun K' g => by rw [if_neg (by assumption)]; exact g⟩ | exact ⟨_, _, h.2, fun K' g => by rw [if_pos (by assumption)]; exact ⟨h.1, g⟩⟩ | exact ⟨_, _, h.2, fun K' g => ⟨h.1, by first | (rw [if_pos (by assumption)]; exact g) | (rw [if_neg (by assumption)]; exact g)⟩⟩ |
    exact ⟨_, _, h.2, fun K' g => by rw [if_neg (by assumption)]; exact ⟨h.1, by first | (rw [if_pos (by assumption)]; exact g) | (rw [if_neg (by assumption)]; exact g)⟩⟩ | trace_state
theorem astep_det {o : Oper} {K : AV → AHeap → Prop} (hdo : detOp o.op = true) (h : astep P hint s H o K (fun _ _ => False)) : ∃ r H', K r H' ∧ ∀ K' KP', K' r H' → astep P hint s H o K' KP' := by
  unfold astep at h ⊢
  split at h
  · split at h <;> exact h.elim
  · split at h
    · split at h
      · obtain ⟨res, H', hd, h⟩ := h
        cases res with
        | ok r => exact ⟨r, H', h, fun K' KP' g => ⟨.ok r, H', hd, g⟩⟩
        | panic v => exact h.elim
      · exact h.elim
    · obtain ⟨r, H', h1, h2⟩ := abuiltin_det h
      exact ⟨r, H', h1, fun K' KP' g => h2 _ g⟩
    · exact h.elim
  · obtain ⟨r, H', h1, h2⟩ := aop_det hdo h
    exact ⟨r, H', h1, fun K' KP' g => h2 _ g⟩
theorem aeval_congr {x : Operand} (h : ∀ t, x = .tmp t → s t = s' t) : aeval s x = aeval s' x := by
  cases x with
  | tmp t => exact h t rfl
  | _ => rfl
def opTmps (o : Oper) : List Tmp := o.op.operands.toList.filterMap fun | .tmp t => some t | _ => none
theorem opTmps_mem {o : Oper} (h : ∀ t ∈ opTmps o, s t = s' t) (x : Operand) (hx : x ∈ o.op.operands) : aeval s x = aeval s' x :=
  aeval_congr fun t ht => h t (by subst ht; exact List.mem_filterMap.2 ⟨_, Array.mem_toList_iff.2 hx, rfl⟩)
theorem aparts_congr {parts : Array (Nat × Operand)} (h : ∀ p ∈ parts.toList, aeval s p.2 = aeval s' p.2) : aparts s parts = aparts s' parts := by
  unfold aparts
  exact List.map_congr_left fun p hp => by rw [h p hp]
theorem intArgs_congr {k : IntKind} : ∀ {xs : List Operand}, (∀ x ∈ xs, aeval s x = aeval s' x) → intArgs s k xs = intArgs s' k xs
  | [], _ => rfl
  | x :: xs, h => by
    unfold intArgs
    rw [h x (by simp), intArgs_congr fun y hy => h y (by simp [hy])]
theorem abuiltin_congr {b : Builtin} {args : List Operand} {tys : List TypeId} {K : AV → AHeap → Prop} (h : ∀ x ∈ args, aeval s x = aeval s' x) : abuiltin P s H b args tys K = abuiltin P s' H b args tys K := by
  unfold abuiltin
  split
  · rw [h _ (by simp)]
  · rw [h _ (by simp), h _ (by simp)]
  · rw [h _ (by simp)]
  · rename_i x xs
    rw [h x (by simp)]
    have e : ∀ k, intArgs s k xs = intArgs s' k xs := fun k => intArgs_congr fun y hy => h y (by simp [hy])
    simp only [e]
  · rename_i x xs
    rw [h x (by simp)]
    have e : ∀ k, intArgs s k xs = intArgs s' k xs := fun k => intArgs_congr fun y hy => h y (by simp [hy])
    simp only [e]
  · rfl
theorem aop_congr {hi : Bool} {op : Op} {K : AV → AHeap → Prop} (h : ∀ x ∈ op.operands, aeval s x = aeval s' x) : aop P s H hi op K = aop P s' H hi op K := by
  unfold aop
  split
  all_goals first
    | rfl
    | (have e := aparts_congr (s := s) (s' := s') fun p hp => h p.2 (by simp only [Op.operands, List.mem_toArray, List.mem_map]; exact ⟨p, hp, rfl⟩); simp only [e]; done)
    | exact abuiltin_congr fun x hx => h x (by simp only [Op.operands, Call.operands]; exact Array.mem_append.2 (.inr (Array.mem_toList_iff.1 hx)))
    | (split
       · exact abuiltin_congr fun x hx => h x (by simp only [Op.operands, Call.operands]; exact Array.mem_append.2 (.inr (Array.mem_toList_iff.1 hx)))
       · rfl)
    | (rename_i x lo hi' mx
       have e0 : aeval s x = aeval s' x := h _ (by simp [Op.operands])
       have e2 : sliceLo s (some hi') = sliceLo s' (some hi') := by simp only [sliceLo]; rw [h hi' (by simp [Op.operands])]
       have e3 : sliceLo s (some mx) = sliceLo s' (some mx) := by simp only [sliceLo]; rw [h mx (by simp [Op.operands])]
       have e1 : sliceLo s lo = sliceLo s' lo := by
         cases lo with
         | none => rfl
         | some y => simp only [sliceLo]; rw [h y (by simp [Op.operands])]
       rw [e0, e1, e2, e3]; done)
    | (rename_i x xT t ok; rw [h x (by simp [Op.operands])]; done)
    | (rename_i x lo hi'
       have e0 : aeval s x = aeval s' x := h _ (by simp [Op.operands])
       have e1 : sliceLo s lo = sliceLo s' lo := by
         cases lo with
         | none => rfl
         | some y => simp only [sliceLo]; rw [h y (by simp [Op.operands])]
       have e2 : ∀ n, sliceHi s n hi' = sliceHi s' n hi' := by
         intro n
         cases hi' with
         | none => rfl
         | some y => simp only [sliceHi]; rw [h y (by simp [Op.operands])]
       first | (simp only [e0, e1, e2]; done) | (simp only [e0, e1, funext e2]; done))
    | (simp [Op.operands] at h; simp only [h]; done)
    | (rename_i caps; rw [List.map_congr_left fun x hx => h x (by simp only [Op.operands]; exact Array.mem_append.2 (.inr (Array.mem_toList_iff.1 hx)))]; done)
    | skip
  all_goals
    rename_i x lo hi'
    have e0 : aeval s x = aeval s' x := h _ (by simp [Op.operands])
    have e1 : sliceLo s lo = sliceLo s' lo := by
      cases lo with
      | none => rfl
      | some y => simp only [sliceLo]; rw [h y (by simp [Op.operands])]
    have e2 : ∀ n, sliceHi s n hi' = sliceHi s' n hi' := by
      intro n
      cases hi' with
      | none => rfl
      | some y => simp only [sliceHi]; rw [h y (by simp [Op.operands])]
    simp only [e0, e1, e2, nf_id]
theorem astep_congr {o : Oper} {K : AV → AHeap → Prop} {KP : Value → AHeap → Prop} (h : ∀ t ∈ opTmps o, s t = s' t) : astep P hint s H o K KP = astep P hint s' H o K KP := by
  have h' := opTmps_mem h
  unfold astep
  split
  · rename_i x hx
    rw [h' x (by rw [hx]; simp [Op.operands])]
  · rename_i c hc
    have hm : ∀ x ∈ c.operands, aeval s x = aeval s' x := fun x hx => h' x (by rw [hc]; exact hx)
    split
    · rename_i f hf
      have e1 : aeval s f = aeval s' f := hm f (by simp [Call.operands, hf])
      have e2 : c.args.toList.map (aeval s) = c.args.toList.map (aeval s') := List.map_congr_left fun x hx => hm x (by simp only [Call.operands]; exact Array.mem_append.2 (.inr (Array.mem_toList_iff.1 hx)))
      rw [e1, e2]
    · exact abuiltin_congr fun x hx => hm x (by simp only [Call.operands]; exact Array.mem_append.2 (.inr (Array.mem_toList_iff.1 hx)))
    · rfl
  · exact aop_congr h'
end

def dstAt (ops : Array Oper) (j : Nat) : Option Tmp := (ops[j]?).bind (·.dst)
def bindsOn (o : Oper) (j : Nat) : Bool := o.after.toList.any fun e => Region.binds .any e && e.on == j
/-- Whether i is bound behind j, by way of others too. -/
def reachB (ops : Array Oper) : Nat → Nat → Nat → Bool
  | 0, _, _ => false
  | fuel + 1, i, j => match ops[i]? with
    | none => false
    | some o => bindsOn o j || (List.range i).any fun k => bindsOn o k && reachB ops fuel k j
def pureCheck (ops : Array Oper) : Bool := (List.range ops.size).all fun i => match ops[i]? with
  | none => true
  | some o => (o.after.toList.all fun e => !Region.binds .any e || decide (e.on < i)) && ((opTmps o).all fun t => (List.range ops.size).all fun j => !(dstAt ops j == some t) || (bindsOn o j || (match ops[j]? with | some oj => bindsOn oj i | none => false))) &&
    (match o.guard with | some (j, _) => bindsOn o j | none => true) && detOp o.op && ((List.range ops.size).all fun j => j == i || (dstAt ops i).isNone || !(dstAt ops j == dstAt ops i))
structure PureOk (ops : Array Oper) : Prop where
  down : ∀ (i : Nat) (o : Oper), ops[i]? = some o → ∀ e ∈ o.after, Region.binds .any e = true → e.on < i
  reads : ∀ (i : Nat) (o : Oper), ops[i]? = some o → ∀ t ∈ opTmps o, ∀ j, dstAt ops j = some t → bindsOn o j = true ∨ ∃ oj, ops[j]? = some oj ∧ bindsOn oj i = true
  guard : ∀ (i : Nat) (o : Oper), ops[i]? = some o → ∀ j w, o.guard = some (j, w) → bindsOn o j = true
  det : ∀ (i : Nat) (o : Oper), ops[i]? = some o → detOp o.op = true
  once : ∀ (i j : Nat) (t : Tmp), dstAt ops i = some t → dstAt ops j = some t → i = j
theorem dstAt_lt {ops : Array Oper} {j : Nat} {t : Tmp} (h : dstAt ops j = some t) : j < ops.size := by
  unfold dstAt at h
  obtain ⟨o, ho, _⟩ := Option.bind_eq_some_iff.1 h
  exact (Array.getElem?_eq_some_iff.1 ho).1
theorem pureCheck_ok {ops : Array Oper} (h : pureCheck ops = true) : PureOk ops := by
  unfold pureCheck at h
  rw [List.all_eq_true] at h
  have key : ∀ i o, ops[i]? = some o → ((o.after.toList.all fun e => !Region.binds .any e || decide (e.on < i)) = true ∧ ((opTmps o).all fun t => (List.range ops.size).all fun j => !(dstAt ops j == some t) || (bindsOn o j || (match ops[j]? with | some oj => bindsOn oj i | none => false))) = true ∧
      (match o.guard with | some (j, _) => bindsOn o j | none => true) = true ∧ detOp o.op = true) ∧ ((List.range ops.size).all fun j => j == i || (dstAt ops i).isNone || !(dstAt ops j == dstAt ops i)) = true := by
    intro i o ho
    have := h i (List.mem_range.2 (Array.getElem?_eq_some_iff.1 ho).1)
    simp only [ho, Bool.and_eq_true] at this
    exact ⟨⟨this.1.1.1.1, this.1.1.1.2, this.1.1.2, this.1.2⟩, this.2⟩
  refine ⟨fun i o ho e he hbe => ?_, fun i o ho t ht j hj => ?_, fun i o ho j w hg => ?_, fun i o ho => (key i o ho).1.2.2.2, fun i j t hi hj => ?_⟩
  · have := (key i o ho).1.1
    rw [List.all_eq_true] at this
    simpa [hbe] using this e (Array.mem_toList_iff.2 he)
  · have := (key i o ho).1.2.1
    rw [List.all_eq_true] at this
    have := this t ht
    rw [List.all_eq_true] at this
    have := this j (List.mem_range.2 (dstAt_lt hj))
    have hjl := dstAt_lt hj
    have hoj : ops[j]? = some ops[j] := by simp [hjl]
    rw [hj, hoj] at this
    simp only [beq_self_eq_true, Bool.not_true, Bool.false_or, Bool.or_eq_true] at this
    rcases this with h | h
    · exact .inl h
    · exact .inr ⟨_, hoj, h⟩
  · have := (key i o ho).1.2.2.1
    simpa [hg] using this
  · obtain ⟨o, ho, _⟩ := Option.bind_eq_some_iff.1 (show (ops[i]?).bind (·.dst) = some t from hi)
    have := (key i o ho).2
    rw [List.all_eq_true] at this
    have := this j (List.mem_range.2 (dstAt_lt hj))
    simp [hi, hj] at this
    exact this.symm
section
variable (P : Program) (hint : Nat → Bool) (n : Nat) (ops : Array Oper)
def StepR (H : AHeap) (s : Nat → AV) (o : Oper) (r : AV) : Prop := match o.guard with
  | none => ∀ K KP, K r H → astep P hint s H o K KP
  | some (j, want) => ∃ b, ayield ops s n j want = some b ∧ if b = true then ∀ K KP, K r H → astep P hint s H o K KP else r = .tup []
/-- The region in the order of its text, where each operation leaves the heap alone. -/
def awpPure (Q : Post) : List Oper → (Nat → AV) → AHeap → Prop
  | [], s, H => Q .normal s H
  | o :: rest, s, H => awpOp P hint n ops (fun _ _ _ => False) o (fun s' H' => H' = H ∧ awpPure Q rest s' H) s H
def stAt (s : Nat → AV) (rs : Nat → AV) : Nat → (Nat → AV)
  | 0 => s
  | k + 1 => aput n (stAt s rs k) (dstAt ops k) (rs k)
end
section
variable (P : Program) (hint : Nat → Bool) (n : Nat) (ops : Array Oper)
def KTail (Q : Post) (l : List Oper) : Post := fun e s H => match e with | .normal => awpList P hint n ops Q l s H | _ => False
def awpPureK (Q : Post) : Nat → List Oper → (Nat → AV) → AHeap → Prop
  | 0, l, s, H => awpList P hint n ops Q l s H
  | _ + 1, [], s, H => awpList P hint n ops Q [] s H
  | m + 1, o :: rest, s, H => awpOp P hint n ops (fun _ _ _ => False) o (fun s' H' => H' = H ∧ awpPureK Q m rest s' H) s H
end
theorem awpPureK_eq {P : Program} {hint : Nat → Bool} {n : Nat} {ops : Array Oper} {Q : Post} : ∀ (m : Nat) (l : List Oper) (s : Nat → AV) (H : AHeap), awpPureK P hint n ops Q m l s H = awpPure P hint n ops (KTail P hint n ops Q (l.drop m)) (l.take m) s H
  | 0, l, s, H => by simp [awpPureK, awpPure, KTail]
  | m + 1, [], s, H => by simp [awpPureK, awpPure, KTail]
  | m + 1, o :: rest, s, H => by
    have e : ∀ s' H, awpPureK P hint n ops Q m rest s' H = _ := fun s' H => awpPureK_eq m rest s' H
    simp only [awpPureK, List.drop_succ_cons, List.take_succ_cons, awpPure, e]
theorem awpPure_mono {P : Program} {hint : Nat → Bool} {n : Nat} {ops : Array Oper} {Q Q' : Post} (hq : ∀ s H, Q .normal s H → Q' .normal s H) : ∀ (l : List Oper) (s : Nat → AV) {H : AHeap}, awpPure P hint n ops Q l s H → awpPure P hint n ops Q' l s H
  | [], s, H, h => hq _ _ h
  | o :: rest, s, H, h => by
    unfold awpPure at h ⊢
    exact awpOp_mono (fun _ _ _ h => h) (fun s' H' h' => ⟨h'.1, awpPure_mono hq rest s' h'.2⟩) h
section
variable {P : Program} {hint : Nat → Bool} {n : Nat} {ops : Array Oper} {H : AHeap} {Q : Post}
theorem StepR.op {s : Nat → AV} {o : Oper} {r : AV} (h : StepR P hint n ops H s o r) {K : (Nat → AV) → AHeap → Prop} (hk : K (aput n s o.dst r) H) : awpOp P hint n ops Q o K s H := by
  unfold StepR at h
  unfold awpOp
  split at h
  · rename_i hg
    try simp only [hg]
    exact h (fun r H' => K (aput n s o.dst r) H') _ hk
  · rename_i j want hg
    obtain ⟨b, hb, h⟩ := h
    simp only [hg, hb]
    split at h
    · rw [if_pos (by assumption)]; exact h (fun r H' => K (aput n s o.dst r) H') _ hk
    · rw [if_neg (by assumption)]; rw [h] at hk; exact hk
theorem StepR.congr {s s' : Nat → AV} {o : Oper} {r : AV} (h : StepR P hint n ops H s o r) (h1 : ∀ t ∈ opTmps o, s t = s' t) (h2 : ∀ j w, o.guard = some (j, w) → ∀ d, dstAt ops j = some d → s d = s' d) : StepR P hint n ops H s' o r := by
  unfold StepR at h ⊢
  split at h
  · rename_i hg
    try simp only [hg]
    intro K KP hk
    rw [← astep_congr h1]
    exact h K KP hk
  · rename_i j want hg
    try simp only [hg]
    obtain ⟨b, hb, h⟩ := h
    refine ⟨b, ?_, ?_⟩
    · rw [← hb]
      unfold ayield
      have := h2 j want hg
      unfold dstAt at this
      cases hd : (ops[j]?).bind (·.dst) with
      | none => rfl
      | some d => simp only [this d hd]
    · split at h
      · rw [if_pos (by assumption)]
        intro K KP hk
        rw [← astep_congr h1]
        exact h K KP hk
      · rw [if_neg (by assumption)]; exact h
theorem awpPure_steps (hdt : ∀ (i : Nat) (o : Oper), ops[i]? = some o → detOp o.op = true) (m : Nat) (hm : m ≤ ops.size) (s0 : Nat → AV) (rs0 : Nat → AV) : ∀ (l : List Oper) (k : Nat), l = (ops.toList.take m).drop k → k ≤ m → awpPure P hint n ops Q l (stAt n ops s0 rs0 k) H →
    ∃ rs, (∀ i, i < k → rs i = rs0 i) ∧ (∀ i o, k ≤ i → i < m → ops[i]? = some o → StepR P hint n ops H (stAt n ops s0 rs i) o (rs i)) ∧ Q .normal (stAt n ops s0 rs m) H
  | [], k, hl, hk, h => by
    have : m ≤ k := by have := congrArg List.length hl; simp at this; omega
    have hk' : k = m := by omega
    subst hk'
    exact ⟨rs0, fun _ _ => rfl, fun i o hi hi2 ho => absurd hi2 (by omega), h⟩
  | o :: rest, k, hl, hk, h => by
    have hlt : k < m := by have := congrArg List.length hl; simp at this; omega
    have ho : ops[k]? = some o := by
      have : ((ops.toList.take m).drop k)[0]? = some o := by rw [← hl]; rfl
      simpa [List.getElem?_take, hlt] using this
    have hrest : rest = (ops.toList.take m).drop (k + 1) := by rw [← List.drop_drop]; rw [← hl]; rfl
    have hdst : dstAt ops k = o.dst := by simp [dstAt, ho]
    have step : ∃ r, StepR P hint n ops H (stAt n ops s0 rs0 k) o r ∧ awpPure P hint n ops Q rest (aput n (stAt n ops s0 rs0 k) o.dst r) H := by
      unfold awpPure awpOp at h
      split at h
      · rename_i hg
        obtain ⟨r, H', ⟨rfl, hr⟩, hdet⟩ := astep_det (hdt k o ho) h
        exact ⟨r, by unfold StepR; simp only [hg]; exact fun K KP hk => hdet K KP hk, hr⟩
      · rename_i j want hg
        split at h
        · rename_i b hb
          split at h
          · rename_i hbw
            obtain ⟨r, H', ⟨rfl, hr⟩, hdet⟩ := astep_det (hdt k o ho) h
            exact ⟨r, by unfold StepR; simp only [hg]; exact ⟨b, hb, by rw [if_pos hbw]; exact fun K KP hk => hdet K KP hk⟩, hr⟩
          · rename_i hbw
            exact ⟨.tup [], by unfold StepR; simp only [hg]; exact ⟨b, hb, by simp [hbw]⟩, h.2⟩
        · exact h.elim
    obtain ⟨r, hr, hnext⟩ := step
    let rs1 : Nat → AV := fun i => if i = k then r else rs0 i
    have hst : ∀ i, i ≤ k → stAt n ops s0 rs1 i = stAt n ops s0 rs0 i := by
      intro i
      induction i with
      | zero => intro _; rfl
      | succ i ih =>
        intro hi
        simp only [stAt, ih (by omega)]
        have : rs1 i = rs0 i := by show (if i = k then r else rs0 i) = _; rw [if_neg (by omega)]
        rw [this]
    have hk1 : rs1 k = r := by show (if k = k then r else _) = r; rw [if_pos rfl]
    have h' : awpPure P hint n ops Q rest (stAt n ops s0 rs1 (k + 1)) H := by
      simp only [stAt, hst k (Nat.le_refl _), hk1, hdst]
      exact hnext
    obtain ⟨rs, h1, h2, h3⟩ := awpPure_steps hdt m hm s0 rs1 rest (k + 1) hrest hlt h'
    have hst2 : ∀ i, i ≤ k → stAt n ops s0 rs i = stAt n ops s0 rs0 i := by
      intro i
      induction i with
      | zero => intro _; rfl
      | succ i ih =>
        intro hi
        simp only [stAt, ih (by omega)]
        have e1 : rs i = rs1 i := h1 i (by omega)
        have e2 : rs1 i = rs0 i := by show (if i = k then r else rs0 i) = _; rw [if_neg (by omega)]
        rw [e1, e2]
    refine ⟨rs, fun i hi => ?_, fun i o' hi hi2 ho' => ?_, h3⟩
    · rw [h1 i (by omega)]; show (if i = k then r else rs0 i) = _; rw [if_neg (by omega)]
    · rcases Nat.lt_or_ge k i with hki | hki
      · exact h2 i o' hki hi2 ho'
      · obtain rfl : i = k := by omega
        rw [ho] at ho'
        cases ho'
        rw [hst2 i (Nat.le_refl _), h1 i (by omega), hk1]
        exact hr
theorem countP_lt {p q : Nat → Bool} {i : Nat} (hpq : ∀ j, p j = true → q j = true) (hp : p i = false) (hq : q i = true) : ∀ l : List Nat, i ∈ l → l.countP p < l.countP q
  | [], h => by simp at h
  | x :: l, h => by
    have hle : l.countP p ≤ l.countP q := List.countP_mono_left fun j _ => hpq j
    rw [List.countP_cons, List.countP_cons]
    by_cases hx : i = x
    · subst hx
      simp [hp, hq]; omega
    · have := countP_lt hpq hp hq l (by simpa [hx] using h)
      by_cases hpx : p x = true
      · simp [hpx, hpq x hpx]; omega
      · simp [hpx]; omega
theorem bound_listed {listed : Array Bool} {o : Oper} {j : Nat} (h1 : (o.after.all fun e => !Region.binds .any e || listed.getD e.on false) = true) (h2 : bindsOn o j = true) : listed.getD j false = true := by
  unfold bindsOn at h2
  rw [List.any_eq_true] at h2
  obtain ⟨e, he, h2⟩ := h2
  rw [Array.all_eq_true_iff_forall_mem] at h1
  have := h1 e (Array.mem_toList_iff.1 he)
  simp only [Bool.and_eq_true, beq_iff_eq] at h2
  simpa [h2.1, h2.2] using this
/-- A chain at a region's end: each operation bound behind all before it. -/
theorem awpAny_chain {m0 : Nat} (hc : PureOk ops) (htl : ∀ i o, ops[i]? = some o → m0 < i → bindsOn o (i - 1) = true) : ∀ {fuel : Nat} {listed : Array Bool} {s : Nat → AV} {H : AHeap}, listed.size = ops.size → ∀ m, m0 ≤ m → m ≤ ops.size →
    (∀ i, i < m → listed.getD i true = true) → (∀ i, m ≤ i → i < ops.size → listed.getD i false = false) → awpList P hint n ops Q (ops.toList.drop m) s H → ops.size - m ≤ fuel → awpAny P hint n ops Q fuel listed s H := by
  intro fuel
  induction fuel with
  | zero =>
    intro listed s H hsz m hm0 hm hall hno h hf
    have : m = ops.size := by omega
    subst this
    rw [List.drop_of_length_le (by simp)] at h
    refine ⟨?_, h⟩
    unfold Region.ready
    rw [List.filter_eq_nil_iff]
    intro i hi
    simp only [hall i (List.mem_range.1 hi), Bool.not_true, Bool.false_and, Bool.false_eq_true, not_false_eq_true]
  | succ fuel ih =>
    intro listed s H hsz m hm0 hm hall hno h hf
    rcases Nat.lt_or_ge m ops.size with hlt | hge
    · have hget : ops[m]? = some ops[m] := by simp [hlt]
      have hun : listed.getD m true = false := by
        have := hno m (Nat.le_refl _) hlt
        simpa [Array.getD, show m < listed.size by omega] using this
      have hd : ops.toList.drop m = ops[m] :: ops.toList.drop (m + 1) := by
        rw [List.drop_eq_getElem_cons (by simpa using hlt)]; simp
      rw [hd] at h
      refine ⟨fun hr => ?_, fun i hi => ?_⟩
      · exfalso
        have : m ∈ Region.ready .any ops listed := by
          unfold Region.ready
          rw [List.mem_filter]
          refine ⟨List.mem_range.2 hlt, ?_⟩
          simp only [hun, hget, Bool.not_false, Bool.true_and, Option.map_some, Option.getD_some]
          rw [Array.all_eq_true_iff_forall_mem]
          intro e he
          cases hbe : Region.binds .any e
          · simp
          have hl := hc.down m _ hget e he hbe
          have := hall e.on hl
          have : listed.getD e.on false = true := by simpa [Array.getD, show e.on < listed.size by omega] using this
          simp [this]
        rw [hr] at this
        simp at this
      · unfold Region.ready at hi
        rw [List.mem_filter] at hi
        obtain ⟨hi, hrd⟩ := hi
        have hi := List.mem_range.1 hi
        have hgeti : ops[i]? = some ops[i] := by simp [hi]
        simp only [hgeti, Option.map_some, Option.getD_some, Bool.and_eq_true, Bool.not_eq_true'] at hrd
        obtain ⟨hu, haft⟩ := hrd
        have him : i = m := by
          rcases Nat.lt_trichotomy i m with h1 | h1 | h1
          · rw [hall i h1] at hu; cases hu
          · exact h1
          · have := bound_listed haft (htl i _ hgeti (by omega))
            rw [hno (i - 1) (by omega) (by omega)] at this
            cases this
        subst him
        simp only [hget]
        have hset : ∀ j b, (listed.setIfInBounds i true).getD j b = if j = i then true else listed.getD j b := by
          intro j b
          simp only [Array.getD_eq_getD_getElem?, Array.getElem?_setIfInBounds]
          by_cases e : i = j
          · subst e; simp [hsz, hi]
          · rw [if_neg e, if_neg (Ne.symm e)]
        refine awpOp_mono (fun _ _ _ h => h) (fun s' H' h' => ?_) h
        refine ih (by simpa using hsz) (i + 1) (by omega) hi (fun j hj => ?_) (fun j hj hj2 => ?_) h' (by omega)
        · rw [hset]
          by_cases e : j = i
          · rw [if_pos e]
          · rw [if_neg e]; exact hall j (by omega)
        · rw [hset, if_neg (by omega)]
          exact hno j (by omega) hj2
    · have : m = ops.size := by omega
      subst this
      rw [List.drop_of_length_le (by simp)] at h
      refine ⟨fun _ => h, fun i hi => ?_⟩
      unfold Region.ready at hi
      rw [List.mem_filter] at hi
      obtain ⟨hi, hrd⟩ := hi
      rw [hall i (List.mem_range.1 hi)] at hrd
      simp at hrd
theorem reachB_listed {listed : Array Bool} (hcl : ∀ j oj i, ops[j]? = some oj → listed.getD j false = true → bindsOn oj i = true → listed.getD i false = true) : ∀ (fuel : Nat) (i : Nat) (o : Oper), ops[i]? = some o →
    (∀ j, bindsOn o j = true → listed.getD j false = true) → ∀ j, reachB ops fuel i j = true → listed.getD j false = true
  | 0, i, o, ho, hb, j, h => by simp [reachB] at h
  | fuel + 1, i, o, ho, hb, j, h => by
    simp only [reachB, ho, Bool.or_eq_true, List.any_eq_true, Bool.and_eq_true] at h
    rcases h with h | ⟨k, _, h1, h2⟩
    · exact hb j h
    · have hk := hb k h1
      cases hok : ops[k]? with
      | none => cases fuel <;> simp [reachB, hok] at h2
      | some ok => exact reachB_listed hcl fuel k ok hok (fun j' hj' => hcl k ok j' hok hk hj') j h2
theorem awpAny_steps (hc : PureOk ops) (m : Nat) (hm : m ≤ ops.size) (htl : ∀ i o, ops[i]? = some o → (i = m → ∀ j, j < m → reachB ops 12 i j = true) ∧ (m < i → bindsOn o (i - 1) = true)) (s : Nat → AV) (rs : Nat → AV) (hs : ∀ i o, i < m → ops[i]? = some o → StepR P hint n ops H (stAt n ops s rs i) o (rs i)) (hQ : awpList P hint n ops Q (ops.toList.drop m) (stAt n ops s rs m) H) :
    ∀ (fuel : Nat) (listed : Array Bool) (s' : Nat → AV), listed.size = ops.size → (List.range ops.size).countP (fun j => !listed.getD j true) ≤ fuel →
      (∀ t j, dstAt ops j = some t → s' t = if listed.getD j false = true then (if t < n then rs j else .top) else s t) → (∀ t, (∀ j, dstAt ops j ≠ some t) → s' t = s t) →
      (∀ j oj i, ops[j]? = some oj → listed.getD j false = true → bindsOn oj i = true → listed.getD i false = true) → (∀ i, m ≤ i → i < ops.size → listed.getD i false = false) → awpAny P hint n ops Q fuel listed s' H := by
  have st_no : ∀ k t, (∀ j, j < k → dstAt ops j ≠ some t) → stAt n ops s rs k t = s t := by
    intro k t
    induction k with
    | zero => intro _; rfl
    | succ k ih =>
      intro h
      simp only [stAt]
      cases hd : dstAt ops k with
      | none => exact ih fun j hj => h j (by omega)
      | some d =>
        simp only [aput]
        have : t ≠ d := fun e => h k (by omega) (by rw [hd, e])
        rw [if_neg this]
        exact ih fun j hj => h j (by omega)
  have st_dst : ∀ k t j, dstAt ops j = some t → j < k → stAt n ops s rs k t = if t < n then rs j else .top := by
    intro k t j hj
    induction k with
    | zero => intro h; omega
    | succ k ih =>
      intro h
      simp only [stAt]
      by_cases e : j = k
      · subst e
        rw [hj]
        simp only [aput, if_pos]
      · have := ih (by omega)
        cases hd : dstAt ops k with
        | none => exact this
        | some d =>
          simp only [aput]
          have hne : t ≠ d := fun e' => e (hc.once j k t hj (by rw [hd, e']))
          rw [if_neg hne]
          exact this
  have bind_of : ∀ (listed : Array Bool) (o : Oper) (j : Nat), (o.after.all fun e => !Region.binds .any e || listed.getD e.on false) = true → bindsOn o j = true → listed.getD j false = true := by
    intro listed o j h1 h2
    unfold bindsOn at h2
    rw [List.any_eq_true] at h2
    obtain ⟨e, he, h2⟩ := h2
    rw [Array.all_eq_true_iff_forall_mem] at h1
    have := h1 e (Array.mem_toList_iff.1 he)
    simp only [Bool.and_eq_true, beq_iff_eq] at h2
    simpa [h2.1, h2.2] using this
  have fin : ∀ (listed : Array Bool) (s' : Nat → AV), (∀ i, i < m → listed.getD i true = true) → (∀ i, m ≤ i → i < ops.size → listed.getD i false = false) → listed.size = ops.size →
      (∀ t j, dstAt ops j = some t → s' t = if listed.getD j false = true then (if t < n then rs j else .top) else s t) → (∀ t, (∀ j, dstAt ops j ≠ some t) → s' t = s t) → s' = stAt n ops s rs m := by
    intro listed s' hall hno hsz h1 h2
    funext t
    by_cases hd : ∃ j, dstAt ops j = some t
    · obtain ⟨j, hj⟩ := hd
      have hjl := dstAt_lt hj
      rcases Nat.lt_or_ge j m with hjm | hjm
      · have : listed.getD j false = true := by
          have := hall j hjm
          simpa [Array.getD, show j < listed.size by omega] using this
        rw [h1 t j hj, if_pos this, st_dst _ t j hj hjm]
      · rw [h1 t j hj, if_neg (by simp [hno j hjm hjl]), st_no m t fun j' hj' hd' => by
          have := hc.once j' j t hd' hj
          omega]
    · have hd' : ∀ j, dstAt ops j ≠ some t := fun j hj => hd ⟨j, hj⟩
      rw [h2 t hd', st_no _ t fun j _ => hd' j]
  intro fuel
  induction fuel with
  | zero =>
    intro listed s' hsz hcnt h1 h2 hcl hno
    have hall : ∀ i, i < ops.size → listed.getD i true = true := by
      intro i hi
      have h0 : (List.range ops.size).countP (fun j => !listed.getD j true) = 0 := by omega
      rw [List.countP_eq_zero] at h0
      simpa using h0 i (List.mem_range.2 hi)
    have hs' := fin listed s' (fun i hi => hall i (by omega)) hno hsz h1 h2
    subst hs'
    exact awpAny_chain hc (fun i o ho hi => (htl i o ho).2 hi) hsz m (Nat.le_refl _) hm (fun i hi => hall i (by omega)) (fun i hi hi2 => hno i hi hi2) hQ (by
      rcases Nat.lt_or_ge m ops.size with h | h
      · have e1 := hall m h
        have e2 := hno m (Nat.le_refl _) h
        simp [Array.getD, show m < listed.size by omega] at e1 e2
        rw [e1] at e2
        cases e2
      · omega)
  | succ fuel ih =>
    intro listed s' hsz hcnt h1 h2 hcl hno
    by_cases hpre : ∀ i, i < m → listed.getD i true = true
    · have hs' := fin listed s' hpre hno hsz h1 h2
      subst hs'
      refine awpAny_chain hc (fun i o ho hi => (htl i o ho).2 hi) hsz m (Nat.le_refl _) hm hpre hno hQ ?_
      have hsub : (List.range ops.size).countP (fun j => decide (m ≤ j)) ≤ (List.range ops.size).countP (fun j => !listed.getD j true) := by
        refine List.countP_mono_left fun j hj hmj => ?_
        have hj := List.mem_range.1 hj
        have := hno j (by simpa using hmj) hj
        simp [Array.getD, show j < listed.size by omega] at this ⊢
        exact this
      have hcm : ∀ N, m ≤ N → (List.range N).countP (fun j => decide (m ≤ j)) = N - m := by
        intro N hN
        induction N with
        | zero => simp
        | succ N ihN =>
          rw [List.range_succ, List.countP_append, List.countP_singleton]
          by_cases e : m ≤ N
          · rw [ihN e]; simp [e]; omega
          · have e' : m = N + 1 := by omega
            have : (List.range N).countP (fun j => decide (m ≤ j)) = 0 := by
              rw [List.countP_eq_zero]
              intro j hj
              have := List.mem_range.1 hj
              simp; omega
            rw [this]; simp [e]; omega
      rw [hcm _ hm] at hsub
      omega
    have hex : ∃ i, i < m ∧ listed.getD i true = false ∧ ∀ j, j < i → listed.getD j true = true := by
      have : ∃ i, i < m ∧ listed.getD i true = false := by
        rcases Classical.not_forall.1 hpre with ⟨i, hi⟩
        rcases Classical.not_imp.1 hi with ⟨h1, h2⟩
        exact ⟨i, h1, by simpa using h2⟩
      obtain ⟨i, hi⟩ := this
      induction i using Nat.strongRecOn with
      | _ i ihi =>
        by_cases hj : ∃ j, j < i ∧ listed.getD j true = false
        · obtain ⟨j, hj1, hj2⟩ := hj
          exact ihi j hj1 ⟨by omega, hj2⟩
        · refine ⟨i, hi.1, hi.2, fun j hji => ?_⟩
          cases hq : listed.getD j true with
          | true => rfl
          | false => exact absurd ⟨j, hji, hq⟩ hj
    obtain ⟨i0, hi0, hu0, hb0⟩ := hex
    refine ⟨fun hr => ?_, fun i hi => ?_⟩
    · exfalso
      have hlt0 : i0 < ops.size := by omega
      have hget : ops[i0]? = some ops[i0] := by simp [hlt0]
      have : i0 ∈ Region.ready .any ops listed := by
        unfold Region.ready
        rw [List.mem_filter]
        refine ⟨List.mem_range.2 hlt0, ?_⟩
        simp only [hu0, hget, Bool.not_false, Bool.true_and, Option.map_some, Option.getD_some]
        rw [Array.all_eq_true_iff_forall_mem]
        intro e he
        cases hbe : Region.binds .any e
        · simp
        have hlt := hc.down i0 _ hget e he hbe
        have := hb0 e.on hlt
        have : listed.getD e.on false = true := by simpa [Array.getD, show e.on < listed.size by omega] using this
        simp [this]
      rw [hr] at this
      simp at this
    · unfold Region.ready at hi
      rw [List.mem_filter] at hi
      obtain ⟨hi, hrd⟩ := hi
      have hi := List.mem_range.1 hi
      have hget : ops[i]? = some ops[i] := by simp [hi]
      simp only [hget, Option.map_some, Option.getD_some, Bool.and_eq_true, Bool.not_eq_true'] at hrd
      obtain ⟨hun, haft⟩ := hrd
      simp only [hget]
      have hdst : dstAt ops i = (ops[i]).dst := by simp [dstAt, hget]
      have hun' : listed.getD i false = false := by simpa [Array.getD, show i < listed.size by omega] using hun
      have him : i < m := by
        rcases Nat.lt_or_ge i m with h | h
        · exact h
        · exfalso
          have hu0' : listed.getD i0 false = false := by simpa [Array.getD, show i0 < listed.size by omega] using hu0
          rcases Nat.lt_or_ge m i with h2 | h2
          · have := bind_of listed ops[i] (i - 1) haft ((htl i _ hget).2 h2)
            rw [hno (i - 1) (by omega) (by omega)] at this
            cases this
          · have him : i = m := by omega
            have := reachB_listed hcl 12 i _ hget (fun j hj => bind_of listed ops[i] j haft hj) i0 ((htl i _ hget).1 him i0 hi0)
            rw [this] at hu0'
            cases hu0'
      have agree : ∀ t j, dstAt ops j = some t → bindsOn ops[i] j = true → stAt n ops s rs i t = s' t := by
        intro t j hj hb
        have hl := bind_of listed ops[i] j haft hb
        have hlt : j < i := by
          unfold bindsOn at hb
          rw [List.any_eq_true] at hb
          obtain ⟨e, he, hb⟩ := hb
          simp only [Bool.and_eq_true, beq_iff_eq] at hb
          have := hc.down i _ hget e (Array.mem_toList_iff.1 he) hb.1
          omega
        rw [st_dst i t j hj hlt, h1 t j hj, if_pos hl]
      refine StepR.op ((hs i _ him hget).congr (fun t ht => ?_) fun j w hg d hd => agree d j hd (hc.guard i _ hget j w hg)) ?_
      · by_cases hd : ∃ j, dstAt ops j = some t
        · obtain ⟨j, hj⟩ := hd
          rcases hc.reads i _ hget t ht j hj with hb | ⟨oj, hoj, hb⟩
          · exact agree t j hj hb
          · have hnl : listed.getD j false = false := by
              cases hq : listed.getD j false with
              | false => rfl
              | true => rw [hcl j oj i hoj hq hb] at hun'; cases hun'
            have hlt : i < j := by
              unfold bindsOn at hb
              rw [List.any_eq_true] at hb
              obtain ⟨e, he, hb⟩ := hb
              simp only [Bool.and_eq_true, beq_iff_eq] at hb
              have := hc.down j _ hoj e (Array.mem_toList_iff.1 he) hb.1
              omega
            rw [h1 t j hj, if_neg (by simp [hnl]), st_no i t fun j' hj' hd' => by
              have := hc.once j' j t hd' hj
              omega]
        · have hd' : ∀ j, dstAt ops j ≠ some t := fun j hj => hd ⟨j, hj⟩
          rw [st_no i t fun j _ => hd' j, h2 t hd']
      · have hset : ∀ j b, (listed.setIfInBounds i true).getD j b = if j = i then true else listed.getD j b := by
          intro j b
          simp only [Array.getD_eq_getD_getElem?, Array.getElem?_setIfInBounds]
          by_cases e : i = j
          · subst e; simp [hsz, hi]
          · rw [if_neg e, if_neg (Ne.symm e)]
        refine ih _ _ (by simpa using hsz) ?_ ?_ ?_ ?_ ?_
        · have := countP_lt (p := fun j => !(listed.setIfInBounds i true).getD j true) (q := fun j => !listed.getD j true) (i := i) (fun j hj => by
            simp only [hset] at hj ⊢
            by_cases e : j = i
            · simp [e] at hj
            · simpa [e] using hj) (by simp [hset]) (by simp [hun]) (List.range ops.size) (List.mem_range.2 hi)
          omega
        · intro t j hj
          rw [hset]
          by_cases e : j = i
          · subst e
            rw [hdst] at hj
            rw [if_pos rfl, if_pos rfl, hj]
            simp only [aput, if_pos]
          · rw [if_neg e]
            cases hd : (ops[i]).dst with
            | none => exact h1 t j hj
            | some d =>
              simp only [aput]
              have : t ≠ d := fun e' => e (hc.once j i t hj (by rw [hdst, hd, e']))
              rw [if_neg this]
              exact h1 t j hj
        · intro t ht
          cases hd : (ops[i]).dst with
          | none => exact h2 t ht
          | some d =>
            simp only [aput]
            have : t ≠ d := fun e' => ht i (by rw [hdst, hd, e'])
            rw [if_neg this]
            exact h2 t ht
        · intro j oj i' hoj hlj hb
          rw [hset] at hlj ⊢
          by_cases e' : i' = i
          · rw [if_pos e']
          · rw [if_neg e']
            by_cases e : j = i
            · subst e
              rw [hget] at hoj
              cases hoj
              exact bind_of listed _ i' haft hb
            · rw [if_neg e] at hlj
              exact hcl j oj i' hoj hlj hb
        · intro j hj hj2
          rw [hset, if_neg (by omega)]
          exact hno j hj hj2
def tailCheck (ops : Array Oper) (m : Nat) : Bool := decide (m ≤ ops.size) && (List.range ops.size).all fun i => decide (i < m) || if i = m then (List.range m).all fun j => reachB ops 12 i j else match ops[i]? with
  | none => true
  | some o => bindsOn o (i - 1)
theorem tailCheck_ok {m : Nat} (h : tailCheck ops m = true) : m ≤ ops.size ∧ ∀ i o, ops[i]? = some o → (i = m → ∀ j, j < m → reachB ops 12 i j = true) ∧ (m < i → bindsOn o (i - 1) = true) := by
  unfold tailCheck at h
  simp only [Bool.and_eq_true, decide_eq_true_eq, List.all_eq_true] at h
  refine ⟨h.1, fun i o ho => ?_⟩
  have := h.2 i (List.mem_range.2 (Array.getElem?_eq_some_iff.1 ho).1)
  refine ⟨fun e j hj => ?_, fun hi => ?_⟩
  · subst e
    simp only [Nat.lt_irrefl, decide_false, Bool.false_or, if_true, List.all_eq_true] at this
    exact this j (List.mem_range.2 hj)
  · have h1 : ¬ i < m := by omega
    have h2 : ¬ i = m := by omega
    simpa only [h1, h2, decide_false, Bool.false_or, if_false, ho] using this
/-- A drawn region: m operations that leave the heap alone, then a chain. -/
theorem awp_drawC (m : Nat) {H0 : AHeap} {id : Nat} {s : Nat → AV} (hm : P.follows .mixedOrders = true) (hc : pureCheck ops = true) (ht : tailCheck ops m = true)
    (h : awpPure P hint n ops (KTail P hint n ops Q (ops.toList.drop m)) (ops.toList.take m) s H) : awp P hint n H0 (.region id ops true) Q s H := by
  obtain ⟨hms, htl⟩ := tailCheck_ok ht
  refine ⟨hm, ?_⟩
  obtain ⟨rs, _, h2, h3⟩ := awpPure_steps (pureCheck_ok hc).det m hms s (fun _ => .top) (ops.toList.take m) 0 rfl (Nat.zero_le _) h
  refine awpAny_steps (pureCheck_ok hc) m hms htl s rs (fun i o hi ho => h2 i o (Nat.zero_le _) hi ho) h3 ops.size (Array.replicate ops.size false) s (by simp) ?_ ?_ ?_ ?_ ?_
  · exact Nat.le_trans List.countP_le_length (by simp)
  · intro t j hj
    have hjl := dstAt_lt hj
    rw [if_neg (by simp [Array.getD, hjl])]
  · intro t _; rfl
  · intro j oj i hoj hl
    have hjl := (Array.getElem?_eq_some_iff.1 hoj).1
    simp [Array.getD, hjl] at hl
  · intro i hi hi2
    simp [Array.getD, hi2]
/-- A drawn region of operations that leave the heap alone: in the order of its text is enough. -/
theorem awp_draw {H0 : AHeap} {id : Nat} {s : Nat → AV} (hm : P.follows .mixedOrders = true) (hc : pureCheck ops = true) (h : awpPure P hint n ops Q ops.toList s H) : awp P hint n H0 (.region id ops true) Q s H := by
  refine awp_drawC ops.size hm hc ?_ ?_
  · unfold tailCheck
    simp only [Nat.le_refl, decide_true, Bool.true_and, List.all_eq_true]
    intro i hi
    simp [List.mem_range.1 hi]
  · have e1 : ops.toList.drop ops.size = [] := List.drop_of_length_le (by simp)
    have e2 : ops.toList.take ops.size = ops.toList := List.take_of_length_le (by simp)
    rw [e1, e2]
    exact awpPure_mono (Q := Q) (Q' := KTail P hint n ops Q []) (fun s H h => h) _ _ h
/-- Cut where the given list says. -/
theorem awp_drawK (m : Nat) {H0 : AHeap} {id : Nat} {s : Nat → AV} (hm : P.follows .mixedOrders = true) (hc : pureCheck ops = true) (ht : tailCheck ops m = true)
    (h : awpPureK P hint n ops Q m ops.toList s H) : awp P hint n H0 (.region id ops true) Q s H := awp_drawC m hm hc ht (by rw [← awpPureK_eq]; exact h)
end
section
variable (P : Program) (hint : Nat → Bool) (n : Nat) (ops : Array Oper) (Q : Post) (rest : List Oper) (s : Nat → AV) (H : AHeap)
def KPure (d : Option Tmp) (H0 : AHeap) : AV → AHeap → Prop := fun r H' => H' = H0 ∧ awpPure P hint n ops Q rest (aput n s d r) H0
def KNo : Value → AHeap → Prop := fun _ _ => False
theorem KPure_app (d : Option Tmp) (H0 : AHeap) (r : AV) : KPure P hint n ops Q rest s d H0 r H = (H = H0 ∧ awpPure P hint n ops Q rest (aput n s d r) H0) := rfl
theorem awpPure_nil : awpPure P hint n ops Q [] s H = Q .normal s H := rfl
theorem awpPure_none (d : Option Tmp) (op : Op) (ty : TypeId) (p : String) (af : Array Edge) : awpPure P hint n ops Q (⟨d, op, ty, p, af, none⟩ :: rest) s H = astep P hint s H ⟨d, op, ty, p, af, none⟩ (KPure P hint n ops Q rest s d H) KNo := rfl
theorem awpPure_guard (d : Option Tmp) (op : Op) (ty : TypeId) (p : String) (af : Array Edge) (j : Nat) (b : Bool) :
    awpPure P hint n ops Q (⟨d, op, ty, p, af, some (j, b)⟩ :: rest) s H = ob (ayield ops s n j b) fun b' => aite b' (astep P hint s H ⟨d, op, ty, p, af, some (j, b)⟩ (KPure P hint n ops Q rest s d H) KNo) (H = H ∧ awpPure P hint n ops Q rest (aput n s d (.tup [])) H) := by
  simp only [awpPure, awpOp, nf_id]
  cases ayield ops s n j b with
  | none => rfl
  | some b' => cases b' <;> rfl
def KPureK (m : Nat) (d : Option Tmp) (H0 : AHeap) : AV → AHeap → Prop := fun r H' => H' = H0 ∧ awpPureK P hint n ops Q m rest (aput n s d r) H0
theorem KPureK_app (m : Nat) (d : Option Tmp) (H0 : AHeap) (r : AV) : KPureK P hint n ops Q rest s m d H0 r H = (H = H0 ∧ awpPureK P hint n ops Q m rest (aput n s d r) H0) := rfl
theorem awpPureK_zero (l : List Oper) : awpPureK P hint n ops Q 0 l s H = awpList P hint n ops Q l s H := by cases l <;> rfl
theorem awpPureK_none (m : Nat) (d : Option Tmp) (op : Op) (ty : TypeId) (p : String) (af : Array Edge) : awpPureK P hint n ops Q (m + 1) (⟨d, op, ty, p, af, none⟩ :: rest) s H = astep P hint s H ⟨d, op, ty, p, af, none⟩ (KPureK P hint n ops Q rest s m d H) KNo := rfl
theorem awpPureK_mk (m : Nat) (l : List Oper) : awpPureK P hint n ops Q m l.toArray.toList s H = awpPureK P hint n ops Q m l s H := rfl
theorem awpPure_mk (l : List Oper) : awpPure P hint n ops Q l.toArray.toList s H = awpPure P hint n ops Q l s H := rfl
end
@[congr] theorem cg_pure {P : Program} {hint : Nat → Bool} {n : Nat} {ops : Array Oper} {Q : Post} {l : List Oper} {s : Nat → AV} {H H' : AHeap} (h : nf H = H') : awpPure P hint n ops Q l s H = awpPure P hint n ops Q l s H' := by rw [← h]; rfl
@[congr] theorem cg_KPure {P : Program} {hint : Nat → Bool} {n : Nat} {ops : Array Oper} {Q : Post} {rest : List Oper} {s : Nat → AV} {d : Option Tmp} {H0 H H' : AHeap} {r r' : AV} (g : nf r = r') (h : nf H = H') : KPure P hint n ops Q rest s d H0 r H = KPure P hint n ops Q rest s d H0 r' H' := by rw [← g, ← h]; rfl
@[congr] theorem cg_pureK {P : Program} {hint : Nat → Bool} {n : Nat} {ops : Array Oper} {Q : Post} {m : Nat} {l : List Oper} {s : Nat → AV} {H H' : AHeap} (h : nf H = H') : awpPureK P hint n ops Q m l s H = awpPureK P hint n ops Q m l s H' := by rw [← h]; rfl
@[congr] theorem cg_KPureK {P : Program} {hint : Nat → Bool} {n : Nat} {ops : Array Oper} {Q : Post} {rest : List Oper} {s : Nat → AV} {m : Nat} {d : Option Tmp} {H0 H H' : AHeap} {r r' : AV} (g : nf r = r') (h : nf H = H') : KPureK P hint n ops Q rest s m d H0 r H = KPureK P hint n ops Q rest s m d H0 r' H' := by rw [← g, ← h]; rfl
attribute [go_sem] KPureK_app awpPureK_zero awpPureK_none awpPureK_mk
attribute [go_sem] KPure_app awpPure_nil awpPure_none awpPure_guard awpPure_mk
end Go.Proofs.YtkapgooedfompaaGreatAw
namespace Go.Proofs.YtkapgooedfompaaGreat
open Go.Proofs.YtkapgooedfompaaGreatAw Go.RowKit
set_option linter.unusedVariables false
abbrev iD (n : Int) : D := .v (.int .i64 n)
abbrev iA (n : Int) : AV := .d (.v (.int .i64 n))
abbrev bA (b : Bool) : AV := .d (.v (.bool b))
abbrev uA (n : Int) : AV := .d (.v (.int .u64 n))
abbrev sA (b : ByteArray) : AV := .d (.v (.string b))
theorem strTs : strT Tryz.prog 9 = true := by kernel_rfl
attribute [go_sem] strTs
end Go.Proofs.YtkapgooedfompaaGreat
namespace Go.Proofs.YtkapgooedfompaaGreatAw
def fproj (f : Field) : Bool × TypeId × Nat := (f.name != "_", f.type, f.offset)
def eqP (d : Nat) (xs ys : Array Value) : List (Bool × TypeId × Nat) → Sem Bool
  | [] => pure true
  | (true, t, off) :: fs => do
      let a ← part t xs off
      let b ← part t ys off
      let r ← Op.equalIn d t a b
      if (!r) = true then pure false else eqP d xs ys fs
  | (false, _, _) :: fs => eqP d xs ys fs
theorem eqP_eq (d : Nat) (xs ys : Array Value) : ∀ fs : List Field, Op.eqFields d xs ys fs = eqP d xs ys (fs.map fproj)
  | [] => rfl
  | f :: fs => by
    simp only [Op.eqFields, List.map_cons, fproj]
    rw [eqP_eq d xs ys fs]
    by_cases h : f.name = "_"
    · simp [h, eqP]
    · have hb : (f.name != "_") = true := by simp [h]
      rw [hb, if_pos h]; rfl
theorem PureBin.eqS {P : Program} {t : TypeId} {xs ys : Array Value} {fs : List (Bool × TypeId × Nat)} {r : Bool} (h1 : P.eqGuardType P.depth t = false) (h2 : P.underlying t = some (.struct (P.fieldsOf t))) (h3 : P.stoodInHeld t = false)
    (h4 : (P.fieldsOf t).toList.map fproj = fs) (h5 : ∀ w, (eqP 9999 xs ys fs).run P w = .ok r w) : PureBin P .eql t (.agg xs) (.agg ys) (.bool r) ∧ PureBin P .neq t (.agg xs) (.agg ys) (.bool !r) := by
  refine ⟨fun x y w => ?_, fun x y w => ?_⟩
  · rw [Sem.run_bind, run_eqGuard_agg _ _ _ _ _ _ _ h1]
    simp only [Result.andThen_ok, run_eql_struct]
    rw [run_equalIn_struct w 9999 t _ _ h2 h3, eqP_eq, h4, h5]
    rfl
  · rw [Sem.run_bind, run_eqGuard_agg _ _ _ _ _ _ _ h1]
    simp only [Result.andThen_ok, run_neq_struct]
    rw [run_equalIn_struct w 9999 t _ _ h2 h3, eqP_eq, h4, h5]
    rfl
theorem PureBin.inj {P : Program} {op : BinOp} {t : TypeId} {u v r r' : Value} (h : PureBin P op t u v r) (h' : PureBin P op t u v r') : r = r' := by
  have h1 := h (.const .nilIface) (.const .nilIface) default
  rw [h' (.const .nilIface) (.const .nilIface) default] at h1
  cases h1; rfl
theorem binK_agg {P : Program} {op : BinOp} {t : TypeId} {xs ys : Array Value} {r : Value} (h : PureBin P op t (.agg xs) (.agg ys) r) (K : Value → Prop) : binK P op t (.agg xs) (.agg ys) K = K r := by
  have : binK P op t (.agg xs) (.agg ys) K = ∃ r, PureBin P op t (.agg xs) (.agg ys) r ∧ K r := by unfold binK; rfl
  rw [this]
  exact propext ⟨fun ⟨r', h', k⟩ => by rw [h.inj h']; exact k, fun k => ⟨r, h, k⟩⟩
section
variable {P : Program} {w : World} {d : Nat} {t : TypeId} {off : Nat} {xs ys : Array Value} {fs : List (Bool × TypeId × Nat)} {r : Bool}
theorem part_one (hg : agB P t = some false) {v : Value} (h : xs[off]? = some v) : (part t xs off).run P w = .ok v w := by
  unfold part
  rw [Sem.run_bind, agB.run hg]
  simp [h]
theorem eqP_step {a b : Value} {q : Bool} (ha : (part t xs off).run P w = .ok a w) (hb : (part t ys off).run P w = .ok b w) (he : (Op.equalIn d t a b).run P w = .ok q w) (hr : (eqP d xs ys fs).run P w = .ok r w) : (eqP d xs ys ((true, t, off) :: fs)).run P w = .ok (q && r) w := by
  simp only [eqP, Sem.run_bind, ha, hb, he, Result.andThen_ok]
  cases q
  · simp
  · simpa using hr
theorem eqP_nil : (eqP d xs ys []).run P w = .ok true w := rfl
theorem eqP_int {k : IntKind} {a b : Int} (hu : UK P t = some k) (hg : agB P t = some false) (ha : xs[off]? = some (.int k a)) (hb : ys[off]? = some (.int k b)) (hr : (eqP (d + 1) xs ys fs).run P w = .ok r w) : (eqP (d + 1) xs ys ((true, t, off) :: fs)).run P w = .ok ((a == b) && r) w :=
  eqP_step (part_one hg ha) (part_one hg hb) (run_equalIn_int w d t k k a b (UK.get hu)) hr
theorem eqP_str {a b : ByteArray} (hu : P.underlying t = some .string) (hg : agB P t = some false) (ha : xs[off]? = some (.string a)) (hb : ys[off]? = some (.string b)) (hr : (eqP (d + 1) xs ys fs).run P w = .ok r w) : (eqP (d + 1) xs ys ((true, t, off) :: fs)).run P w = .ok ((a.toList == b.toList) && r) w :=
  eqP_step (part_one hg ha) (part_one hg hb) (run_equalIn_string w d t a b hu) hr
end
end Go.Proofs.YtkapgooedfompaaGreatAw
namespace Go.Proofs.YtkapgooedfompaaGreat
open Go.Proofs.YtkapgooedfompaaGreatAw Go.RowKit
set_option linter.unusedVariables false
def sameV (k i : Int) (s : ByteArray) (k' i' : Int) (s' : ByteArray) : Bool := (k == k') && ((i == i') && ((s.toList == s'.toList) && true))
theorem eqP_val (w : World) (d : Nat) (k i : Int) (s : ByteArray) (k' i' : Int) (s' : ByteArray) : (eqP (d + 1) #[.int .i64 k, .int .i64 i, .string s] #[.int .i64 k', .int .i64 i', .string s'] [(true, 3, 0), (true, 2, 1), (true, 9, 2)]).run Tryz.prog w = .ok (sameV k i s k' i' s') w :=
  eqP_int K.UK3 K.agB3 rfl rfl (eqP_int K.UK2 K.agB2 rfl rfl (eqP_str K.US9 K.agB9 rfl rfl eqP_nil))
theorem pb_val (k i : Int) (s : ByteArray) (k' i' : Int) (s' : ByteArray) : PureBin Tryz.prog .eql 45 (.agg #[.int .i64 k, .int .i64 i, .string s]) (.agg #[.int .i64 k', .int .i64 i', .string s']) (.bool (sameV k i s k' i' s')) ∧
    PureBin Tryz.prog .neq 45 (.agg #[.int .i64 k, .int .i64 i, .string s]) (.agg #[.int .i64 k', .int .i64 i', .string s']) (.bool !(sameV k i s k' i' s')) :=
  PureBin.eqS (by kernel_rfl) (by kernel_rfl) (by kernel_rfl) (by kernel_rfl) fun w => eqP_val w 9998 k i s k' i' s'
theorem bk_eql_val (k i : Int) (s : ByteArray) (k' i' : Int) (s' : ByteArray) (K : Value → Prop) : binK Tryz.prog .eql 45 (.agg #[.int .i64 k, .int .i64 i, .string s]) (.agg #[.int .i64 k', .int .i64 i', .string s']) K = K (.bool (sameV k i s k' i' s')) := binK_agg (pb_val ..).1 K
theorem bk_neq_val (k i : Int) (s : ByteArray) (k' i' : Int) (s' : ByteArray) (K : Value → Prop) : binK Tryz.prog .neq 45 (.agg #[.int .i64 k, .int .i64 i, .string s]) (.agg #[.int .i64 k', .int .i64 i', .string s']) K = K (.bool !(sameV k i s k' i' s')) := binK_agg (pb_val ..).2 K
attribute [go_sem] bk_eql_val bk_neq_val
end Go.Proofs.YtkapgooedfompaaGreat
namespace Go.Proofs.YtkapgooedfompaaGreat
open Go.Proofs.YtkapgooedfompaaGreatAw Go.RowKit
set_option linter.unusedVariables false
structure Val where
  kind : Int
  i : Int
  s : ByteArray
deriving DecidableEq
structure Atom where
  col : Int
  op : Int
  val : Val
deriving DecidableEq
def Val.enc (v : Val) : List D := [.v (.int .i64 v.kind), .v (.int .i64 v.i), .v (.string v.s)]
def Atom.enc (a : Atom) : List D := [.v (.int .i64 a.col), .v (.int .i64 a.op), .v (.int .i64 a.val.kind), .v (.int .i64 a.val.i), .v (.string a.val.s)]
theorem toList_inj {a b : ByteArray} (h : a.toList = b.toList) : a = b := by
  rw [ByteArray.toList_eq, ByteArray.toList_eq] at h
  obtain ⟨⟨x⟩⟩ := a
  obtain ⟨⟨y⟩⟩ := b
  simp_all
theorem sameV_eq (v w : Val) : sameV v.kind v.i v.s w.kind w.i w.s = decide (v = w) := by
  cases v with | mk k i s =>
  cases w with | mk k' i' s' =>
  rw [Bool.eq_iff_iff]
  simp only [sameV, Bool.and_true, Bool.and_eq_true, beq_iff_eq, decide_eq_true_eq, Val.mk.injEq]
  exact ⟨fun ⟨a, b, c⟩ => ⟨a, b, toList_inj c⟩, fun ⟨a, b, c⟩ => ⟨a, b, by rw [c]⟩⟩
end Go.Proofs.YtkapgooedfompaaGreat

/- The words by which the evaluator is unfolded. -/
import Derived.Test.YtfmmemboakdeiaaFacts
namespace Go.Proofs.YtfmmemboakdeiaaAw
theorem aput_at (n : Nat) (s : Nat → AV) (d : Tmp) (v : AV) (t : Nat) : aput n s (some d) v t = if t = d then (if d < n then v else .top) else s t := rfl
theorem aput_no (n : Nat) (s : Nat → AV) (v : AV) : aput n s none v = s := rfl
theorem aeval_tmp (s : Nat → AV) (t : Tmp) : aeval s (.tmp t) = s t := rfl
theorem aeval_const (s : Nat → AV) (v : Value) : aeval s (.const v) = aconst v := rfl
theorem aeval_func (s : Nat → AV) (f : FuncId) : aeval s (.func f) = .fn f [] := rfl
theorem aconst_int (k : IntKind) (n : Int) : aconst (.int k n) = .d (.v (.int k n)) := rfl
theorem aconst_bool (b : Bool) : aconst (.bool b) = .d (.v (.bool b)) := rfl
theorem aconst_string (b : ByteArray) : aconst (.string b) = .d (.v (.string b)) := rfl
theorem aconst_slice (a : Option Addr) (n c : Nat) : aconst (.slice a n c) = .d (.v (.slice a n c)) := rfl
theorem aconst_pointer (a : Option Addr) : aconst (.pointer a) = .d (.v (.pointer a)) := rfl
theorem aconst_agg (cs : Array Value) : aconst (.agg cs) = if cs.all Value.oneCell' then .agg (cs.toList.map fun c => .d (.v c)) else .top := rfl
theorem aconst_iface (t : TypeId) (v : Value) : aconst (.iface t v) = .d (.v (.iface t v)) := rfl
theorem aconst_nilIface : aconst .nilIface = .d (.v .nilIface) := rfl
theorem aconst_nilFunc : aconst .nilFunc = .d (.v .nilFunc) := rfl
theorem ainit_at (args : List AV) (t : Nat) : ainit args t = args.getD t .top := rfl
theorem closed_v (x : Value) : closed (.d (.v x)) = some x := rfl
theorem closed_list (nn : Bool) (es : List (List D)) : closed (.d (.list nn es)) = none := rfl
theorem closed_ptr (id ver i j : Nat) : closed (.ptr id ver i j) = none := rfl
theorem closed_sl (id ver i j : Nat) : closed (.sl id ver i j) = none := rfl
theorem closed_iptr (cs : List D) : closed (.iptr cs) = none := rfl
theorem closed_fn (f : FuncId) (cs : List AV) : closed (.fn f cs) = none := rfl
theorem closed_mp (id : Nat) : closed (.mp id) = none := rfl
theorem closed_cap0 : closed .cap0 = none := rfl
theorem closed_agg (cs : List AV) : closed (.agg cs) = (closedAll cs).map fun l => .agg l.toArray := rfl
theorem cellsOf_d (x : D) : cellsOf (.d x) = some [.d x] := rfl
theorem cellsOf_sl (id ver off len : Nat) : cellsOf (.sl id ver off len) = some [.sl id ver off len] := rfl
theorem cellsOf_ptr (id ver i j : Nat) : cellsOf (.ptr id ver i j) = some [.ptr id ver i j] := rfl
theorem cellsOf_agg (cs : List AV) : cellsOf (.agg cs) = if cs.all AV.one then some cs else none := rfl
theorem cellsOf_fn (f : FuncId) (cs : List AV) : cellsOf (.fn f cs) = some [.fn f cs] := rfl
theorem cellsOf_cap0 : cellsOf .cap0 = some [.cap0] := rfl
theorem cellsOf_mp (id : Nat) : cellsOf (.mp id) = some [.mp id] := rfl
theorem app_get (H T : AHeap) (k : Nat) : (H ++ T)[H.length + k]? = T[k]? := by rw [List.getElem?_append_right (by omega)]; congr 1; omega
theorem app_get0 (H T : AHeap) : (H ++ T)[H.length]? = T[0]? := app_get H T 0
theorem app_set (H T : AHeap) (k : Nat) (o : AObj) : (H ++ T).set (H.length + k) o = H ++ T.set k o := by
  rw [List.set_append_right _ _ (by omega)]; congr 2; omega
theorem app_set0 (H T : AHeap) (o : AObj) : (H ++ T).set H.length o = H ++ T.set 0 o := app_set H T 0 o
theorem app_len1 (H : AHeap) (a : AObj) : (H ++ [a]).length = H.length + 1 := by simp
theorem app_len2 (H : AHeap) (a b : AObj) : (H ++ [a, b]).length = H.length + 2 := by simp
theorem app_len3 (H : AHeap) (a b c : AObj) : (H ++ [a, b, c]).length = H.length + 3 := by simp
theorem app_len4 (H : AHeap) (a b c d : AObj) : (H ++ [a, b, c, d]).length = H.length + 4 := by simp
theorem app_len5 (H : AHeap) (a b c d e : AObj) : (H ++ [a, b, c, d, e]).length = H.length + 5 := by simp
theorem app_len6 (H : AHeap) (a b c d e f : AObj) : (H ++ [a, b, c, d, e, f]).length = H.length + 6 := by simp
theorem app_len7 (H : AHeap) (a b c d e f g : AObj) : (H ++ [a, b, c, d, e, f, g]).length = H.length + 7 := by simp
theorem app_len8 (H : AHeap) (a b c d e f g h : AObj) : (H ++ [a, b, c, d, e, f, g, h]).length = H.length + 8 := by simp
theorem alen_list (H : AHeap) (nn : Bool) (es : List (List D)) : alen H (.d (.list nn es)) = some es.length := rfl
theorem alen_slice (H : AHeap) (a : Option Addr) (n c : Nat) : alen H (.d (.v (.slice a n c))) = some n := rfl
theorem alen_cap0 (H : AHeap) : alen H .cap0 = some 0 := rfl
theorem alen_sl (H : AHeap) (id ver off len : Nat) : alen H (.sl id ver off len) = match H[id]? with | some ob => if ob.ver = ver then some len else none | none => none := rfl
theorem asrc_list (H : AHeap) (nn : Bool) (es : List (List D)) : asrc H (.d (.list nn es)) = some es := rfl
theorem aelem_list (H : AHeap) (k : Nat) (i : Int) (nn : Bool) (es : List (List D)) : aelem H k i (.d (.list nn es)) = if 0 ≤ i then (es[i.toNat]?).bind fun e => if e.length = k then some (.iptr e) else none else none := rfl
theorem aread_iptr (H : AHeap) (n : Nat) (cs : List D) : aread H n (.iptr cs) = if n ≤ cs.length then some ((cs.take n).map .d) else none := rfl
theorem aread_ptr (H : AHeap) (n id ver i j : Nat) : aread H n (.ptr id ver i j) = oread H id ver i j n := rfl
theorem awrite_ptr (H : AHeap) (cs : List AV) (id ver i j : Nat) : awrite H cs (.ptr id ver i j) = owrite H id ver i j cs := rfl
theorem amove_ptr (off id ver i j : Nat) : amove off (.ptr id ver i j) = some (.ptr id ver i (j + off)) := rfl
theorem amove_iptr (off : Nat) (cs : List D) : amove off (.iptr cs) = if off ≤ cs.length then some (.iptr (cs.drop off)) else none := rfl
theorem fresh_ptr (H : AHeap) (id ver i j : Nat) : fresh H (.ptr id ver i j) = match H[id]? with | some o => o.ver == ver | none => false := rfl
theorem fresh_iptr (H : AHeap) (cs : List D) : fresh H (.iptr cs) = true := rfl
theorem toDs_nil : toDs [] = some [] := rfl
theorem toDs_cons (x : AV) (xs : List AV) : toDs (x :: xs) = match x.toD?, toDs xs with | some y, some ys => some (y :: ys) | _, _ => none := rfl
theorem toD_d (x : D) : (AV.d x).toD? = some x := rfl
theorem afill_nil (place : Nat → Option (Nat × Nat)) (cells : List AV) : afill place cells [] = some cells := rfl
theorem afill_cons (place : Nat → Option (Nat × Nat)) (cells : List AV) (i : Nat) (x : AV) (rest : List (Nat × AV)) : afill place cells ((i, x) :: rest) = match place i, cellsOf x with
    | some (off, size), some cs => if cs.length = size ∧ off + size ≤ cells.length then afill place (splice cells off cs) rest else none
    | _, _ => none := rfl
theorem get_snoc_self (H : AHeap) (o : AObj) : (H ++ [o])[H.length]? = some o := by simp
theorem set_snoc_self (H : AHeap) (o o' : AObj) : (H ++ [o]).set H.length o' = H ++ [o'] := by simp
/-! ### Words that let the walk look at what is asked alone -/
/-- A mark: what bears it is looked into. (simp looks into a term's parts by itself where a congruence of ours turned nothing: so each of ours turns this mark.) -/
def nf {α : Sort _} (x : α) : α := x
theorem nf_id {α : Sort _} (x : α) : nf x = x := rfl
def ob {α : Type} (x : Option α) (K : α → Prop) : Prop := match x with | some a => K a | none => False
theorem ob_some {α : Type} (a : α) (K : α → Prop) : ob (some a) K = K a := rfl
theorem ob_none {α : Type} (K : α → Prop) : ob none K = False := rfl
theorem ob_congr {α : Type} {x y : Option α} {K : α → Prop} (h : nf x = y) : ob x K = ob y K := by rw [← h]; rfl
def oalt {α : Type} (x : Option α) (K : α → Prop) (L : Prop) : Prop := match x with | some a => K a | none => L
theorem oalt_some {α : Type} (a : α) (K : α → Prop) (L : Prop) : oalt (some a) K L = K a := rfl
theorem oalt_none {α : Type} (K : α → Prop) (L : Prop) : oalt none K L = L := rfl
theorem oalt_congr {α : Type} {x y : Option α} {K : α → Prop} {L : Prop} (h : nf x = y) : oalt x K L = oalt y K L := by rw [← h]; rfl
def aite (b : Bool) (A B : Prop) : Prop := if b = true then A else B
theorem aite_true (A B : Prop) : aite true A B = A := by simp [aite]
theorem aite_false (A B : Prop) : aite false A B = B := by simp [aite]
theorem aite_congr {b c : Bool} {A B : Prop} (h : nf b = c) : aite b A B = aite c A B := by rw [← h]; rfl
def asB : AV → Option Bool
  | .d (.v (.bool b)) => some b
  | _ => none
theorem asB_bool (b : Bool) : asB (.d (.v (.bool b))) = some b := rfl
def asI : AV → Option Int
  | .d (.v (.int _ i)) => some i
  | _ => none
theorem asI_int (k : IntKind) (i : Int) : asI (.d (.v (.int k i))) = some i := rfl
def asF : AV → Option (FuncId × List AV)
  | .fn f cs => some (f, cs)
  | _ => none
theorem asF_fn (f : FuncId) (cs : List AV) : asF (.fn f cs) = some (f, cs) := rfl
def asT : AV → Option (List AV)
  | .tup cs => some cs
  | _ => none
theorem asT_tup (cs : List AV) : asT (.tup cs) = some cs := rfl
def asAg : AV → Option (List AV)
  | .agg cs => some cs
  | _ => none
theorem asAg_agg (cs : List AV) : asAg (.agg cs) = some cs := rfl
def asL : AV → Option (List (List D))
  | .d (.list _ es) => some es
  | _ => none
theorem asL_list (nn : Bool) (es : List (List D)) : asL (.d (.list nn es)) = some es := rfl
def asSt : Option Value → Option ByteArray
  | some (.string b) => some b
  | _ => none
theorem asSt_string (b : ByteArray) : asSt (some (.string b)) = some b := rfl
def asIn : Option Value → Option Int
  | some (.int _ i) => some i
  | _ => none
theorem asIn_int (k : IntKind) (i : Int) : asIn (some (.int k i)) = some i := rfl
def as1 {α : Type} : Option (List α) → Option α
  | some [c] => some c
  | _ => none
theorem as1_one {α : Type} (c : α) : as1 (some [c]) = some c := rfl
theorem bne_tt : (true != true) = false := rfl
theorem bne_tf : (true != false) = true := rfl
theorem bne_ft : (false != true) = true := rfl
theorem bne_ff : (false != false) = false := rfl
theorem beq_tt : (true == true) = true := rfl
theorem beq_tf : (true == false) = false := rfl
theorem beq_ft : (false == true) = false := rfl
theorem beq_ff : (false == false) = true := rfl
attribute [go_sem] bne_tt bne_tf bne_ft bne_ff nf_id beq_tt beq_tf beq_ft beq_ff ob_some ob_none oalt_some oalt_none aite_true aite_false asB_bool asI_int asF_fn asT_tup asAg_agg asL_list asSt_string asIn_int as1_one

def TIok (P : Program) (t : TypeId) : Bool := match TI P t with | some (z, k, _) => decide (0 < k) && z.cells.size == k && z.cells.all Value.oneCell' | none => false
theorem TIok_eq {P : Program} {t : TypeId} {z : Value} {k b : Nat} (h : TI P t = some (z, k, b)) : (TIok P t = true) = (0 < k ∧ z.cells.size = k ∧ z.cells.all Value.oneCell' = true) := by
  simp [TIok, h, and_assoc]

/-! ### Continuations that the walk does not look into -/
section
variable (P : Program) (hint : Nat → Bool) (n : Nat) (H0 : AHeap)
def KOp (ops : Array Oper) (Q : Post) (rest : List Oper) (s : Nat → AV) (d : Option Tmp) : AV → AHeap → Prop := fun r H' => awpList P hint n ops Q rest (aput n s d r) H'
def KPan (Q : Post) (s : Nat → AV) : Value → AHeap → Prop := fun v H' => Q (.panic v) s H'
def KSeq (y : Code) (Q : Post) : Post := fun e s' H' => match e with | .normal => (if hintAt hint y = true then ∃ s'' H'', Weak H0 s' H' s'' H'' ∧ awp P hint n H0 y Q s'' H'' else awp P hint n H0 y Q s' H') | e => Q e s' H'
def KBlock (id : Nat) (Q : Post) : Post := fun e s' H' => match e with | .exit i => if i = id then Q .normal s' H' else Q (.exit i) s' H' | e => Q e s' H'
def KLoop (R : (Nat → AV) → AHeap → Prop) (Q : Post) : Post := fun e s' H' => match e with | .normal => R s' H' | e => Q e s' H'
def KVal (K : AV → AHeap → Prop) (H : AHeap) : Value → Prop := fun r => K (aconst r) H
theorem KOp_app (ops : Array Oper) (Q : Post) (rest : List Oper) (s : Nat → AV) (d : Option Tmp) (r : AV) (H : AHeap) : KOp P hint n ops Q rest s d r H = awpList P hint n ops Q rest (aput n s d r) H := rfl
theorem KPan_app (Q : Post) (s : Nat → AV) (v : Value) (H : AHeap) : KPan Q s v H = Q (.panic v) s H := rfl
theorem KSeq_normal (y : Code) (Q : Post) (s : Nat → AV) (H : AHeap) : KSeq P hint n H0 y Q .normal s H = aite (hintAt hint y) (∃ s'' H'', Weak H0 s H s'' H'' ∧ awp P hint n H0 y Q s'' H'') (awp P hint n H0 y Q s H) := rfl
theorem hintAt_no (y : Code) : hintAt (fun _ => false) y = false := by unfold hintAt; split <;> rfl
theorem hintAt_seq (x y : Code) : hintAt hint (.seq x y) = hintAt hint x := rfl
theorem hintAt_region (id : Nat) (ops : Array Oper) (b : Bool) : hintAt hint (.region id ops b) = hint (id + 1000000) := rfl
theorem hintAt_cond (c : Operand) (x y : Code) : hintAt hint (.cond c x y) = false := rfl
theorem hintAt_block (id : Nat) (x : Code) : hintAt hint (.block id x) = false := rfl
theorem hintAt_loop (x : Code) : hintAt hint (.loop x) = false := rfl
theorem hintAt_label (l : Nat) : hintAt hint (.label l) = false := rfl
theorem hintAt_scope (x : Code) : hintAt hint (.scope x) = false := rfl
theorem hintAt_skip : hintAt hint .skip = false := rfl
theorem hintAt_ret : hintAt hint .ret = false := rfl
theorem hintAt_exit (id : Nat) : hintAt hint (.exit id) = false := rfl
attribute [go_sem] hintAt_no hintAt_seq hintAt_region hintAt_cond hintAt_block hintAt_loop hintAt_label hintAt_scope hintAt_skip hintAt_ret hintAt_exit
theorem KSeq_exit (y : Code) (Q : Post) (i : Nat) (s : Nat → AV) (H : AHeap) : KSeq P hint n H0 y Q (.exit i) s H = Q (.exit i) s H := rfl
theorem KSeq_ret (y : Code) (Q : Post) (s : Nat → AV) (H : AHeap) : KSeq P hint n H0 y Q .ret s H = Q .ret s H := rfl
theorem KSeq_panic (y : Code) (Q : Post) (v : Value) (s : Nat → AV) (H : AHeap) : KSeq P hint n H0 y Q (.panic v) s H = Q (.panic v) s H := rfl
theorem KBlock_normal (id : Nat) (Q : Post) (s : Nat → AV) (H : AHeap) : KBlock id Q .normal s H = Q .normal s H := rfl
theorem KBlock_exit (id : Nat) (Q : Post) (i : Nat) (s : Nat → AV) (H : AHeap) : KBlock id Q (.exit i) s H = if i = id then Q .normal s H else Q (.exit i) s H := rfl
theorem KBlock_ret (id : Nat) (Q : Post) (s : Nat → AV) (H : AHeap) : KBlock id Q .ret s H = Q .ret s H := rfl
theorem KBlock_panic (id : Nat) (Q : Post) (v : Value) (s : Nat → AV) (H : AHeap) : KBlock id Q (.panic v) s H = Q (.panic v) s H := rfl
theorem KLoop_normal (R : (Nat → AV) → AHeap → Prop) (Q : Post) (s : Nat → AV) (H : AHeap) : KLoop R Q .normal s H = R s H := rfl
theorem KLoop_exit (R : (Nat → AV) → AHeap → Prop) (Q : Post) (i : Nat) (s : Nat → AV) (H : AHeap) : KLoop R Q (.exit i) s H = Q (.exit i) s H := rfl
theorem KLoop_ret (R : (Nat → AV) → AHeap → Prop) (Q : Post) (s : Nat → AV) (H : AHeap) : KLoop R Q .ret s H = Q .ret s H := rfl
theorem KLoop_panic (R : (Nat → AV) → AHeap → Prop) (Q : Post) (v : Value) (s : Nat → AV) (H : AHeap) : KLoop R Q (.panic v) s H = Q (.panic v) s H := rfl
theorem KVal_app (K : AV → AHeap → Prop) (H : AHeap) (r : Value) : KVal K H r = K (aconst r) H := rfl

theorem awp_skip (Q : Post) (s : Nat → AV) (H : AHeap) : awp P hint n H0 .skip Q s H = Q .normal s H := rfl
theorem awp_label (l : Nat) (Q : Post) (s : Nat → AV) (H : AHeap) : awp P hint n H0 (.label l) Q s H = Q .normal s H := rfl
theorem awp_scope (x : Code) (Q : Post) (s : Nat → AV) (H : AHeap) : awp P hint n H0 (.scope x) Q s H = awp P hint n H0 x Q s H := rfl
theorem awp_region (id : Nat) (ops : Array Oper) (Q : Post) (s : Nat → AV) (H : AHeap) : awp P hint n H0 (.region id ops false) Q s H = awpList P hint n ops Q ops.toList s H := rfl
theorem awp_seq (x y : Code) (Q : Post) (s : Nat → AV) (H : AHeap) : awp P hint n H0 (.seq x y) Q s H = awp P hint n H0 x (KSeq P hint n H0 y Q) s H := rfl
theorem awp_cond (c : Operand) (x y : Code) (Q : Post) (s : Nat → AV) (H : AHeap) : awp P hint n H0 (.cond c x y) Q s H = (match aeval s c with | .d (.v (.bool b)) => if b = true then awp P hint n H0 x Q s H else awp P hint n H0 y Q s H | _ => False) := rfl
theorem awp_block (id : Nat) (x : Code) (Q : Post) (s : Nat → AV) (H : AHeap) : awp P hint n H0 (.block id x) Q s H = awp P hint n H0 x (KBlock id Q) s H := rfl
theorem awp_exit (id : Nat) (Q : Post) (s : Nat → AV) (H : AHeap) : awp P hint n H0 (.exit id) Q s H = Q (.exit id) s H := rfl
theorem awp_ret (Q : Post) (s : Nat → AV) (H : AHeap) : awp P hint n H0 .ret Q s H = Q .ret s H := rfl
theorem awp_loop {α : Type} (I : α → (Nat → AV) → AHeap → Prop) (μ : α → Nat) (x0 : α) {body : Code} {Q : Post} {s s' : Nat → AV} {H H' : AHeap} (hW : Weak H0 s H s' H') (h0 : I x0 s' H')
    (step : ∀ x s H, I x s H → awp P hint n H0 body (KLoop (fun s' H' => ∃ s'' H'' y, Weak H0 s' H' s'' H'' ∧ I y s'' H'' ∧ μ y < μ x) Q) s H) : awp P hint n H0 (.loop body) Q s H := by
  refine ⟨fun m s H => ∃ x, μ x = m ∧ I x s H ∧ awp P hint n H0 body (KLoop (fun s' H' => ∃ s'' H'' y, Weak H0 s' H' s'' H'' ∧ I y s'' H'' ∧ μ y < μ x) Q) s H, μ x0, ⟨s', H', hW, x0, rfl, h0, step x0 s' H' h0⟩, ?_⟩
  rintro m s H ⟨x, rfl, hI, h⟩
  have e : (KLoop (fun s' H' => ∃ s'' H'' y, Weak H0 s' H' s'' H'' ∧ I y s'' H'' ∧ μ y < μ x) Q : Post) = fun e s' H' => match e with
      | .normal => ∃ s'' H'' m', Weak H0 s' H' s'' H'' ∧ (∃ x, μ x = m' ∧ I x s'' H'' ∧ awp P hint n H0 body (KLoop (fun s' H' => ∃ s'' H'' y, Weak H0 s' H' s'' H'' ∧ I y s'' H'' ∧ μ y < μ x) Q) s'' H'') ∧ m' < μ x
      | e => Q e s' H' := by
    funext e s' H'
    cases e with
    | normal =>
      refine propext ⟨?_, ?_⟩
      · rintro ⟨s'', H'', y, hW, hI, hlt⟩
        exact ⟨s'', H'', μ y, hW, ⟨y, rfl, hI, step y s'' H'' hI⟩, hlt⟩
      · rintro ⟨s'', H'', m', hW, ⟨y, rfl, hI, _⟩, hlt⟩
        exact ⟨s'', H'', y, hW, hI, hlt⟩
    | _ => rfl
  rw [e] at h
  exact h

theorem awpList_nil (ops : Array Oper) (Q : Post) (s : Nat → AV) (H : AHeap) : awpList P hint n ops Q [] s H = Q .normal s H := rfl
theorem awpList_none (ops : Array Oper) (Q : Post) (d : Option Tmp) (op : Op) (ty : TypeId) (p : String) (af : Array Edge) (rest : List Oper) (s : Nat → AV) (H : AHeap) :
    awpList P hint n ops Q (⟨d, op, ty, p, af, none⟩ :: rest) s H = astep P hint s H ⟨d, op, ty, p, af, none⟩ (KOp P hint n ops Q rest s d) (KPan Q s) := rfl
theorem awpList_guard (ops : Array Oper) (Q : Post) (d : Option Tmp) (op : Op) (ty : TypeId) (p : String) (af : Array Edge) (j : Nat) (b : Bool) (rest : List Oper) (s : Nat → AV) (H : AHeap) :
    awpList P hint n ops Q (⟨d, op, ty, p, af, some (j, b)⟩ :: rest) s H = ob (ayield ops s n j b) fun b' => aite b' (astep P hint s H ⟨d, op, ty, p, af, some (j, b)⟩ (KOp P hint n ops Q rest s d) (KPan Q s)) (awpList P hint n ops Q rest (aput n s d (.tup [])) H) := by
  simp only [awpList, awpOp]
  cases ayield ops s n j b with
  | none => rfl
  | some b' => cases b' <;> rfl
theorem asW_bool (w b : Bool) : asW w (.d (.v (.bool b))) = some (b == w) := rfl
theorem asW_tup (w : Bool) : asW w (.tup []) = some false := rfl
theorem ayield_eq (ops : Array Oper) (s : Nat → AV) (j : Nat) (w : Bool) : ayield ops s n j w = ((ops[j]?).bind (·.dst)).bind fun d => if d < n then asW w (s d) else none := by
  unfold ayield
  cases (ops[j]?).bind (·.dst) with
  | none => rfl
  | some d => rfl
end
section
variable (P : Program) (hint : Nat → Bool) (s : Nat → AV) (H : AHeap) (d : Option Tmp) (ty : TypeId) (p : String) (af : Array Edge) (g : Option (Nat × Bool)) (K : AV → AHeap → Prop) (KP : Value → AHeap → Prop)
def hintOf (hint : Nat → Bool) (d : Option Tmp) : Bool := match d with | some d => hint d | none => false
theorem st_move (x : Operand) : astep P hint s H ⟨d, .move x, ty, p, af, g⟩ K KP = K (aeval s x) H := rfl
theorem st_assign (x : Operand) : astep P hint s H ⟨d, .assign x, ty, p, af, g⟩ K KP = K (aeval s x) H := rfl
theorem st_pick (c x y : Operand) : astep P hint s H ⟨d, .pick c x y, ty, p, af, g⟩ K KP = ob (asB (aeval s c)) fun t => K (if t = true then aeval s x else aeval s y) H := by
  simp only [astep, aop]
  cases aeval s c <;> first | rfl | (rename_i u; cases u <;> first | rfl | (rename_i v; cases v <;> rfl))
theorem st_alloc (e : TypeId) : astep P hint s H ⟨d, .alloc e, ty, p, af, g⟩ K KP = ob (TI P e) fun z => TIok P e = true ∧ K (.ptr H.length 0 0 0) (H ++ [.box e z.2.1 0 1 (dcells z.1.cells)]) := by
  simp only [astep, aop]
  rcases h : TI P e with _ | ⟨z, k, b⟩
  · rfl
  · simp only [ob_some, TIok_eq h]
theorem st_box (e : TypeId) (x : Operand) : astep P hint s H ⟨d, .box e x, ty, p, af, g⟩ K KP = ob (cellsOf (aeval s x)) fun cs => 0 < cs.length ∧ K (.ptr H.length 0 0 0) (H ++ [.box e cs.length 0 1 cs]) := by
  simp only [astep, aop]
  cases cellsOf (aeval s x) <;> rfl
theorem st_build (t : TypeId) (ps : Array (Nat × Operand)) : astep P hint s H ⟨d, .build t ps, ty, p, af, g⟩ K KP = ob (TI P t) fun z => z.1.cells.all Value.oneCell' = true ∧ oalt (SP P t) (fun places => ob (afill (places.toArray[·]?) (dcells z.1.cells) (aparts s ps)) fun out => K (.agg out) H)
    (ob (AE P t) fun ne => ob (TI P ne.2) fun ze => ob (afill (fun i => some (i * ze.2.1, ze.2.1)) (dcells z.1.cells) (aparts s ps)) fun out => K (.agg out) H) := by
  simp only [astep, aop]
  rcases TI P t with _ | ⟨z, k, b⟩
  · rfl
  · simp only [ob_some]
    congr 1
    cases SP P t with
    | some pl => simp only [oalt_some]; cases afill (pl.toArray[·]?) (dcells z.cells) (aparts s ps) <;> rfl
    | none =>
      simp only [oalt_none]
      rcases AE P t with _ | ⟨m, e⟩
      · rfl
      · simp only [ob_some]
        rcases TI P e with _ | ⟨ze, ke, be⟩
        · rfl
        · simp only [ob_some]; cases afill (fun i => some (i * ke, ke)) (dcells z.cells) (aparts s ps) <;> rfl
theorem st_buildSlice (t : TypeId) (m : Nat) (ps : Array (Nat × Operand)) : astep P hint s H ⟨d, .buildSlice t (m + 1) ps, ty, p, af, g⟩ K KP = ob (SE P t) fun e => ob (TI P e) fun z =>
    (TIok P e = true ∧ (m + 1) * z.2.1 ≤ 16777216) ∧ ob (afill (fun i => some (i * z.2.1, z.2.1)) (zcells z.1 ((m + 1) * z.2.1)) (aparts s ps)) fun out => ob (toDs out) fun ds =>
      aite (hintOf hint d) (K (.sl H.length 0 0 (m + 1)) (H ++ [.arr e z.2.1 0 (chunk (m + 1) z.2.1 ds)])) (K (.d (.list true (chunk (m + 1) z.2.1 ds))) H) := by
  simp only [astep, aop]
  cases SE P t with
  | none => rfl
  | some e =>
    simp only [ob_some]
    rcases h : TI P e with _ | ⟨z, k, b⟩
    · rfl
    · simp only [ob_some, Nat.add_one_ne_zero, if_false]
      have hc : (z.cells.size = k ∧ z.cells.all Value.oneCell' = true ∧ (m + 1) * k ≤ 16777216 ∧ 0 < (m + 1) * k) = (TIok P e = true ∧ (m + 1) * k ≤ 16777216) := by
        rw [TIok_eq h]
        refine propext ⟨fun ⟨h1, h2, h3, h4⟩ => ⟨⟨Nat.pos_of_mul_pos_left h4, h1, h2⟩, h3⟩, fun ⟨⟨h0, h1, h2⟩, h3⟩ => ⟨h1, h2, h3, Nat.mul_pos (Nat.succ_pos m) h0⟩⟩
      rw [hc]
      congr 1
      cases afill (fun i => some (i * k, k)) (zcells z ((m + 1) * k)) (aparts s ps) with
      | none => rfl
      | some out =>
        simp only [ob_some]
        cases toDs out with
        | none => rfl
        | some ds => rfl
theorem st_buildSlice0 (t : TypeId) (ps : Array (Nat × Operand)) : astep P hint s H ⟨d, .buildSlice t 0 ps, ty, p, af, g⟩ K KP = ob (SE P t) fun e => ob (TI P e) fun z => ps = #[] ∧ K .cap0 H := by
  simp only [astep, aop]
  cases SE P t with
  | none => rfl
  | some e =>
    simp only [ob_some]
    rcases TI P e with _ | ⟨z, k, b⟩ <;> simp [ob]
theorem st_load (t : TypeId) (x : Operand) : astep P hint s H ⟨d, .load t x, ty, p, af, g⟩ K KP = ob (agB P t) fun b => aite b (ob (TI P t) fun z => ob (aread H z.2.1 (aeval s x)) fun cs => K (.agg cs) H) (ob (as1 (aread H 1 (aeval s x))) fun c => K c H) := by
  simp only [astep, aop]
  cases agB P t with
  | none => rfl
  | some b =>
    cases b with
    | true =>
      simp only [ob_some, aite_true]
      rcases TI P t with _ | ⟨z, k, b⟩
      · rfl
      · simp only [ob_some]; cases aread H k (aeval s x) <;> rfl
    | false =>
      simp only [ob_some, aite_false]
      cases aread H 1 (aeval s x) with
      | none => rfl
      | some cs => rcases cs with _ | ⟨c, _ | ⟨c', l⟩⟩ <;> rfl
theorem st_store (t : TypeId) (x y : Operand) : astep P hint s H ⟨d, .store t x y, ty, p, af, g⟩ K KP = ob (TI P t) fun z => ob (cellsOf (aeval s y)) fun cs => cs.length = z.2.1 ∧ ob (awrite H cs (aeval s x)) fun H' => K .top H' := by
  simp only [astep, aop]
  rcases TI P t with _ | ⟨z, k, b⟩
  · rfl
  · simp only [ob_some]
    cases cellsOf (aeval s y) with
    | none => rfl
    | some cs => simp only [ob_some]; congr 1; cases awrite H cs (aeval s x) <;> rfl
theorem st_fieldAddr (t : TypeId) (x : Operand) (f : Nat) : astep P hint s H ⟨d, .fieldAddr t x f, ty, p, af, g⟩ K KP = ob (FO P t f) fun o => ob (TI P o.2) fun z => 0 < z.2.1 ∧ fresh H (aeval s x) = true ∧ ob (amove o.1 (aeval s x)) fun y => K y H := by
  simp only [astep, aop]
  rcases FO P t f with _ | ⟨off, ft⟩
  · rfl
  · simp only [ob_some]
    rcases TI P ft with _ | ⟨z, k, b⟩
    · rfl
    · simp only [ob_some]; congr 2; cases amove off (aeval s x) <;> rfl
theorem st_field (t : TypeId) (x : Operand) (f : Nat) : astep P hint s H ⟨d, .field t x f, ty, p, af, g⟩ K KP = ob (FO P t f) fun o => ob (TI P o.2) fun z => ob (asAg (aeval s x)) fun cs => ob (agB P o.2) fun b =>
    aite b (o.1 + z.2.1 ≤ cs.length ∧ K (.agg ((cs.drop o.1).take z.2.1)) H) (ob cs[o.1]? fun y => K y H) := by
  simp only [astep, aop]
  rcases FO P t f with _ | ⟨off, ft⟩
  · rfl
  · simp only [ob_some]
    rcases TI P ft with _ | ⟨z, k, b⟩
    · rfl
    · simp only [ob_some]
      cases aeval s x <;> first | rfl | skip
      rename_i cs
      simp only [asAg_agg, ob_some]
      rcases agB P ft with _ | _ | _
      · rfl
      · simp only [ob_some, aite_false]; cases cs[off]? <;> rfl
      · rfl
theorem st_indexAddr (t : TypeId) (x i : Operand) : astep P hint s H ⟨d, .indexAddr t x i, ty, p, af, g⟩ K KP = ob (asI (aeval s i)) fun i => oalt (SE P t) (fun e => ob (TI P e) fun z => ob (aelem H z.2.1 i (aeval s x)) fun y => K y H)
    (ob (AE P t) fun ne => ob (TI P ne.2) fun z => 0 ≤ i ∧ i < ne.1 ∧ fresh H (aeval s x) = true ∧ ob (amove (i.toNat * z.2.1) (aeval s x)) fun y => K y H) := by
  have main : ∀ n : Int, (match SE P t with
      | some e => (match TI P e with | some (_, k, _) => (match aelem H k n (aeval s x) with | some y => K y H | none => False) | none => False)
      | none => (match AE P t with
        | some (m, e) => (match TI P e with | some (_, k, _) => 0 ≤ n ∧ n < m ∧ fresh H (aeval s x) = true ∧ (match amove (n.toNat * k) (aeval s x) with | some y => K y H | none => False) | none => False)
        | none => False)) = oalt (SE P t) (fun e => ob (TI P e) fun z => ob (aelem H z.2.1 n (aeval s x)) fun y => K y H)
    (ob (AE P t) fun ne => ob (TI P ne.2) fun z => 0 ≤ n ∧ n < ne.1 ∧ fresh H (aeval s x) = true ∧ ob (amove (n.toNat * z.2.1) (aeval s x)) fun y => K y H) := by
    intro n
    cases SE P t with
    | some e =>
      simp only [oalt_some]
      rcases TI P e with _ | ⟨z, k, b⟩
      · rfl
      · simp only [ob_some]; cases aelem H k n (aeval s x) <;> rfl
    | none =>
      simp only [oalt_none]
      rcases AE P t with _ | ⟨m, e⟩
      · rfl
      · simp only [ob_some]
        rcases TI P e with _ | ⟨z, k, b⟩
        · rfl
        · simp only [ob_some]; congr 3; cases amove (n.toNat * k) (aeval s x) <;> rfl
  simp only [astep, aop]
  cases aeval s i <;> first | rfl | skip
  rename_i u
  cases u <;> first | rfl | skip
  rename_i v
  cases v <;> first | rfl | exact main _
def ob2 {α β : Type} (x : Option α) (y : Option β) (F : α → β → Prop) (L : Prop) : Prop := match x, y with | some a, some b => F a b | _, _ => L
theorem ob2_some {α β : Type} (a : α) (b : β) (F : α → β → Prop) (L : Prop) : ob2 (some a) (some b) F L = F a b := rfl
theorem ob2_noneL {α β : Type} (y : Option β) (F : α → β → Prop) (L : Prop) : ob2 none y F L = L := rfl
theorem ob2_noneR {α β : Type} (x : Option α) (F : α → β → Prop) (L : Prop) : ob2 x none F L = L := by cases x <;> rfl
theorem ob2_congr {α β : Type} {x x' : Option α} {y y' : Option β} {F : α → β → Prop} {L : Prop} (g : nf x = x') (h : nf y = y') : ob2 x y F L = ob2 x' y' F L := by rw [← g, ← h]; rfl
attribute [go_sem] ob2_some ob2_noneL ob2_noneR
theorem st_bin (op : BinOp) (t : TypeId) (x y : Operand) (t' : TypeId) : astep P hint s H ⟨d, .binOp op t x y t', ty, p, af, g⟩ K KP = ob2 (closed (aeval s x)) (closed (aeval s y)) (fun u v => binK P op t u v (KVal K H)) (nilCmp P H op t (aeval s x) (aeval s y) = true ∧ K (.d (.v (.bool (isNeq op)))) H) := by
  simp only [astep, aop]
  cases closed (aeval s x) with
  | none => rfl
  | some u => cases closed (aeval s y) <;> rfl
theorem st_un (op : UnOp) (t : TypeId) (x : Operand) : astep P hint s H ⟨d, .unOp op t x, ty, p, af, g⟩ K KP = ob (closed (aeval s x)) fun u => unK op u (KVal K H) := by
  simp only [astep, aop]
  cases closed (aeval s x) <;> rfl
def asLi : AV → Option (List (List D))
  | .d (.list _ es) => some es
  | _ => none
theorem asLi_list (nn : Bool) (es : List (List D)) : asLi (.d (.list nn es)) = some es := rfl
theorem st_convert (a b : TypeId) (x : Operand) : astep P hint s H ⟨d, .convert a b x, ty, p, af, g⟩ K KP = oalt (SE P a) (fun e => UK P e = some .u8 ∧ P.underlying b = some .string ∧ ob (asLi (aeval s x)) fun es => ob (asBytes es) fun ns => K (.d (.v (.string (pushAll ns)))) H)
    (ob (asIn (closed (aeval s x))) fun n => ob (UK P a) fun _ => ob (UK P b) fun k => K (.d (.v (.int k (k.wrap n)))) H) := by
  have main : ∀ n : Int, (match UK P a, UK P b with | some _, some k => K (.d (.v (.int k (k.wrap n)))) H | _, _ => False) = ob (UK P a) fun _ => ob (UK P b) fun k => K (.d (.v (.int k (k.wrap n)))) H := by
    intro n
    cases UK P a with
    | none => rfl
    | some _ => simp only [ob_some]; cases UK P b <;> rfl
  simp only [astep, aop]
  cases SE P a with
  | some e =>
    simp only [oalt_some]
    congr 2
    cases aeval s x <;> first | rfl | (rename_i u; cases u <;> first | rfl | (rename_i es; simp only [asLi_list, ob_some]; cases asBytes es <;> rfl))
  | none =>
    simp only [oalt_none]
    cases closed (aeval s x) with
    | none => rfl
    | some v => cases v <;> first | rfl | exact main _
theorem st_extract (x : Operand) (i : Nat) : astep P hint s H ⟨d, .extract x i, ty, p, af, g⟩ K KP = ob (asT (aeval s x)) fun cs => ob cs[i]? fun c => K c H := by
  simp only [astep, aop]
  cases aeval s x <;> first | rfl | skip
  rename_i cs
  simp only [asT_tup, ob_some]
  cases cs[i]? <;> rfl
theorem st_makeFunc (f : FuncId) (x y : Array Operand) : astep P hint s H ⟨d, .makeFunc (.func f) x y, ty, p, af, g⟩ K KP = (x = #[] ∧ K (.fn f (y.toList.map (aeval s))) H) := rfl
theorem st_nilCheck (x : Operand) : astep P hint s H ⟨d, .nilCheck x, ty, p, af, g⟩ K KP = (nonNil H (aeval s x) = true ∧ K (aeval s x) H) := rfl
theorem st_makeInterface (t : TypeId) (x : Operand) : astep P hint s H ⟨d, .makeInterface t x, ty, p, af, g⟩ K KP = ob (closed (aeval s x)) fun u => isIface P t = false ∧ K (.d (.v (.iface t u))) H := by
  simp only [astep, aop]
  cases closed (aeval s x) <;> rfl
def asMp : AV → Option Nat
  | .mp id => some id
  | _ => none
theorem asMp_mp (id : Nat) : asMp (.mp id) = some id := rfl
def asMo : Option AObj → Option (IntKind × List (Int × AV))
  | some (.mp kk es) => some (kk, es)
  | _ => none
theorem asMo_mp (kk : IntKind) (es : List (Int × AV)) : asMo (some (.mp kk es)) = some (kk, es) := rfl
def asIk : Option Value → Option (IntKind × Int)
  | some (.int k i) => some (k, i)
  | _ => none
theorem asIk_int (k : IntKind) (i : Int) : asIk (some (.int k i)) = some (k, i) := rfl
attribute [go_sem] asMp_mp asMo_mp asIk_int
theorem st_len (x : Operand) (t : TypeId) (ts : Array TypeId) (h : ts.toList = [t]) : astep P hint s H ⟨d, .call ⟨.builtin .len, #[x], ts⟩, ty, p, af, g⟩ K KP = oalt (SE P t) (fun _ => ob (alen H (aeval s x)) fun n => K (.d (.v (.int .i64 n))) H)
    (oalt (MT P t) (fun m => ob (asMp (aeval s x)) fun id => ob (asMo H[id]?) fun o => o.1 = m.1 ∧ K (.d (.v (.int .i64 o.2.length))) H)
    (P.underlying t = some .string ∧ ob (asSt (closed (aeval s x))) fun b => K (.d (.v (.int .i64 b.size))) H)) := by
  simp only [astep, abuiltin, h]
  cases SE P t with
  | some e => simp only [oalt_some]; cases alen H (aeval s x) <;> rfl
  | none =>
    simp only [oalt_none]
    rcases MT P t with _ | ⟨kk, kt, e⟩
    · simp only [oalt_none]
      congr 1
      cases closed (aeval s x) with
      | none => rfl
      | some v => cases v <;> rfl
    · simp only [oalt_some]
      cases aeval s x with
      | mp id =>
        simp only [asMp_mp, ob_some]
        rcases H[id]? with _ | o
        · rfl
        · cases o <;> rfl
      | _ => rfl
theorem st_len1 (x : Operand) (t : TypeId) : astep P hint s H ⟨d, .call ⟨.builtin .len, #[x], #[t]⟩, ty, p, af, g⟩ K KP = oalt (SE P t) (fun _ => ob (alen H (aeval s x)) fun n => K (.d (.v (.int .i64 n))) H)
    (oalt (MT P t) (fun m => ob (asMp (aeval s x)) fun id => ob (asMo H[id]?) fun o => o.1 = m.1 ∧ K (.d (.v (.int .i64 o.2.length))) H)
    (P.underlying t = some .string ∧ ob (asSt (closed (aeval s x))) fun b => K (.d (.v (.int .i64 b.size))) H)) := st_len P hint s H d ty p af g K KP x t #[t] rfl
theorem st_min (x : Operand) (xs : List Operand) (ts : Array TypeId) : astep P hint s H ⟨d, .call ⟨.builtin .min, ⟨x :: xs⟩, ts⟩, ty, p, af, g⟩ K KP = ob (asIk (closed (aeval s x))) fun n => ob (intArgs s n.1 xs) fun ns => K (.d (.v (.int n.1 (ns.foldl min n.2)))) H := by
  simp only [astep, abuiltin]
  cases closed (aeval s x) with
  | none => rfl
  | some v => cases v <;> first | rfl | (rename_i k n; simp only [asIk_int, ob_some]; cases intArgs s k xs <;> rfl)
theorem st_max (x : Operand) (xs : List Operand) (ts : Array TypeId) : astep P hint s H ⟨d, .call ⟨.builtin .max, ⟨x :: xs⟩, ts⟩, ty, p, af, g⟩ K KP = ob (asIk (closed (aeval s x))) fun n => ob (intArgs s n.1 xs) fun ns => K (.d (.v (.int n.1 (ns.foldl max n.2)))) H := by
  simp only [astep, abuiltin]
  cases closed (aeval s x) with
  | none => rfl
  | some v => cases v <;> first | rfl | (rename_i k n; simp only [asIk_int, ob_some]; cases intArgs s k xs <;> rfl)
theorem intArgs_nil (k : IntKind) : intArgs s k [] = some [] := rfl
theorem intArgs_cons (k : IntKind) (x : Operand) (xs : List Operand) : intArgs s k (x :: xs) = (asIk (closed (aeval s x))).bind fun n => (intArgs s k xs).bind fun ns => if n.1 = k then some (n.2 :: ns) else none := by
  show (match closed (aeval s x), intArgs s k xs with | some (.int k' n), some ns => if k' = k then some (n :: ns) else none | _, _ => none) = _
  cases closed (aeval s x) with
  | none => rfl
  | some v => cases v <;> first | rfl | (cases intArgs s k xs <;> rfl)
theorem st_slice (t : TypeId) (x : Operand) (lo hi : Option Operand) : astep P hint s H ⟨d, .slice t x lo hi none, ty, p, af, g⟩ K KP = oalt (SE P t) (fun e => ob (TI P e) fun z => aslice H z.2.1 (sliceLo s lo) (fun n => sliceHi s n hi) K (aeval s x))
    (P.underlying t = some .string ∧ ob (asSt (closed (aeval s x))) fun b => ob (sliceLo s lo) fun l => ob (sliceHi s b.size hi) fun h => 0 ≤ l ∧ l ≤ h ∧ h ≤ b.size ∧ K (.d (.v (.string (b.extract l.toNat h.toNat)))) H) := by
  simp only [astep, aop]
  cases SE P t with
  | some e =>
    simp only [oalt_some]
    rcases TI P e with _ | ⟨z, k, b⟩ <;> rfl
  | none =>
    simp only [oalt_none]
    congr 1
    cases closed (aeval s x) with
    | none => rfl
    | some v =>
      cases v <;> first | rfl | skip
      rename_i b
      simp only [asSt_string, ob_some]
      cases sliceLo s lo with
      | none => rfl
      | some l => simp only [ob_some]; cases sliceHi s b.size hi <;> rfl
theorem aslice_list (k : Nat) (lo : Option Int) (hi : Nat → Option Int) (K : AV → AHeap → Prop) (nn : Bool) (es : List (List D)) : aslice H k lo hi K (.d (.list nn es)) = ((∀ c ∈ es, c.length = k) ∧ ob lo fun l => ob (hi es.length) fun h => 0 ≤ l ∧ l ≤ h ∧ h ≤ es.length ∧ K (.d (.list false ((es.take h.toNat).drop l.toNat))) H) := by
  simp only [aslice]
  congr 1
  cases lo with
  | none => rfl
  | some l => simp only [ob_some]; cases hi es.length <;> rfl
theorem aslice_sl (k : Nat) (lo : Option Int) (hi : Nat → Option Int) (K : AV → AHeap → Prop) (id ver off len : Nat) : aslice H k lo hi K (.sl id ver off len) = (ob H[id]? fun o => ob lo fun l => ob (hi len) fun h => (o.ver = ver ∧ o.k = k) ∧ 0 ≤ l ∧ l ≤ h ∧ h ≤ len ∧ (l = 0 ∨ l < h) ∧ K (.sl id ver (off + l.toNat) (h.toNat - l.toNat)) H) := by
  simp only [aslice]
  cases H[id]? with
  | none => rfl
  | some o =>
    cases lo with
    | none => rfl
    | some l => simp only [ob_some]; cases hi len <;> rfl
theorem st_slice3 (t : TypeId) (x : Operand) (lo : Option Operand) (hi mx : Operand) : astep P hint s H ⟨d, .slice t x lo (some hi) (some mx), ty, p, af, g⟩ K KP = ob (SE P t) fun e => ob (TI P e) fun z => aslice3 H z.2.1 (sliceLo s lo) (sliceLo s (some hi)) (sliceLo s (some mx)) K (aeval s x) := by
  simp only [astep, aop]
  cases SE P t with
  | some e =>
    simp only [ob_some]
    rcases TI P e with _ | ⟨z, k, b⟩ <;> rfl
  | none => rfl
theorem aslice3_list (k : Nat) (lo hi mx : Option Int) (K : AV → AHeap → Prop) (nn : Bool) (es : List (List D)) : aslice3 H k lo hi mx K (.d (.list nn es)) = ((∀ c ∈ es, c.length = k) ∧ ob lo fun l => ob hi fun h => ob mx fun m => 0 ≤ l ∧ l ≤ h ∧ h ≤ m ∧ m ≤ es.length ∧ K (.d (.list false ((es.take h.toNat).drop l.toNat))) H) := by
  cases lo <;> cases hi <;> cases mx <;> rfl
theorem st_typeAssert (x : Operand) (xT t : TypeId) (ok : Bool) : astep P hint s H ⟨d, .typeAssert x xT t ok, ty, p, af, g⟩ K KP = aassert P t ok H K (closed (aeval s x)) := rfl
theorem aassert_iface (t : TypeId) (ok : Bool) (K : AV → AHeap → Prop) (t' : TypeId) (u : Value) : aassert P t ok H K (some (.iface t' u)) = (isIface P t = false ∧ if t' = t then K (if ok = true then .tup [aconst u, .d (.v (.bool true))] else aconst u) H else ok = true ∧ ob (TI P t) fun z => K (.tup [aconst z.1, .d (.v (.bool false))]) H) := by
  simp only [aassert, assertR]
  by_cases h : t' = t
  · simp only [h, if_true]
  · simp only [h, if_false, assertNo]
    cases ok
    · simp
    · cases TI P t <;> simp [ob]
theorem aassert_nil (t : TypeId) (ok : Bool) (K : AV → AHeap → Prop) : aassert P t ok H K (some .nilIface) = (isIface P t = false ∧ ok = true ∧ ob (TI P t) fun z => K (.tup [aconst z.1, .d (.v (.bool false))]) H) := by
  simp only [aassert, assertR, assertNo]
  cases ok
  · simp
  · cases TI P t <;> simp [ob]
theorem st_clear (x : Operand) (t : TypeId) : astep P hint s H ⟨d, .call ⟨.builtin .clear, #[x], #[t]⟩, ty, p, af, g⟩ K KP = ob (SE P t) fun e => ob (TI P e) fun z => (z.1.cells.size = z.2.1 ∧ z.1.cells.all Value.oneCell' = true) ∧ (match aeval s x with
        | .sl id ver off len => (match H[id]? with
          | some (.arr e' k' ver' es) => (e' = e ∧ k' = z.2.1 ∧ ver' = ver) ∧ K (.tup []) (H.set id (.arr e z.2.1 ver (setRows es off (zrows z.1 len))))
          | _ => False)
        | _ => False) := by
  simp only [astep, abuiltin]
  cases SE P t with
  | none => rfl
  | some e =>
    simp only [ob_some]
    rcases TI P e with _ | ⟨z, k, b⟩ <;> rfl
theorem sliceLo_none : sliceLo s none = some 0 := rfl
theorem sliceLo_some (x : Operand) : sliceLo s (some x) = asIn (closed (aeval s x)) := by
  simp only [sliceLo]
  cases closed (aeval s x) with
  | none => rfl
  | some v => cases v <;> rfl
theorem sliceHi_none (n : Nat) : sliceHi s n none = some (n : Int) := rfl
theorem sliceHi_some (n : Nat) (x : Operand) : sliceHi s n (some x) = asIn (closed (aeval s x)) := by
  simp only [sliceHi]
  cases closed (aeval s x) with
  | none => rfl
  | some v => cases v <;> rfl
def asSi : Option Value → Option (ByteArray)
  | some (.string b) => some b
  | _ => none
theorem st_index (t : TypeId) (x ix : Operand) : astep P hint s H ⟨d, .index t x ix, ty, p, af, g⟩ K KP = (P.underlying t = some .string ∧ ob (asSt (closed (aeval s x))) fun b => ob (asIn (closed (aeval s ix))) fun i => 0 ≤ i ∧ ob b[i.toNat]? fun u => K (.d (.v (.int .u8 u.toNat))) H) := by
  simp only [astep, aop]
  congr 1
  cases closed (aeval s x) with
  | none => rfl
  | some v =>
    cases v <;> first | rfl | skip
    rename_i b
    cases closed (aeval s ix) with
    | none => rfl
    | some v =>
      cases v <;> first | rfl | skip
      simp only [asSt_string, ob_some, asIn_int]
      rename_i i
      congr 1
      cases b[i.toNat]? <;> rfl
theorem st_makeMap (t : TypeId) : astep P hint s H ⟨d, .makeMap t none, ty, p, af, g⟩ K KP = ob (MT P t) fun m => K (.mp H.length) (H ++ [.mp m.1 []]) := by
  simp only [astep, aop]
  rcases MT P t with _ | ⟨kk, kt, e⟩ <;> rfl
theorem st_lookup (t : TypeId) (x ix : Operand) (ok : Bool) : astep P hint s H ⟨d, .lookup t x ix ok, ty, p, af, g⟩ K KP = ob (MT P t) fun m => ob (TI P m.2.2) fun z => ob (asMp (aeval s x)) fun id => ob (asMo H[id]?) fun o => ob (asIk (closed (aeval s ix))) fun n =>
    (o.1 = m.1 ∧ n.1 = m.1) ∧ K (if ok then .tup [(mpGet n.2 o.2).getD (aconst z.1), .d (.v (.bool (mpGet n.2 o.2).isSome))] else (mpGet n.2 o.2).getD (aconst z.1)) H := by
  simp only [astep, aop]
  rcases MT P t with _ | ⟨kk, kt, e⟩
  · rfl
  · simp only [ob_some]
    rcases TI P e with _ | ⟨z, k, b⟩
    · rfl
    · simp only [ob_some]
      cases aeval s x with
      | mp id =>
        simp only [asMp_mp, ob_some]
        rcases H[id]? with _ | o
        · rfl
        · cases o with
          | mp kk es =>
            simp only [asMo_mp, ob_some]
            rcases closed (aeval s ix) with _ | v
            · rfl
            · cases v <;> rfl
          | _ => rfl
      | _ => rfl
theorem st_mapUpdate (t : TypeId) (x ix y : Operand) : astep P hint s H ⟨d, .mapUpdate t x ix y, ty, p, af, g⟩ K KP = ob (MT P t) fun m => ob (asMp (aeval s x)) fun id => ob (asMo H[id]?) fun o => ob (asIk (closed (aeval s ix))) fun n =>
    (o.1 = m.1 ∧ n.1 = m.1) ∧ K .top (H.set id (.mp m.1 (mpPut n.2 (aeval s y) o.2))) := by
  simp only [astep, aop]
  rcases MT P t with _ | ⟨kk, kt, e⟩
  · rfl
  · simp only [ob_some]
    cases aeval s x with
    | mp id =>
      simp only [asMp_mp, ob_some]
      rcases H[id]? with _ | o
      · rfl
      · cases o with
        | mp kk es =>
          simp only [asMo_mp, ob_some]
          rcases closed (aeval s ix) with _ | v
          · rfl
          · cases v <;> rfl
        | _ => rfl
    | _ => rfl
theorem st_insert (t : TypeId) (x ix y : Operand) : astep P hint s H ⟨d, .insert t x ix y, ty, p, af, g⟩ K KP = astep P hint s H ⟨d, .mapUpdate t x ix y, ty, p, af, g⟩ K KP := by simp only [astep, aop]
theorem un_not (b : Bool) (K : Value → Prop) : unK .not (.bool b) K = K (.bool !b) := rfl
theorem un_neg (k : IntKind) (n : Int) (K : Value → Prop) : unK .neg (.int k n) K = K (.int k (k.wrap (0 - n))) := rfl
def notI (k : IntKind) (n : Int) : Int := (BitVec.ofInt k.bits (if k.signed then -1 else k.max) ^^^ BitVec.ofInt k.bits n).toNat
theorem un_xor (k : IntKind) (n : Int) (K : Value → Prop) : unK .xor (.int k n) K = K (.int k (k.wrap (notI k n))) := rfl
attribute [go_sem] un_not un_neg un_xor Option.getD_some Option.getD_none Option.isSome_some Option.isSome_none
def shlI (k : IntKind) (m n : Int) : Int := m * 2 ^ (min n.toNat k.bits)
def shrI (k : IntKind) (m n : Int) : Int := m.fdiv (2 ^ (min n.toNat k.bits))
def andI (k : IntKind) (m n : Int) : Int := (BitVec.ofInt k.bits m &&& BitVec.ofInt k.bits n).toNat
def orI (k : IntKind) (m n : Int) : Int := (BitVec.ofInt k.bits m ||| BitVec.ofInt k.bits n).toNat
def xorI (k : IntKind) (m n : Int) : Int := (BitVec.ofInt k.bits m ^^^ BitVec.ofInt k.bits n).toNat
def andNotI (k : IntKind) (m n : Int) : Int := (BitVec.ofInt k.bits m &&& ~~~BitVec.ofInt k.bits n).toNat
theorem bi_shl (P : Program) (t : TypeId) (k k' : IntKind) (m n : Int) (K : Value → Prop) : binK P .shl t (.int k m) (.int k' n) K = (0 ≤ n ∧ K (.int k (k.wrap (shlI k m n)))) := rfl
theorem bi_shr (P : Program) (t : TypeId) (k k' : IntKind) (m n : Int) (K : Value → Prop) : binK P .shr t (.int k m) (.int k' n) K = (0 ≤ n ∧ K (.int k (shrI k m n))) := rfl
theorem bi_add (P : Program) (t : TypeId) (k k' : IntKind) (m n : Int) (K : Value → Prop) : binK P .add t (.int k m) (.int k' n) K = (k = k' ∧ K (.int k (k.wrap (m + n)))) := rfl
theorem bi_sub (P : Program) (t : TypeId) (k k' : IntKind) (m n : Int) (K : Value → Prop) : binK P .sub t (.int k m) (.int k' n) K = (k = k' ∧ K (.int k (k.wrap (m - n)))) := rfl
theorem bi_mul (P : Program) (t : TypeId) (k k' : IntKind) (m n : Int) (K : Value → Prop) : binK P .mul t (.int k m) (.int k' n) K = (k = k' ∧ K (.int k (k.wrap (m * n)))) := rfl
theorem bi_quo (P : Program) (t : TypeId) (k k' : IntKind) (m n : Int) (K : Value → Prop) : binK P .quo t (.int k m) (.int k' n) K = (k = k' ∧ n ≠ 0 ∧ K (.int k (k.wrap (m.tdiv n)))) := rfl
theorem bi_rem (P : Program) (t : TypeId) (k k' : IntKind) (m n : Int) (K : Value → Prop) : binK P .rem t (.int k m) (.int k' n) K = (k = k' ∧ n ≠ 0 ∧ K (.int k (m.tmod n))) := rfl
theorem bi_and (P : Program) (t : TypeId) (k k' : IntKind) (m n : Int) (K : Value → Prop) : binK P .and t (.int k m) (.int k' n) K = (k = k' ∧ K (.int k (k.wrap (andI k m n)))) := rfl
theorem bi_or (P : Program) (t : TypeId) (k k' : IntKind) (m n : Int) (K : Value → Prop) : binK P .or t (.int k m) (.int k' n) K = (k = k' ∧ K (.int k (k.wrap (orI k m n)))) := rfl
theorem bi_xor (P : Program) (t : TypeId) (k k' : IntKind) (m n : Int) (K : Value → Prop) : binK P .xor t (.int k m) (.int k' n) K = (k = k' ∧ K (.int k (k.wrap (xorI k m n)))) := rfl
theorem bi_andNot (P : Program) (t : TypeId) (k k' : IntKind) (m n : Int) (K : Value → Prop) : binK P .andNot t (.int k m) (.int k' n) K = (k = k' ∧ K (.int k (k.wrap (andNotI k m n)))) := rfl
theorem bi_eql (P : Program) (t : TypeId) (k k' : IntKind) (m n : Int) (K : Value → Prop) : binK P .eql t (.int k m) (.int k' n) K = (k = k' ∧ K (.bool (m == n))) := rfl
theorem bi_neq (P : Program) (t : TypeId) (k k' : IntKind) (m n : Int) (K : Value → Prop) : binK P .neq t (.int k m) (.int k' n) K = (k = k' ∧ K (.bool (m != n))) := rfl
theorem bi_lss (P : Program) (t : TypeId) (k k' : IntKind) (m n : Int) (K : Value → Prop) : binK P .lss t (.int k m) (.int k' n) K = (k = k' ∧ K (.bool (decide (m < n)))) := rfl
theorem bi_leq (P : Program) (t : TypeId) (k k' : IntKind) (m n : Int) (K : Value → Prop) : binK P .leq t (.int k m) (.int k' n) K = (k = k' ∧ K (.bool (decide (m ≤ n)))) := rfl
theorem bi_gtr (P : Program) (t : TypeId) (k k' : IntKind) (m n : Int) (K : Value → Prop) : binK P .gtr t (.int k m) (.int k' n) K = (k = k' ∧ K (.bool (decide (m > n)))) := rfl
theorem bi_geq (P : Program) (t : TypeId) (k k' : IntKind) (m n : Int) (K : Value → Prop) : binK P .geq t (.int k m) (.int k' n) K = (k = k' ∧ K (.bool (decide (m ≥ n)))) := rfl
theorem bs_eql (P : Program) (t : TypeId) (m n : ByteArray) (K : Value → Prop) : binK P .eql t (.string m) (.string n) K = K (.bool (m.toList == n.toList)) := rfl
theorem bs_neq (P : Program) (t : TypeId) (m n : ByteArray) (K : Value → Prop) : binK P .neq t (.string m) (.string n) K = K (.bool (!(m.toList == n.toList))) := rfl
theorem bs_lss (P : Program) (t : TypeId) (m n : ByteArray) (K : Value → Prop) : binK P .lss t (.string m) (.string n) K = K (.bool (Op.bytesLess m.toList n.toList)) := rfl
theorem bs_leq (P : Program) (t : TypeId) (m n : ByteArray) (K : Value → Prop) : binK P .leq t (.string m) (.string n) K = K (.bool (Op.bytesLess m.toList n.toList || m.toList == n.toList)) := rfl
theorem bs_gtr (P : Program) (t : TypeId) (m n : ByteArray) (K : Value → Prop) : binK P .gtr t (.string m) (.string n) K = K (.bool (!(Op.bytesLess m.toList n.toList || m.toList == n.toList))) := rfl
theorem bs_geq (P : Program) (t : TypeId) (m n : ByteArray) (K : Value → Prop) : binK P .geq t (.string m) (.string n) K = K (.bool (!Op.bytesLess m.toList n.toList)) := rfl
attribute [go_sem] bi_shl bi_shr bi_add bi_sub bi_mul bi_quo bi_rem bi_and bi_or bi_xor bi_andNot bi_eql bi_neq bi_lss bi_leq bi_gtr bi_geq bs_eql bs_neq bs_lss bs_leq bs_gtr bs_geq
/-- append: where to. -/
def appTo (H : AHeap) (e : TypeId) (k b : Nat) (news : List (List D)) (K : AV → AHeap → Prop) : AV → Prop
  | .sl id ver 0 len => ob H[id]? fun o => match o with
    | .arr e' k' ver' es => (e' = e ∧ k' = k ∧ ver' = ver ∧ es.length = len) ∧ (es.length + news.length) * b ≤ 140737488355328 ∧ es.length + news.length ≤ 9223372036854775807 ∧
        K (.sl id (ver + 1) 0 (es.length + news.length)) (H.set id (.arr e k (ver + 1) (es ++ news)))
    | _ => False
  | x => isNone x = true ∧ news.length * b ≤ 140737488355328 ∧ news.length ≤ 9223372036854775807 ∧ K (.sl H.length 1 0 news.length) (H ++ [.arr e k 1 news])
theorem appTo_sl (H : AHeap) (e : TypeId) (k b : Nat) (news : List (List D)) (K : AV → AHeap → Prop) (id ver len : Nat) (e' : TypeId) (k' ver' : Nat) (es : List (List D)) (h : H[id]? = some (.arr e' k' ver' es)) :
    appTo H e k b news K (.sl id ver 0 len) = ((e' = e ∧ k' = k ∧ ver' = ver ∧ es.length = len) ∧ (es.length + news.length) * b ≤ 140737488355328 ∧ es.length + news.length ≤ 9223372036854775807 ∧
        K (.sl id (ver + 1) 0 (es.length + news.length)) (H.set id (.arr e k (ver + 1) (es ++ news)))) := by
  simp only [appTo, h, ob_some]
theorem appTo_snoc (H : AHeap) (e : TypeId) (k b : Nat) (news : List (List D)) (K : AV → AHeap → Prop) (ver len : Nat) (e' : TypeId) (k' ver' : Nat) (es : List (List D)) :
    appTo (H ++ [.arr e' k' ver' es]) e k b news K (.sl H.length ver 0 len) = ((e' = e ∧ k' = k ∧ ver' = ver ∧ es.length = len) ∧ (es.length + news.length) * b ≤ 140737488355328 ∧ es.length + news.length ≤ 9223372036854775807 ∧
        K (.sl H.length (ver + 1) 0 (es.length + news.length)) (H ++ [.arr e k (ver + 1) (es ++ news)])) := by
  rw [appTo_sl _ _ _ _ _ _ _ _ _ e' k' ver' es (by simp)]
  simp
theorem appTo_nil (H : AHeap) (e : TypeId) (k b : Nat) (news : List (List D)) (K : AV → AHeap → Prop) : appTo H e k b news K (.d (.v (.slice none 0 0))) = (news.length * b ≤ 140737488355328 ∧ news.length ≤ 9223372036854775807 ∧ K (.sl H.length 1 0 news.length) (H ++ [.arr e k 1 news])) := by
  simp [appTo, isNone]
theorem appTo_cap0 (H : AHeap) (e : TypeId) (k b : Nat) (news : List (List D)) (K : AV → AHeap → Prop) : appTo H e k b news K .cap0 = (news.length * b ≤ 140737488355328 ∧ news.length ≤ 9223372036854775807 ∧ K (.sl H.length 1 0 news.length) (H ++ [.arr e k 1 news])) := by
  simp [appTo, isNone]
theorem st_append (x y : Operand) (t : TypeId) : astep P hint s H ⟨d, .call ⟨.builtin .append, #[x, y], #[t, t]⟩, ty, p, af, g⟩ K KP = ob (SE P t) fun e => ob (TI P e) fun z => (z.1.cells.size = z.2.1 ∧ 0 < z.2.1) ∧ ob (asrc H (aeval s y)) fun news =>
    (∀ c ∈ news, c.length = z.2.1) ∧ appTo H e z.2.1 z.2.2 news K (aeval s x) := by
  simp only [astep, abuiltin]
  cases SE P t with
  | none => simp [ob]
  | some e =>
    simp only [ob_some, true_and]
    rcases TI P e with _ | ⟨z, k, b⟩
    · rfl
    · simp only [ob_some]
      congr 1
      cases asrc H (aeval s y) with
      | none => rfl
      | some news =>
        simp only [ob_some]
        congr 1
        cases aeval s x with
        | sl id ver off len =>
          cases off with
          | zero =>
            simp only [appTo]
            cases H[id]? with
            | none => rfl
            | some ob => cases ob <;> rfl
          | succ off => rfl
        | _ => rfl
/-- A call: what is asked of it. -/
def KCall (P : Program) (f : FuncId) (args : List AV) (H : AHeap) (K : AV → AHeap → Prop) (KP : Value → AHeap → Prop) : Prop := ∃ res H', Does P f args H res H' ∧ (match res with | .ok r => K r H' | .panic v => KP v H')
theorem st_call (f : Operand) (xs : Array Operand) (ts : Array TypeId) : astep P hint s H ⟨d, .call ⟨.value f, xs, ts⟩, ty, p, af, g⟩ K KP = ob (asF (aeval s f)) fun fc => KCall P fc.1 (xs.toList.map (aeval s) ++ fc.2) H K KP := by
  simp only [astep]
  cases aeval s f <;> rfl
theorem st_panic (x : Operand) : astep P hint s H ⟨d, .panic x, ty, p, af, g⟩ K KP = (match closed (aeval s x) with | some (.iface t u) => KP (.iface t u) H | _ => False) := rfl
theorem KCall.ok {P : Program} {f : FuncId} {args : List AV} {H : AHeap} {K : AV → AHeap → Prop} {KP : Value → AHeap → Prop} {r : AV} {H' : AHeap} (h : Does P f args H (.ok r) H') (hk : K r H') : KCall P f args H K KP := ⟨_, _, h, hk⟩
theorem KCall.panic {P : Program} {f : FuncId} {args : List AV} {H : AHeap} {K : AV → AHeap → Prop} {KP : Value → AHeap → Prop} {v : Value} {H' : AHeap} (h : Does P f args H (.panic v) H') (hk : KP v H') : KCall P f args H K KP := ⟨_, _, h, hk⟩
end
attribute [go_sem] KOp_app KPan_app KSeq_normal KSeq_exit KSeq_ret KSeq_panic KBlock_normal KBlock_exit KBlock_ret KBlock_panic KLoop_normal KLoop_exit KLoop_ret KLoop_panic KVal_app
  awp_skip awp_label awp_scope awp_region awp_seq awp_block awp_exit awp_ret awpList_nil awpList_none awpList_guard
  st_move st_assign st_pick st_alloc st_box st_build st_buildSlice st_buildSlice0 st_load st_store st_fieldAddr st_field st_indexAddr st_bin st_un st_convert asLi_list st_extract st_makeFunc st_nilCheck st_makeInterface st_panic st_len1 st_makeMap st_lookup st_mapUpdate st_slice aslice_list aslice_sl st_slice3 aslice3_list st_typeAssert aassert_iface aassert_nil st_clear sliceLo_none sliceLo_some sliceHi_none sliceHi_some st_index st_insert st_min st_max intArgs_nil intArgs_cons List.foldl_cons List.foldl_nil st_append st_call ayield_eq asW_bool asW_tup appTo_snoc appTo_nil appTo_cap0
  aput_at aput_no aeval_tmp aeval_const aeval_func aconst_int aconst_bool aconst_string aconst_slice aconst_pointer aconst_agg aconst_iface aconst_nilIface aconst_nilFunc ainit_at closed_v closed_list closed_ptr closed_sl closed_iptr closed_fn closed_mp closed_cap0 closed_agg closedAll
  cellsOf_d cellsOf_sl cellsOf_ptr cellsOf_agg cellsOf_fn cellsOf_cap0 cellsOf_mp alen_list alen_slice alen_cap0 alen_sl asrc_list aelem_list aread_iptr aread_ptr awrite_ptr amove_ptr amove_iptr fresh_ptr fresh_iptr toDs_nil toDs_cons toD_d afill_nil afill_cons get_snoc_self set_snoc_self app_get app_get0 app_set app_set0 List.set_cons_zero List.set_cons_succ app_len1 app_len2 app_len3 app_len4 app_len5 app_len6 app_len7 app_len8
  aparts chunk zcells splice dcells ares AObj.ver AObj.k AObj.len AV.one hintOf nonNil isNone

/-! ### Ends, and what is forgotten there -/
theorem tail_append (H T : AHeap) : ∀ i o, i < H.length → (H ++ T)[i]? = some o → H[i]? = some o ∨ o.below H.length = true := fun i o hi h => .inl (by rwa [List.getElem?_append_left hi] at h)
theorem Weak.drop (H T : AHeap) (s : Nat → AV) : Weak H s (H ++ T) (fun t => frz (H ++ T) H.length (s t)) H := by
  have := Weak.trunc (H0 := H) s (H ++ T) H.length (Nat.le_refl _) (by simp) (tail_append H T)
  rwa [List.take_left] at this
theorem AEnd.ret {rs : List Tmp} {H T : AHeap} {s : Nat → AV} {r : AV} (h : r = ares rs fun t => frz (H ++ T) H.length (s t)) : AEnd rs H (.ok r) H .ret s (H ++ T) := ⟨_, Weak.drop H T s, by rw [h]⟩
theorem AEnd.ret0 {rs : List Tmp} {H : AHeap} {s : Nat → AV} {r : AV} (h : r = ares rs s) : AEnd rs H (.ok r) H .ret s H := ⟨_, Weak.refl s H, by rw [h]⟩
theorem frz_d (H : AHeap) (m : Nat) (x : D) : frz H m (.d x) = .d x := rfl
theorem frz_top (H : AHeap) (m : Nat) : frz H m .top = .top := rfl
theorem frz_agg (H : AHeap) (m : Nat) (cs : List AV) : frz H m (.agg cs) = .agg (cs.map (frz0 H m)) := rfl
theorem frz_tup (H : AHeap) (m : Nat) (cs : List AV) : frz H m (.tup cs) = .tup (cs.map (frz1 H m)) := rfl
theorem frz_sl (H : AHeap) (m id v off len : Nat) : frz H m (.sl id v off len) = frz0 H m (.sl id v off len) := rfl
theorem frz_ptr (H : AHeap) (m id v i j : Nat) : frz H m (.ptr id v i j) = frz0 H m (.ptr id v i j) := rfl
theorem frz1_d (H : AHeap) (m : Nat) (x : D) : frz1 H m (.d x) = .d x := rfl
theorem frz1_agg (H : AHeap) (m : Nat) (cs : List AV) : frz1 H m (.agg cs) = .agg (cs.map (frz0 H m)) := rfl
theorem frz1_sl (H : AHeap) (m id v off len : Nat) : frz1 H m (.sl id v off len) = frz0 H m (.sl id v off len) := rfl
theorem frz1_top (H : AHeap) (m : Nat) : frz1 H m .top = .top := rfl
theorem frz0_d (H : AHeap) (m : Nat) (x : D) : frz0 H m (.d x) = .d x := rfl
theorem frz0_top (H : AHeap) (m : Nat) : frz0 H m .top = .top := rfl
theorem frz0_sl (H : AHeap) (m id v off len : Nat) : frz0 H m (.sl id v off len) = if id < m then .sl id v off len else match H[id]? with
    | some (.arr _ _ ver es) => if ver = v then .d (.list false ((es.drop off).take len)) else .top
    | _ => .top := rfl
theorem frz0_ptr (H : AHeap) (m id v i j : Nat) : frz0 H m (.ptr id v i j) = if id < m then .ptr id v i j else .top := rfl
theorem Weak.virt1 (H : AHeap) (s : Nat → AV) (t : Nat) (e : TypeId) (k : Nat) (hk : 0 < k) (h : isNone (s t) = true) (H0 : AHeap) : Weak H0 s H (fun u => if u = t then .sl H.length 0 0 0 else s u) (H ++ [.arr e k 0 []]) := .virt s H t e k hk h
attribute [go_sem] frz_d frz_top frz_agg frz_tup frz_sl frz_ptr frz1_d frz1_agg frz1_sl frz1_top frz0_d frz0_top frz0_sl frz0_ptr
theorem getD_zero {α : Type} (x : α) (l : List α) (d : α) : (x :: l).getD 0 d = x := rfl
theorem getD_succ {α : Type} (x : α) (l : List α) (n : Nat) (d : α) : (x :: l).getD (n + 1) d = l.getD n d := rfl
theorem getD_nil {α : Type} (n : Nat) (d : α) : ([] : List α).getD n d = d := rfl
theorem toList_mk {α : Type} (l : List α) : l.toArray.toList = l := rfl
theorem getElem_toArray' {α : Type} (l : List α) (i : Nat) : l.toArray[i]? = l[i]? := by simp
attribute [go_sem] getD_zero getD_succ getD_nil toList_mk getElem_toArray' List.map_cons List.map_nil List.length_cons List.length_nil List.length_map List.getElem?_cons_zero List.getElem?_cons_succ List.getElem?_map List.getElem?_nil Option.map_some Option.map_none Option.bind_some Option.bind_none
  List.take_succ_cons List.take_zero List.take_nil List.drop_succ_cons List.drop_zero List.drop_nil List.append_assoc List.cons_append List.nil_append List.all_cons List.all_nil Bool.and_true Bool.true_and Bool.and_false Bool.false_and Bool.and_self Nat.zero_add Nat.add_zero Nat.zero_mul Nat.mul_zero Nat.one_mul Nat.mul_one
  Bool.not_true Bool.not_false Int.toNat_natCast Int.natCast_nonneg List.size_toArray true_and and_true beq_self_eq_true decide_true decide_false if_true if_false Nat.le_refl ne_eq not_true not_false_iff reduceCtorEq Array.toList_map List.length_append List.mem_cons List.not_mem_nil or_false forall_eq Int.ofNat_lt Int.ofNat_le
theorem range0 : List.range 0 = [] := rfl
theorem range1 : List.range 1 = [0] := rfl
theorem range2 : List.range 2 = [0, 1] := rfl
theorem range3 : List.range 3 = [0, 1, 2] := rfl
theorem range4 : List.range 4 = [0, 1, 2, 3] := rfl
theorem range5 : List.range 5 = [0, 1, 2, 3, 4] := rfl
theorem range6 : List.range 6 = [0, 1, 2, 3, 4, 5] := rfl
theorem range7 : List.range 7 = [0, 1, 2, 3, 4, 5, 6] := rfl
theorem range8 : List.range 8 = [0, 1, 2, 3, 4, 5, 6, 7] := rfl
theorem range9 : List.range 9 = [0, 1, 2, 3, 4, 5, 6, 7, 8] := rfl
theorem range10 : List.range 10 = [0, 1, 2, 3, 4, 5, 6, 7, 8, 9] := rfl
theorem range11 : List.range 11 = [0, 1, 2, 3, 4, 5, 6, 7, 8, 9, 10] := rfl
theorem range12 : List.range 12 = [0, 1, 2, 3, 4, 5, 6, 7, 8, 9, 10, 11] := rfl
theorem range13 : List.range 13 = [0, 1, 2, 3, 4, 5, 6, 7, 8, 9, 10, 11, 12] := rfl
theorem range14 : List.range 14 = [0, 1, 2, 3, 4, 5, 6, 7, 8, 9, 10, 11, 12, 13] := rfl
theorem range15 : List.range 15 = [0, 1, 2, 3, 4, 5, 6, 7, 8, 9, 10, 11, 12, 13, 14] := rfl
theorem range16 : List.range 16 = [0, 1, 2, 3, 4, 5, 6, 7, 8, 9, 10, 11, 12, 13, 14, 15] := rfl
theorem range17 : List.range 17 = [0, 1, 2, 3, 4, 5, 6, 7, 8, 9, 10, 11, 12, 13, 14, 15, 16] := rfl
theorem range18 : List.range 18 = [0, 1, 2, 3, 4, 5, 6, 7, 8, 9, 10, 11, 12, 13, 14, 15, 16, 17] := rfl
theorem range19 : List.range 19 = [0, 1, 2, 3, 4, 5, 6, 7, 8, 9, 10, 11, 12, 13, 14, 15, 16, 17, 18] := rfl
theorem range20 : List.range 20 = [0, 1, 2, 3, 4, 5, 6, 7, 8, 9, 10, 11, 12, 13, 14, 15, 16, 17, 18, 19] := rfl
theorem one_int (k : IntKind) (n : Int) : (Value.int k n).oneCell' = true := rfl
theorem one_bool (b : Bool) : (Value.bool b).oneCell' = true := rfl
theorem one_string (b : ByteArray) : (Value.string b).oneCell' = true := rfl
theorem one_slice (a : Option Addr) (n c : Nat) : (Value.slice a n c).oneCell' = true := rfl
theorem one_pointer (a : Option Addr) : (Value.pointer a).oneCell' = true := rfl
theorem one_iface (t : TypeId) (v : Value) : (Value.iface t v).oneCell' = true := rfl
theorem one_nilFunc : Value.nilFunc.oneCell' = true := rfl
theorem one_nilIface : Value.nilIface.oneCell' = true := rfl
theorem one_map (a : Option Nat) : (Value.map a).oneCell' = true := rfl
theorem one_agg (cs : Array Value) : (Value.agg cs).oneCell' = false := rfl
theorem cells_agg (cs : Array Value) : (Value.agg cs).cells = cs := rfl
theorem cells_int (k : IntKind) (n : Int) : (Value.int k n).cells = #[.int k n] := rfl
theorem cells_bool (b : Bool) : (Value.bool b).cells = #[.bool b] := rfl
theorem cells_string (b : ByteArray) : (Value.string b).cells = #[.string b] := rfl
theorem cells_slice (a : Option Addr) (n c : Nat) : (Value.slice a n c).cells = #[.slice a n c] := rfl
theorem cells_pointer (a : Option Addr) : (Value.pointer a).cells = #[.pointer a] := rfl
theorem cells_nilFunc : Value.nilFunc.cells = #[.nilFunc] := rfl
theorem cells_nilIface : Value.nilIface.cells = #[.nilIface] := rfl
theorem cells_map (a : Option Nat) : (Value.map a).cells = #[.map a] := rfl
theorem w_add (k : IntKind) (a b : Int) (h : (k.wrap (a + b)) = a + b) : k.wrap (a + b) = a + b := h
theorem wrap64_in (n : Int) (h0 : -9223372036854775808 ≤ n) (h1 : n ≤ 9223372036854775807) : IntKind.i64.wrap n = n := by
  simp [IntKind.wrap, IntKind.signed, IntKind.bits]; omega
theorem wrapu64_in (n : Int) (h0 : 0 ≤ n) (h1 : n ≤ 18446744073709551615) : IntKind.u64.wrap n = n := by
  simp [IntKind.wrap, IntKind.signed, IntKind.bits]; omega
theorem wrapu8_in (n : Int) (h0 : 0 ≤ n) (h1 : n ≤ 255) : IntKind.u8.wrap n = n := by
  simp [IntKind.wrap, IntKind.signed, IntKind.bits]; omega
attribute [go_sem] ge_iff_le gt_iff_lt range0 range1 range2 range3 range4 range5 range6 range7 range8 range9 range10 range11 range12 range13 range14 range15 range16 range17 range18 range19 range20 one_int one_bool one_string one_slice one_pointer one_iface one_nilFunc one_nilIface one_map one_agg cells_agg cells_int cells_bool cells_string cells_slice cells_pointer cells_nilFunc cells_nilIface cells_map List.getElem!_toArray List.getElem!_cons_zero List.getElem!_cons_succ
theorem all_arr (l : List Value) : l.toArray.all Value.oneCell' = l.all Value.oneCell' := by simp
theorem take_len {α : Type} (l : List α) (n : Nat) (h : l.length = n) : l.take n = l := by subst h; simp
attribute [go_sem ↓] all_arr
end Go.Proofs.YtfmmemboakdeiaaAw

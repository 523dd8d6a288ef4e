/- Functions that defer a call; deferred functions that recover. The empty text. val.May: what it does. slices.IndexFunc, ContainsFunc of values with a closure: what they do. plain.Check: what it does. leb.Zig, delta.Steps: what they do. leb.Get, leb.Zag: what they do. bits.From, Left, Get, Unpack: what they do. bits.Unpack: what it does. delta.Steps, delta.Sorted, delta.Bytes: what they do. Arguments of the laws, as Lean's data. delta.Sorted, delta.Bytes: what they do. The document's Same for values. ref01.Same, ref05.Same: what they do. The laws of layer 10: what they share. delta.Of: what it does. What is laid down is read, and the other way round: plain facts about bytes. Steps and sums; what is laid down is read, and the other way round. -/
import Derived.Recover
import Derived.Test.YtcdnbefcccdaeaaM03
namespace Go.Proofs.YtcdnbefcccdaeaaAw
open Go.RowKit
set_option linter.unusedVariables false
set_option linter.unusedSimpArgs false
def mPan (v : Value) : FrameMode := .panicking [{ v := v, recovered := false }]
def mRec (v : Value) : FrameMode := .panicking [{ v := v, recovered := true }]
/-- What recover answers in a mode, and the mode afterwards. -/
inductive Mode : FrameMode → Value → FrameMode → Prop
  | ret : Mode .returning .nilIface .returning
  | pan (v : Value) : Mode (mPan v) v (mRec v)
/-- The contract of a deferred function: it ends well, and leaves its caller in such a mode. -/
def DoesD (P : Program) (f : FuncId) (args : List AV) (H : AHeap) (u : FrameMode) (H' : AHeap) (u' : FrameMode) : Prop :=
  ∀ φ N w vals, Rel H φ N w → RAs H φ N w args vals → (callFunc f vals).run P w = .ok (.enter f vals) w ∧
    CallsD P f vals u w fun e u1 w' => (∃ v, e = .returned v) ∧ u1 = u' ∧ ∃ φ' N', Rel H' φ' N' w' ∧ Since H φ N w H' φ' N' w'

theorem RAs.init {H : AHeap} {φ : Phi} {N : Addr → Prop} {w : World} {args : List AV} {vals : Array Value} (h : RAs H φ N w args vals) (n : Nat) : TRel H φ N w (ainit args) { tmps := vals ++ Array.replicate (n - vals.size) undef, defers := [] } := by
  intro t
  simp only [ainit]
  by_cases ht : t < args.length
  · have ht' : t < vals.size := by rw [← h.1]; exact ht
    have := h.2 t ht ht'
    have e1 : args.getD t .top = args[t] := by simp [List.getD, ht]
    have e2 : (vals ++ Array.replicate (n - vals.size) undef).getD t undef = vals[t] := by
      rw [Array.getD_eq_getD_getElem?, Array.getElem?_append_left ht']; simp [ht']
    rw [e1, e2]
    exact this
  · have e1 : args.getD t .top = .top := by simp [List.getD, List.getElem?_eq_none (Nat.le_of_not_lt ht)]
    rw [e1]
    exact .top _
theorem RAs.since {H H' : AHeap} {φ φ' : Phi} {N N' : Addr → Prop} {w w' : World} {args : List AV} {vals : Array Value} (h : RAs H φ N w args vals) (hR : Rel H φ N w) (hS : Since H φ N w H' φ' N' w') : RAs H' φ' N' w' args vals :=
  ⟨h.1, fun i h1 h2 => (h.2 i h1 h2).since hR hS⟩

theorem DoesD.of_awp {P : Program} {hint : Nat → Bool} {f : FuncId} {fn : Func} {id : Nat} {o0 o1 : Oper} {rest : Code} {d0 d1 : Tmp} (hf : P.funcs[f]? = some fn) (hn : (fn.name == "runtime.NumGoroutine") = false) (hb : fn.body = some (.seq (.region id #[o0, o1] false) rest))
    (h0 : ∃ ats, o0.op = .call { callee := .builtin .recover, args := #[], argTypes := ats }) (g0 : o0.guard = none) (e0 : o0.dst = some d0) (h1 : o1.op = .assign (.tmp d0)) (g1 : o1.guard = none) (e1 : o1.dst = some d1) (hl : d0 < fn.ntmps) (hr : fn.results = #[])
    {args : List AV} {H H' : AHeap} {u u' : FrameMode} {v : Value} (ha : args.length ≤ fn.ntmps) (hm : Mode u v u')
    (h : awp P hint fn.ntmps H rest (fun e s H1 => (match e with | .normal | .ret => True | _ => False) ∧ ∃ s', Weak H s H1 s' H') (aput fn.ntmps (aput fn.ntmps (ainit args) (some d0) (aconst v)) (some d1) (aconst v)) H) : DoesD P f args H u H' u' := by
  intro φ N w vals hR hA
  refine ⟨enter_run hf hn (by rw [hb]; rfl) vals w, callsD_of_wpS hf hb fun c0 cs hc0 => wpS_seq (wpS_region ?_)⟩
  have hI : Inv H φ N w fn.ntmps [] (aput fn.ntmps (aput fn.ntmps (ainit args) (some d0) (aconst v)) (some d1) (aconst v)) H φ N (({ tmps := vals ++ Array.replicate (fn.ntmps - vals.size) undef, defers := [] } : Act).put (some d0) v |>.put (some d1) v) w := by
    have h : Inv H φ N w fn.ntmps [] (ainit args) H φ N { tmps := vals ++ Array.replicate (fn.ntmps - vals.size) undef, defers := [] } w :=
      ⟨hR, hA.init _, Since.refl, by simp; have := hA.1; omega, rfl⟩
    exact (h.put hR Since.refl (aconst_ok v) (some d0)).put hR Since.refl (aconst_ok v) (some d1)
  have hrec : ∃ cs', (match recoverD (c0 :: cs) with | some (x, cs') => (x, cs') | none => (Value.nilIface, c0 :: cs)) = (v, cs') ∧ cs' = { c0 with mode := u' } :: cs := by
    subst hc0
    generalize hu : c0.mode = u at hm
    cases hm with
    | ret => exact ⟨c0 :: cs, by simp [recoverD, hu], by rw [← hu]⟩
    | pan v => exact ⟨_, by simp [recoverD, hu, mPan]; rfl, rfl⟩
  obtain ⟨cs', hrec, hcs⟩ := hrec
  have hwp := awp_ok hR rest _ hI h
  let R : Ending → FrameMode → World → Prop := fun e u1 w' => (∃ v, e = .returned v) ∧ u1 = u' ∧ ∃ φ' N', Rel H' φ' N' w' ∧ Since H φ N w H' φ' N' w'
  have hS : Code.wpS P rest (bodyPostS P fn c0 cs R) ((({ tmps := vals ++ Array.replicate (fn.ntmps - vals.size) undef, defers := [] } : Act).put (some d0) v).put (some d1) v) cs' w := by
    refine wpS_of_wp (wp_mono hwp ?_)
    rintro e a' w' ⟨ax, s', H1, φ1, N1, rfl, ⟨hq, s'', hW⟩, hI1⟩
    obtain ⟨φ2, N2, hI2⟩ := hW.ok hR hI1
    have fin : a'.defers = [] ∧ ∃ u1, cs' = { c0 with mode := u1 } :: cs ∧ ∃ v, (results fn a'.tmps).run P w' = .ok v w' ∧ R (.returned v) u1 w' :=
      ⟨hI2.defers, u', hcs, _, run_results [] (by rw [hr]; rfl) (by simp) _ _, ⟨_, rfl⟩, rfl, φ2, N2, hI2.rel, hI2.since⟩
    cases ax with
    | normal => exact fin
    | ret => exact fin
    | exit i => exact hq.elim
    | panic v => exact hq.elim
  have tail : wpOpsS P #[o0, o1] (Exit.thenS (Code.wpS P rest (bodyPostS P fn c0 cs R)) (bodyPostS P fn c0 cs R)) [1]
      (({ tmps := vals ++ Array.replicate (fn.ntmps - vals.size) undef, defers := [] } : Act).put (some d0) v) cs' w := by
    have hev : (({ tmps := vals ++ Array.replicate (fn.ntmps - vals.size) undef, defers := [] } : Act).put (some d0) v).eval (.tmp d0) = v := by
      have : d0 < vals.size + (fn.ntmps - vals.size) := Nat.lt_of_lt_of_le hl (by omega)
      simp [Act.eval, Act.put, this]
    have hx : (execOp (({ tmps := vals ++ Array.replicate (fn.ntmps - vals.size) undef, defers := [] } : Act).put (some d0) v).eval o1).run P w = .ok (.value v) w := by
      simp only [execOp, h1, hev]; rfl
    have hw : Region.wanted o1 (yielded #[o0, o1] (({ tmps := vals ++ Array.replicate (fn.ntmps - vals.size) undef, defers := [] } : Act).put (some d0) v).tmps) = true := by simp [Region.wanted, g1]
    simp only [wpOpsS, List.getElem?_toArray, List.getElem?_cons_succ, List.getElem?_cons_zero, hw, if_true, hx, Oper.upon, e1]
    exact hS
  obtain ⟨ats, h0⟩ := h0
  have hx : (execOp (({ tmps := vals ++ Array.replicate (fn.ntmps - vals.size) undef, defers := [] } : Act)).eval o0).run P w = .ok .recover w := by
    simp only [execOp, h0, resolve, Deferred.ofValue, invoke]
    rfl
  have hw : Region.wanted o0 (yielded #[o0, o1] (({ tmps := vals ++ Array.replicate (fn.ntmps - vals.size) undef, defers := [] } : Act)).tmps) = true := by simp [Region.wanted, g0]
  show wpOpsS P #[o0, o1] _ [0, 1] _ _ _
  unfold wpOpsS
  simp only [List.getElem?_toArray, List.getElem?_cons_zero, hw, if_true, hx, e0]
  revert hrec
  cases recoverD (c0 :: cs) with
  | none =>
    intro hrec
    have e1 : Value.nilIface = v := congrArg Prod.fst hrec
    have e2 : c0 :: cs = cs' := congrArg Prod.snd hrec
    simp only [e1, e2]
    exact tail
  | some p =>
    intro hrec
    have e1 : p.1 = v := congrArg Prod.fst hrec
    have e2 : p.2 = cs' := congrArg Prod.snd hrec
    simp only [e1, e2]
    exact tail

/-- What is left of a function where its body has ended and its deferred call is still to come. -/
def AEndD (P : Program) (rs : List ResultVar) (H0 : AHeap) (res : ARes) (H' : AHeap) (g : FuncId) (dargs : List AV) : Post := fun e s H =>
  match e with
  | .normal | .ret => ∃ H1, DoesD P g dargs H .returning H1 .returning ∧ AEndC P rs H0 res H' .ret s H1
  | .panic v => ∃ H1, DoesD P g dargs H (mPan v) H1 (mRec v) ∧ AEndC P rs H0 res H' .ret s H1
  | _ => False
theorem finC {P : Program} {fn : Func} {rs : List ResultVar} (hr : fn.results.toList = rs) {H : AHeap} {φ : Phi} {N : Addr → Prop} {w : World} (hR : Rel H φ N w) {res : ARes} {H' : AHeap} {n : Nat} {ds : List Deferred} {s' : Nat → AV} {H1 : AHeap} {φ1 : Phi} {N1 : Addr → Prop} {a' : Act} {w' : World}
    (hI1 : Inv H φ N w n ds s' H1 φ1 N1 a' w') (h : AEndC P rs H res H' .ret s' H1) : ∃ v, (results fn a'.tmps).run P w' = .ok v w' ∧ ∃ φ' N', Rel H' φ' N' w' ∧ Since H φ N w H' φ' N' w' ∧ REnd H' φ' N' w' res (.returned v) := by
  obtain ⟨avs, s'', hav, hW, rfl⟩ := h
  obtain ⟨us, hus, hl, hru⟩ := resAll_ok hI1.rel hI1.tmps hav
  have hI2 : Inv H φ N w us.length [] (fun t => avs.getD t .top) H1 φ1 N1 { tmps := us.toArray, defers := [] } w' := by
    refine ⟨hI1.rel, fun t => ?_, hI1.since, by simp, rfl⟩
    by_cases ht : t < avs.length
    · have e1 : avs.getD t .top = avs[t] := by simp [List.getD, ht]
      have e2 : (us.toArray : Array Value).getD t undef = us[t]'(by omega) := by
        rw [Array.getD_eq_getD_getElem?]; simp [show t < us.length by omega]
      simp only [e1, e2]
      exact hru t ht (by omega)
    · have e1 : avs.getD t .top = .top := by simp [List.getD, List.getElem?_eq_none (Nat.le_of_not_lt ht)]
      simp only [e1]
      exact .top _
  obtain ⟨φ2, N2, hI3⟩ := hW.ok hR hI2
  refine ⟨_, results_run (by rw [hr]; exact hus), φ2, N2, hI3.rel, hI3.since, ?_⟩
  have at_ : ∀ t, RA H' φ2 N2 w' (s'' t) ((us.toArray : Array Value).getD t undef) := hI3.tmps
  show RA H' φ2 N2 w' (ares (List.range avs.length) s'') _
  match us, hl with
  | [], hl =>
    have : avs = [] := List.eq_nil_of_length_eq_zero hl
    subst this
    exact .tup _ _ rfl fun i h1 => by simp at h1
  | [u], hl =>
    have : avs.length = 1 := hl
    rw [this]
    exact at_ 0
  | u :: v :: l, hl =>
    have e : ares (List.range avs.length) s'' = .tup ((List.range avs.length).map s'') := ares_many _ (by simp [hl]) s''
    rw [e]
    refine .tup _ _ (by simp [hl]) fun i h1 h2 => ?_
    have := at_ i
    rw [Array.getD_eq_getD_getElem?] at this
    simp only [List.size_toArray] at h2
    rw [List.getElem?_toArray, List.getElem?_eq_getElem h2] at this
    simpa using this
/-- The contract of a function that defers one call, out of its body. -/
theorem Does.of_awpD {P : Program} {hint : Nat → Bool} {f : FuncId} {fn : Func} {pre rest : Code} {id : Nat} {o : Oper} {c : Call} {f0 : Operand} (hf : P.funcs[f]? = some fn) (hn : (fn.name == "runtime.NumGoroutine") = false) (hb : fn.body = some (.seq pre (.seq (.region id #[o] false) rest)))
    (rs : List ResultVar) (hr : fn.results.toList = rs) (ho : o.op = .defer c) (hc : c.callee = .value f0) (hg : o.guard = none) (hd : o.dst = none)
    {args : List AV} {H : AHeap} {res : ARes} {H' : AHeap} (ha : args.length ≤ fn.ntmps)
    (h : awp P hint fn.ntmps H pre (fun e s H1 => match e with
      | .normal => ob (asF (aeval s f0)) fun g => awp P hint fn.ntmps H1 rest (AEndD P rs H res H' g.1 (c.args.toList.map (aeval s) ++ g.2)) s H1
      | _ => False) (ainit args) H) : Does P f args H res H' := by
  intro φ N w vals hR hA
  refine .inl ⟨enter_run hf hn (by rw [hb]; rfl) vals w, calls_of_wp_defers hf hb ?_⟩
  have hI : Inv H φ N w fn.ntmps [] (ainit args) H φ N { tmps := vals ++ Array.replicate (fn.ntmps - vals.size) undef, defers := [] } w :=
    ⟨hR, hA.init _, Since.refl, by simp; have := hA.1; omega, rfl⟩
  refine wp_seq (wp_mono (awp_ok hR pre _ hI h) ?_)
  rintro e a1 w1 ⟨ax, s1, H1, φ1, N1, rfl, hq, hI1⟩
  cases ax with
  | normal =>
    cases hfv : asF (aeval s1 f0) with
    | none => simp only [hfv] at hq; exact hq.elim
    | some gc =>
    obtain ⟨g, caps⟩ := gc
    simp only [hfv, ob_some] at hq
    have hf0 : aeval s1 f0 = .fn g caps := by
      revert hfv
      cases aeval s1 f0 <;> intro h <;> cases h
      rfl
    have hfv' := aeval_ok hI1.tmps f0
    rw [hf0] at hfv'
    generalize hfe : a1.eval f0 = fv at hfv'
    cases hfv' with
    | fn _ _ vs hl hh =>
    have hargs : RAs H1 φ1 N1 w1 (c.args.toList.map (aeval s1) ++ caps) (c.args.map a1.eval ++ vs) := by
      refine ⟨by simp [hl], fun i h1 h2 => ?_⟩
      by_cases hi : i < c.args.size
      · rw [List.getElem_append_left (by simpa using hi), Array.getElem_append_left (by simpa using hi)]
        simp only [List.getElem_map, Array.getElem_map, Array.getElem_toList]
        exact aeval_ok hI1.tmps _
      · rw [List.getElem_append_right (by simpa using hi), Array.getElem_append_right (by simpa using hi)]
        simp only [List.length_map, Array.length_toList, Array.size_map]
        exact hh _ (by simp at h1; omega) (by simp at h2; omega)
    let d : Deferred := { target := .fn (.func g) vs, args := c.args.map a1.eval }
    have hrun : (execOp a1.eval o).run P w1 = .ok (.defer d) w1 := by
      simp [execOp, ho, resolve, hc, hfe, Deferred.ofValue, d]
    have hI1' : Inv H1 φ1 N1 w1 fn.ntmps [d] s1 H1 φ1 N1 { a1 with defers := [d] } w1 := ⟨hI1.rel, hI1.tmps, Since.refl, hI1.size, rfl⟩
    refine wp_seq (wp_region ?_)
    have hwpR := awp_ok hI1.rel rest _ hI1' hq
    have hw : Region.wanted o (yielded #[o] a1.tmps) = true := by simp [Region.wanted, hg]
    show wpOps P #[o] _ [0] a1 w1
    simp only [wpOps, List.getElem?_toArray, List.getElem?_cons_zero, hw, if_true]
    refine .inl ?_
    unfold Oper.wp
    rw [hrun, Oper.upon_defer, hd, hI1.defers]
    show (Code.wp P rest _ { a1 with defers := [d] } w1)
    refine wp_mono hwpR ?_
    rintro e a2 w2 ⟨ax, s2, H2, φ2, N2, rfl, hq2, hI2⟩
    have hargs2 := hargs.since hI1.rel hI2.since
    have run : ∀ u u' H3, u ≠ .run → settle u' = .returning → DoesD P g (c.args.toList.map (aeval s1) ++ caps) H2 u H3 u' → AEndC P rs H res H' .ret s2 H3 →
        Leaves P fn a2.tmps (fun e w' => ∃ φ' N', Rel H' φ' N' w' ∧ Since H φ N w H' φ' N' w' ∧ REnd H' φ' N' w' res e) a2.defers u w2 := by
      intro u u' H3 hu hs hD hE
      obtain ⟨hcall, hC⟩ := hD φ2 N2 w2 _ hI2.rel hargs2
      rw [hI2.defers]
      refine leaves_cons hu (by simpa [invoke] using hcall) (CallsD.mono hC ?_)
      rintro e u1 w3 ⟨⟨v, rfl⟩, rfl, φ3, N3, hR3, hS3⟩
      simp only [hs]
      exact finC hr hR (ds := [d]) (a' := a2) (n := fn.ntmps) ⟨hR3, fun t => (hI2.tmps t).since hI2.rel hS3, hI1.since.trans (hI2.since.trans hS3), hI2.size, hI2.defers⟩ hE
    cases ax with
    | normal =>
      obtain ⟨H3, hD, hE⟩ := hq2
      exact run .returning .returning H3 (by simp) rfl hD hE
    | ret =>
      obtain ⟨H3, hD, hE⟩ := hq2
      exact run .returning .returning H3 (by simp) rfl hD hE
    | exit i => exact hq2.elim
    | panic v =>
      obtain ⟨H3, hD, hE⟩ := hq2
      exact run (mPan v) (mRec v) H3 (by simp [mPan]) rfl hD hE
  | exit i => exact hq.elim
  | ret => exact hq.elim
  | panic v => exact hq.elim
end Go.Proofs.YtcdnbefcccdaeaaAw
namespace Go.Proofs.Ytcdnbefcccdaeaa
open Go.Proofs.YtcdnbefcccdaeaaAw Go.RowKit
set_option linter.unusedVariables false
set_option linter.unusedSimpArgs false
def noS : ByteArray := ⟨#[]⟩
theorem sameV_noS (v : Val) : sameV v.kind v.i v.s 0 0 noS = decide (v = ⟨0, 0, noS⟩) := sameV_eq v ⟨0, 0, noS⟩
theorem noS_toList : noS.toList = [] := by rw [ByteArray.toList_eq]; rfl
theorem toList_nil_size (s : ByteArray) : s.toList = [] ↔ s = noS := ⟨fun h => toList_inj (by rw [h, noS_toList]), fun h => by rw [h]; exact noS_toList⟩
theorem zero_iff (v : Val) (h0 : v.kind = 0) : (v = ⟨0, 0, noS⟩) = (v.i = 0 ∧ v.s.toList = []) := by
  cases v with | mk k i s =>
  simp only at h0
  subst h0
  simp [toList_nil_size]
end Go.Proofs.Ytcdnbefcccdaeaa
namespace Go.Proofs.Ytcdnbefcccdaeaa
open Go.Proofs.YtcdnbefcccdaeaaAw Go.RowKit
set_option linter.unusedVariables false
set_option linter.unusedSimpArgs false
def mayV (v : Val) : Bool := if v.kind = 2 then decide (toU v.i = cleanN (toU v.i)) && decide (v.s.toList = []) else if v.kind = 1 then decide (v.s.toList = []) else if v.kind = 3 then decide (v.i = 0) && decide (v.s.size ≤ 1024) else if v.kind = 0 then decide (v.i = 0) && decide (v.s.toList = []) else false
set_option maxRecDepth 10000 in
set_option maxHeartbeats 1000000 in
theorem mayV_does (v : Val) (H : AHeap) : Does Try.prog 40 [v.av] H (.ok (bA (mayV v))) H := by
  have e0 : ∀ x : ByteArray, (x.toList == (⟨#[]⟩ : ByteArray).toList) = decide (x.toList = []) := fun x => by
    rw [show (⟨#[]⟩ : ByteArray).toList = [] from noS_toList]; rw [Bool.eq_iff_iff]; simp
  refine Does.of_awp (hint := (fun _ => false)) Try.func40 (by kernel_rfl) rfl [2] (by kernel_rfl) (by decide) (by simp [Try.ntmps40]) ?_
  rw [Try.ntmps40]
  by_cases h2 : v.kind = 2
  · simp (implicitDefEqProofs := false) only [↓reduceIte, go_sem, oread, owrite, Nat.reduceAdd, Nat.reduceSub, Nat.reduceMul, Nat.reduceLT, Nat.reduceLeDiff, Nat.reduceEqDiff, Nat.reduceBEq, Int.reduceLE, Int.reduceLT, Int.reduceEq, Int.reduceNe, Int.reduceAdd, Int.reduceSub, Int.reduceMul, Int.reduceNeg, Int.reduceToNat, Int.reduceNatCast, reduceCtorEq, eq_self, h2]
    refine awp_draw K.mixed (by kernel_rfl) ?_
    simp (implicitDefEqProofs := false) only [↓reduceIte, go_sem, oread, owrite, Nat.reduceAdd, Nat.reduceSub, Nat.reduceMul, Nat.reduceLT, Nat.reduceLeDiff, Nat.reduceEqDiff, Nat.reduceBEq, Int.reduceLE, Int.reduceLT, Int.reduceEq, Int.reduceNe, Int.reduceAdd, Int.reduceSub, Int.reduceMul, Int.reduceNeg, Int.reduceToNat, Int.reduceNatCast, reduceCtorEq, eq_self, wrap_toU]
    refine KCall.ok (fclean_does _ (toU_lt _) _) ?_
    simp (implicitDefEqProofs := false) only [↓reduceIte, go_sem, oread, owrite, Nat.reduceAdd, Nat.reduceSub, Nat.reduceMul, Nat.reduceLT, Nat.reduceLeDiff, Nat.reduceEqDiff, Nat.reduceBEq, Int.reduceLE, Int.reduceLT, Int.reduceEq, Int.reduceNe, Int.reduceAdd, Int.reduceSub, Int.reduceMul, Int.reduceNeg, Int.reduceToNat, Int.reduceNatCast, reduceCtorEq, eq_self, e0, Int.natCast_inj]
    cases hc : decide (toU v.i = cleanN (toU v.i)) with
    | true =>
      simp (implicitDefEqProofs := false) only [↓reduceIte, go_sem, oread, owrite, Nat.reduceAdd, Nat.reduceSub, Nat.reduceMul, Nat.reduceLT, Nat.reduceLeDiff, Nat.reduceEqDiff, Nat.reduceBEq, Int.reduceLE, Int.reduceLT, Int.reduceEq, Int.reduceNe, Int.reduceAdd, Int.reduceSub, Int.reduceMul, Int.reduceNeg, Int.reduceToNat, Int.reduceNatCast, reduceCtorEq, eq_self, hc, e0]
      refine AEnd.ret ?_
      simp (implicitDefEqProofs := false) only [↓reduceIte, go_sem, oread, owrite, Nat.reduceAdd, Nat.reduceSub, Nat.reduceMul, Nat.reduceLT, Nat.reduceLeDiff, Nat.reduceEqDiff, Nat.reduceBEq, Int.reduceLE, Int.reduceLT, Int.reduceEq, Int.reduceNe, Int.reduceAdd, Int.reduceSub, Int.reduceMul, Int.reduceNeg, Int.reduceToNat, Int.reduceNatCast, reduceCtorEq, eq_self, mayV, h2, hc]
    | false =>
      simp (implicitDefEqProofs := false) only [↓reduceIte, go_sem, oread, owrite, Nat.reduceAdd, Nat.reduceSub, Nat.reduceMul, Nat.reduceLT, Nat.reduceLeDiff, Nat.reduceEqDiff, Nat.reduceBEq, Int.reduceLE, Int.reduceLT, Int.reduceEq, Int.reduceNe, Int.reduceAdd, Int.reduceSub, Int.reduceMul, Int.reduceNeg, Int.reduceToNat, Int.reduceNatCast, reduceCtorEq, eq_self, hc, e0]
      refine AEnd.ret ?_
      simp (implicitDefEqProofs := false) only [↓reduceIte, go_sem, oread, owrite, Nat.reduceAdd, Nat.reduceSub, Nat.reduceMul, Nat.reduceLT, Nat.reduceLeDiff, Nat.reduceEqDiff, Nat.reduceBEq, Int.reduceLE, Int.reduceLT, Int.reduceEq, Int.reduceNe, Int.reduceAdd, Int.reduceSub, Int.reduceMul, Int.reduceNeg, Int.reduceToNat, Int.reduceNatCast, reduceCtorEq, eq_self, mayV, h2, hc]
  by_cases h1 : v.kind = 1
  · simp (implicitDefEqProofs := false) only [↓reduceIte, go_sem, oread, owrite, Nat.reduceAdd, Nat.reduceSub, Nat.reduceMul, Nat.reduceLT, Nat.reduceLeDiff, Nat.reduceEqDiff, Nat.reduceBEq, Int.reduceLE, Int.reduceLT, Int.reduceEq, Int.reduceNe, Int.reduceAdd, Int.reduceSub, Int.reduceMul, Int.reduceNeg, Int.reduceToNat, Int.reduceNatCast, reduceCtorEq, eq_self, h1, e0]
    refine AEnd.ret ?_
    simp (implicitDefEqProofs := false) only [↓reduceIte, go_sem, oread, owrite, Nat.reduceAdd, Nat.reduceSub, Nat.reduceMul, Nat.reduceLT, Nat.reduceLeDiff, Nat.reduceEqDiff, Nat.reduceBEq, Int.reduceLE, Int.reduceLT, Int.reduceEq, Int.reduceNe, Int.reduceAdd, Int.reduceSub, Int.reduceMul, Int.reduceNeg, Int.reduceToNat, Int.reduceNatCast, reduceCtorEq, eq_self, mayV, h1]
  by_cases h3 : v.kind = 3
  · by_cases hi : v.i = 0
    · simp (implicitDefEqProofs := false) only [↓reduceIte, go_sem, oread, owrite, Nat.reduceAdd, Nat.reduceSub, Nat.reduceMul, Nat.reduceLT, Nat.reduceLeDiff, Nat.reduceEqDiff, Nat.reduceBEq, Int.reduceLE, Int.reduceLT, Int.reduceEq, Int.reduceNe, Int.reduceAdd, Int.reduceSub, Int.reduceMul, Int.reduceNeg, Int.reduceToNat, Int.reduceNatCast, reduceCtorEq, eq_self, h3, hi]
      refine AEnd.ret ?_
      simp (implicitDefEqProofs := false) only [↓reduceIte, go_sem, oread, owrite, Nat.reduceAdd, Nat.reduceSub, Nat.reduceMul, Nat.reduceLT, Nat.reduceLeDiff, Nat.reduceEqDiff, Nat.reduceBEq, Int.reduceLE, Int.reduceLT, Int.reduceEq, Int.reduceNe, Int.reduceAdd, Int.reduceSub, Int.reduceMul, Int.reduceNeg, Int.reduceToNat, Int.reduceNatCast, reduceCtorEq, eq_self, mayV, h3, hi, show ((v.s.size : Int) ≤ 1024) = (v.s.size ≤ 1024) from by simp; omega]
    · simp (implicitDefEqProofs := false) only [↓reduceIte, go_sem, oread, owrite, Nat.reduceAdd, Nat.reduceSub, Nat.reduceMul, Nat.reduceLT, Nat.reduceLeDiff, Nat.reduceEqDiff, Nat.reduceBEq, Int.reduceLE, Int.reduceLT, Int.reduceEq, Int.reduceNe, Int.reduceAdd, Int.reduceSub, Int.reduceMul, Int.reduceNeg, Int.reduceToNat, Int.reduceNatCast, reduceCtorEq, eq_self, h3, hi]
      refine AEnd.ret ?_
      simp (implicitDefEqProofs := false) only [↓reduceIte, go_sem, oread, owrite, Nat.reduceAdd, Nat.reduceSub, Nat.reduceMul, Nat.reduceLT, Nat.reduceLeDiff, Nat.reduceEqDiff, Nat.reduceBEq, Int.reduceLE, Int.reduceLT, Int.reduceEq, Int.reduceNe, Int.reduceAdd, Int.reduceSub, Int.reduceMul, Int.reduceNeg, Int.reduceToNat, Int.reduceNatCast, reduceCtorEq, eq_self, mayV, h3, hi]
  by_cases h0 : v.kind = 0
  · have e1 : sameV v.kind v.i v.s 0 0 ⟨#[]⟩ = (decide (v.i = 0) && decide (v.s.toList = [])) := by
      rw [show sameV v.kind v.i v.s 0 0 ⟨#[]⟩ = decide (v = ⟨0, 0, noS⟩) from sameV_noS v]
      simp only [zero_iff v h0, Bool.decide_and]
    simp (implicitDefEqProofs := false) only [↓reduceIte, go_sem, oread, owrite, Nat.reduceAdd, Nat.reduceSub, Nat.reduceMul, Nat.reduceLT, Nat.reduceLeDiff, Nat.reduceEqDiff, Nat.reduceBEq, Int.reduceLE, Int.reduceLT, Int.reduceEq, Int.reduceNe, Int.reduceAdd, Int.reduceSub, Int.reduceMul, Int.reduceNeg, Int.reduceToNat, Int.reduceNatCast, reduceCtorEq, eq_self, h1, h2, h3, eq_true h0, e1]
    refine AEnd.ret ?_
    simp (implicitDefEqProofs := false) only [↓reduceIte, go_sem, oread, owrite, Nat.reduceAdd, Nat.reduceSub, Nat.reduceMul, Nat.reduceLT, Nat.reduceLeDiff, Nat.reduceEqDiff, Nat.reduceBEq, Int.reduceLE, Int.reduceLT, Int.reduceEq, Int.reduceNe, Int.reduceAdd, Int.reduceSub, Int.reduceMul, Int.reduceNeg, Int.reduceToNat, Int.reduceNatCast, reduceCtorEq, eq_self, mayV, h1, h2, h3, eq_true h0]
  simp (implicitDefEqProofs := false) only [↓reduceIte, go_sem, oread, owrite, Nat.reduceAdd, Nat.reduceSub, Nat.reduceMul, Nat.reduceLT, Nat.reduceLeDiff, Nat.reduceEqDiff, Nat.reduceBEq, Int.reduceLE, Int.reduceLT, Int.reduceEq, Int.reduceNe, Int.reduceAdd, Int.reduceSub, Int.reduceMul, Int.reduceNeg, Int.reduceToNat, Int.reduceNatCast, reduceCtorEq, eq_self, h0, h1, h2, h3]
  refine AEnd.ret ?_
  simp (implicitDefEqProofs := false) only [↓reduceIte, go_sem, oread, owrite, Nat.reduceAdd, Nat.reduceSub, Nat.reduceMul, Nat.reduceLT, Nat.reduceLeDiff, Nat.reduceEqDiff, Nat.reduceBEq, Int.reduceLE, Int.reduceLT, Int.reduceEq, Int.reduceNe, Int.reduceAdd, Int.reduceSub, Int.reduceMul, Int.reduceNeg, Int.reduceToNat, Int.reduceNatCast, reduceCtorEq, eq_self, mayV, h0, h1, h2, h3]
end Go.Proofs.Ytcdnbefcccdaeaa
namespace Go.Proofs.Ytcdnbefcccdaeaa
open Go.Proofs.YtcdnbefcccdaeaaAw Go.RowKit
set_option linter.unusedVariables false
set_option linter.unusedSimpArgs false
def idxP {α : Type} (p : α → Bool) (l : List α) : Int := if l.any p then (l.findIdx p : Nat) else -1
theorem idxP_hit {α : Type} {p : α → Bool} {l : List α} {k : Nat} (h : ∀ i (hi : i < k) (hl : i < l.length), p l[i] = false) (hk : k < l.length) (hp : p l[k] = true) : idxP p l = k := by
  unfold idxP
  rw [if_pos (List.any_eq_true.2 ⟨l[k], List.getElem_mem hk, hp⟩)]
  congr 1
  exact (List.findIdx_eq hk).2 ⟨hp, fun j hj => h j hj (by omega)⟩
theorem any_none {α : Type} {p : α → Bool} {l : List α} (h : ∀ i (hi : i < l.length), p l[i] = false) : l.any p = false := by
  rw [List.any_eq_false]
  intro x hx
  obtain ⟨i, hi, rfl⟩ := List.mem_iff_getElem.1 hx
  simp [h i hi]
theorem any_hit {α : Type} {p : α → Bool} {l : List α} {k : Nat} (hk : k < l.length) (h : p l[k] = true) : l.any p = true := List.any_eq_true.2 ⟨l[k], List.getElem_mem hk, h⟩
theorem idxP_none {α : Type} {p : α → Bool} {l : List α} (h : ∀ i (hi : i < l.length), p l[i] = false) : idxP p l = -1 := by
  unfold idxP
  rw [any_none h]
  rfl
theorem idxP_pos {α : Type} (p : α → Bool) (l : List α) : (0 ≤ idxP p l) = (l.any p = true) := by
  unfold idxP
  cases h : l.any p with
  | true => simp
  | false => simp
set_option maxRecDepth 10000 in
set_option maxHeartbeats 1000000 in
theorem indexV_does (l : List Val) (p : Val → Bool) (g : FuncId) (caps : List AV) (n1 : Bool) (H : AHeap) (hl : l.length ≤ 9223372036854775807) (hf : ∀ v ∈ l, Does Try.prog g ([v.av] ++ caps) H (.ok (bA (p v))) H) :
    Does Try.prog 65 [.d (.list n1 (l.map Val.enc)), .fn g caps] H (.ok (iA (idxP p l))) H := by
  refine Does.of_awp (hint := (fun _ => false)) Try.func65 (by kernel_rfl) rfl [4] (by kernel_rfl) (by decide) (by simp [Try.ntmps65]) ?_
  rw [Try.ntmps65]
  simp (implicitDefEqProofs := false) only [↓reduceIte, go_sem, oread, owrite, Nat.reduceAdd, Nat.reduceSub, Nat.reduceMul, Nat.reduceLT, Nat.reduceLeDiff, Nat.reduceEqDiff, Nat.reduceBEq, Int.reduceLE, Int.reduceLT, Int.reduceEq, Int.reduceNe, Int.reduceAdd, Int.reduceSub, Int.reduceMul, Int.reduceNeg, Int.reduceToNat, Int.reduceNatCast, reduceCtorEq, eq_self]
  refine awp_for (fun k s H' => H' = H ∧ (∀ i (hi : i < k) (hl : i < l.length), p l[i] = false) ∧ s 0 = .d (.list n1 (l.map Val.enc)) ∧ s 1 = .fn g caps ∧ s 7 = iA l.length ∧ s 8 = iA k) l.length hl (Weak.refl _ _) ?_ ?_ ?_
  · refine ⟨rfl, fun i hi => by omega, ?_⟩
    simp (implicitDefEqProofs := false) only [↓reduceIte, go_sem, oread, owrite, Nat.reduceAdd, Nat.reduceSub, Nat.reduceMul, Nat.reduceLT, Nat.reduceLeDiff, Nat.reduceEqDiff, Nat.reduceBEq, Int.reduceLE, Int.reduceLT, Int.reduceEq, Int.reduceNe, Int.reduceAdd, Int.reduceSub, Int.reduceMul, Int.reduceNeg, Int.reduceToNat, Int.reduceNatCast, reduceCtorEq, eq_self]
  · rintro k s H' hk hw ⟨rfl, hp, h0, h1, h7, h8⟩
    have hx := List.getElem?_eq_getElem hk
    have hit : p l[k] = true → idxP p l = k := fun h => idxP_hit hp hk h
    have hpp : p l[k] = false → ∀ i (hi : i < k + 1) (hl : i < l.length), p l[i] = false := fun h0 i hi hl' => by
      rcases Nat.lt_or_ge i k with h | h
      · exact hp i h hl'
      · obtain rfl : i = k := by omega
        exact h0
    have hfk := hf l[k] (List.getElem_mem hk)
    generalize l[k] = v at hx hit hpp hfk
    simp (implicitDefEqProofs := false) only [↓reduceIte, go_sem, oread, owrite, Nat.reduceAdd, Nat.reduceSub, Nat.reduceMul, Nat.reduceLT, Nat.reduceLeDiff, Nat.reduceEqDiff, Nat.reduceBEq, Int.reduceLE, Int.reduceLT, Int.reduceEq, Int.reduceNe, Int.reduceAdd, Int.reduceSub, Int.reduceMul, Int.reduceNeg, Int.reduceToNat, Int.reduceNatCast, reduceCtorEq, eq_self, h0, h1, h7, h8, hk, hx, Val.enc]
    refine KCall.ok hfk ?_
    cases hv : p v with
    | true =>
      simp (implicitDefEqProofs := false) only [↓reduceIte, go_sem, oread, owrite, Nat.reduceAdd, Nat.reduceSub, Nat.reduceMul, Nat.reduceLT, Nat.reduceLeDiff, Nat.reduceEqDiff, Nat.reduceBEq, Int.reduceLE, Int.reduceLT, Int.reduceEq, Int.reduceNe, Int.reduceAdd, Int.reduceSub, Int.reduceMul, Int.reduceNeg, Int.reduceToNat, Int.reduceNatCast, reduceCtorEq, eq_self]
      refine AEnd.ret0 ?_
      simp (implicitDefEqProofs := false) only [↓reduceIte, go_sem, oread, owrite, Nat.reduceAdd, Nat.reduceSub, Nat.reduceMul, Nat.reduceLT, Nat.reduceLeDiff, Nat.reduceEqDiff, Nat.reduceBEq, Int.reduceLE, Int.reduceLT, Int.reduceEq, Int.reduceNe, Int.reduceAdd, Int.reduceSub, Int.reduceMul, Int.reduceNeg, Int.reduceToNat, Int.reduceNatCast, reduceCtorEq, eq_self, hit hv]
    | false =>
      simp (implicitDefEqProofs := false) only [↓reduceIte, go_sem, oread, owrite, Nat.reduceAdd, Nat.reduceSub, Nat.reduceMul, Nat.reduceLT, Nat.reduceLeDiff, Nat.reduceEqDiff, Nat.reduceBEq, Int.reduceLE, Int.reduceLT, Int.reduceEq, Int.reduceNe, Int.reduceAdd, Int.reduceSub, Int.reduceMul, Int.reduceNeg, Int.reduceToNat, Int.reduceNatCast, reduceCtorEq, eq_self, h8]
      refine Rnd.same ⟨rfl, hpp hv, ?_⟩
      simp (implicitDefEqProofs := false) only [↓reduceIte, go_sem, oread, owrite, Nat.reduceAdd, Nat.reduceSub, Nat.reduceMul, Nat.reduceLT, Nat.reduceLeDiff, Nat.reduceEqDiff, Nat.reduceBEq, Int.reduceLE, Int.reduceLT, Int.reduceEq, Int.reduceNe, Int.reduceAdd, Int.reduceSub, Int.reduceMul, Int.reduceNeg, Int.reduceToNat, Int.reduceNatCast, reduceCtorEq, eq_self, h0, h1, h7, hw]
  · rintro s H' ⟨rfl, hp, h0, h1, h7, h8⟩
    simp (implicitDefEqProofs := false) only [↓reduceIte, go_sem, oread, owrite, Nat.reduceAdd, Nat.reduceSub, Nat.reduceMul, Nat.reduceLT, Nat.reduceLeDiff, Nat.reduceEqDiff, Nat.reduceBEq, Int.reduceLE, Int.reduceLT, Int.reduceEq, Int.reduceNe, Int.reduceAdd, Int.reduceSub, Int.reduceMul, Int.reduceNeg, Int.reduceToNat, Int.reduceNatCast, reduceCtorEq, eq_self, h7, h8]
    refine AEnd.ret0 ?_
    simp (implicitDefEqProofs := false) only [↓reduceIte, go_sem, oread, owrite, Nat.reduceAdd, Nat.reduceSub, Nat.reduceMul, Nat.reduceLT, Nat.reduceLeDiff, Nat.reduceEqDiff, Nat.reduceBEq, Int.reduceLE, Int.reduceLT, Int.reduceEq, Int.reduceNe, Int.reduceAdd, Int.reduceSub, Int.reduceMul, Int.reduceNeg, Int.reduceToNat, Int.reduceNatCast, reduceCtorEq, eq_self, idxP_none fun i hi => hp i hi hi]
set_option maxRecDepth 10000 in
theorem containsV_does (l : List Val) (p : Val → Bool) (g : FuncId) (caps : List AV) (n1 : Bool) (H : AHeap) (hl : l.length ≤ 9223372036854775807) (hf : ∀ v ∈ l, Does Try.prog g ([v.av] ++ caps) H (.ok (bA (p v))) H) :
    Does Try.prog 42 [.d (.list n1 (l.map Val.enc)), .fn g caps] H (.ok (bA (l.any p))) H := by
  refine Does.of_awp (hint := (fun _ => false)) Try.func42 (by kernel_rfl) rfl [4] (by kernel_rfl) (by decide) (by simp [Try.ntmps42]) ?_
  rw [Try.ntmps42]
  simp (implicitDefEqProofs := false) only [↓reduceIte, go_sem, oread, owrite, Nat.reduceAdd, Nat.reduceSub, Nat.reduceMul, Nat.reduceLT, Nat.reduceLeDiff, Nat.reduceEqDiff, Nat.reduceBEq, Int.reduceLE, Int.reduceLT, Int.reduceEq, Int.reduceNe, Int.reduceAdd, Int.reduceSub, Int.reduceMul, Int.reduceNeg, Int.reduceToNat, Int.reduceNatCast, reduceCtorEq, eq_self]
  refine KCall.ok (indexV_does l p g caps n1 H hl hf) ?_
  simp (implicitDefEqProofs := false) only [↓reduceIte, go_sem, oread, owrite, Nat.reduceAdd, Nat.reduceSub, Nat.reduceMul, Nat.reduceLT, Nat.reduceLeDiff, Nat.reduceEqDiff, Nat.reduceBEq, Int.reduceLE, Int.reduceLT, Int.reduceEq, Int.reduceNe, Int.reduceAdd, Int.reduceSub, Int.reduceMul, Int.reduceNeg, Int.reduceToNat, Int.reduceNatCast, reduceCtorEq, eq_self, idxP_pos]
  refine AEnd.ret0 ?_
  simp (implicitDefEqProofs := false) only [↓reduceIte, go_sem, oread, owrite, Nat.reduceAdd, Nat.reduceSub, Nat.reduceMul, Nat.reduceLT, Nat.reduceLeDiff, Nat.reduceEqDiff, Nat.reduceBEq, Int.reduceLE, Int.reduceLT, Int.reduceEq, Int.reduceNe, Int.reduceAdd, Int.reduceSub, Int.reduceMul, Int.reduceNeg, Int.reduceToNat, Int.reduceNatCast, reduceCtorEq, eq_self, Bool.decide_eq_true]
end Go.Proofs.Ytcdnbefcccdaeaa
namespace Go.Proofs.Ytcdnbefcccdaeaa
open Go.Proofs.YtcdnbefcccdaeaaAw Go.RowKit
set_option linter.unusedVariables false
set_option linter.unusedSimpArgs false
def kindsP (k : Int) : Bool := decide (1 ≤ k) && decide (k ≤ 3)
set_option maxRecDepth 10000 in
theorem kinds_does (k : Int) (H : AHeap) : Does Try.prog 41 [iA k] H (.ok (bA (kindsP k))) H := by
  refine Does.of_awp (hint := (fun _ => false)) Try.func41 (by kernel_rfl) rfl [2] (by kernel_rfl) (by decide) (by simp [Try.ntmps41]) ?_
  rw [Try.ntmps41]
  by_cases h : 1 ≤ k
  · simp (implicitDefEqProofs := false) only [↓reduceIte, go_sem, oread, owrite, Nat.reduceAdd, Nat.reduceSub, Nat.reduceMul, Nat.reduceLT, Nat.reduceLeDiff, Nat.reduceEqDiff, Nat.reduceBEq, Int.reduceLE, Int.reduceLT, Int.reduceEq, Int.reduceNe, Int.reduceAdd, Int.reduceSub, Int.reduceMul, Int.reduceNeg, Int.reduceToNat, Int.reduceNatCast, reduceCtorEq, eq_self, h]
    refine AEnd.ret0 ?_
    simp (implicitDefEqProofs := false) only [↓reduceIte, go_sem, oread, owrite, Nat.reduceAdd, Nat.reduceSub, Nat.reduceMul, Nat.reduceLT, Nat.reduceLeDiff, Nat.reduceEqDiff, Nat.reduceBEq, Int.reduceLE, Int.reduceLT, Int.reduceEq, Int.reduceNe, Int.reduceAdd, Int.reduceSub, Int.reduceMul, Int.reduceNeg, Int.reduceToNat, Int.reduceNatCast, reduceCtorEq, eq_self, kindsP, h]
  · simp (implicitDefEqProofs := false) only [↓reduceIte, go_sem, oread, owrite, Nat.reduceAdd, Nat.reduceSub, Nat.reduceMul, Nat.reduceLT, Nat.reduceLeDiff, Nat.reduceEqDiff, Nat.reduceBEq, Int.reduceLE, Int.reduceLT, Int.reduceEq, Int.reduceNe, Int.reduceAdd, Int.reduceSub, Int.reduceMul, Int.reduceNeg, Int.reduceToNat, Int.reduceNatCast, reduceCtorEq, eq_self, h]
    refine AEnd.ret0 ?_
    simp (implicitDefEqProofs := false) only [↓reduceIte, go_sem, oread, owrite, Nat.reduceAdd, Nat.reduceSub, Nat.reduceMul, Nat.reduceLT, Nat.reduceLeDiff, Nat.reduceEqDiff, Nat.reduceBEq, Int.reduceLE, Int.reduceLT, Int.reduceEq, Int.reduceNe, Int.reduceAdd, Int.reduceSub, Int.reduceMul, Int.reduceNeg, Int.reduceToNat, Int.reduceNatCast, reduceCtorEq, eq_self, kindsP, h]
def plainP (l : List Val) (k : Int) : Int := if !kindsP k then 1 else if 4096 < l.length then 2 else if l.any (fun v => !decide (v.kind = k)) then 7 else if l.any (fun v => !mayV v) then 1 else 0
set_option maxRecDepth 10000 in
theorem plain1_does (v : Val) (k : Int) (id : Nat) (H : AHeap) (hb : H[id]? = some (.box 3 1 0 1 [iA k])) : Does Try.prog 38 [v.av, .ptr id 0 0 0] H (.ok (bA (!decide (v.kind = k)))) H := by
  have hlt : id < H.length := (List.getElem?_eq_some_iff.1 hb).1
  refine Does.of_awp (hint := (fun _ => false)) Try.func38 (by kernel_rfl) rfl [3] (by kernel_rfl) (by decide) (by simp [Try.ntmps38]) ?_
  rw [Try.ntmps38]
  simp (implicitDefEqProofs := false) only [↓reduceIte, go_sem, oread, owrite, Nat.reduceAdd, Nat.reduceSub, Nat.reduceMul, Nat.reduceLT, Nat.reduceLeDiff, Nat.reduceEqDiff, Nat.reduceBEq, Int.reduceLE, Int.reduceLT, Int.reduceEq, Int.reduceNe, Int.reduceAdd, Int.reduceSub, Int.reduceMul, Int.reduceNeg, Int.reduceToNat, Int.reduceNatCast, reduceCtorEq, eq_self, hb, List.getElem?_append_left hlt]
  refine AEnd.ret ?_
  simp (implicitDefEqProofs := false) only [↓reduceIte, go_sem, oread, owrite, Nat.reduceAdd, Nat.reduceSub, Nat.reduceMul, Nat.reduceLT, Nat.reduceLeDiff, Nat.reduceEqDiff, Nat.reduceBEq, Int.reduceLE, Int.reduceLT, Int.reduceEq, Int.reduceNe, Int.reduceAdd, Int.reduceSub, Int.reduceMul, Int.reduceNeg, Int.reduceToNat, Int.reduceNatCast, reduceCtorEq, eq_self]
set_option maxRecDepth 10000 in
theorem plain2_does (v : Val) (H : AHeap) : Does Try.prog 39 [v.av] H (.ok (bA (!mayV v))) H := by
  refine Does.of_awp (hint := (fun _ => false)) Try.func39 (by kernel_rfl) rfl [2] (by kernel_rfl) (by decide) (by simp [Try.ntmps39]) ?_
  rw [Try.ntmps39]
  simp (implicitDefEqProofs := false) only [↓reduceIte, go_sem, oread, owrite, Nat.reduceAdd, Nat.reduceSub, Nat.reduceMul, Nat.reduceLT, Nat.reduceLeDiff, Nat.reduceEqDiff, Nat.reduceBEq, Int.reduceLE, Int.reduceLT, Int.reduceEq, Int.reduceNe, Int.reduceAdd, Int.reduceSub, Int.reduceMul, Int.reduceNeg, Int.reduceToNat, Int.reduceNatCast, reduceCtorEq, eq_self]
  refine KCall.ok (mayV_does v _) ?_
  simp (implicitDefEqProofs := false) only [↓reduceIte, go_sem, oread, owrite, Nat.reduceAdd, Nat.reduceSub, Nat.reduceMul, Nat.reduceLT, Nat.reduceLeDiff, Nat.reduceEqDiff, Nat.reduceBEq, Int.reduceLE, Int.reduceLT, Int.reduceEq, Int.reduceNe, Int.reduceAdd, Int.reduceSub, Int.reduceMul, Int.reduceNeg, Int.reduceToNat, Int.reduceNatCast, reduceCtorEq, eq_self]
  refine AEnd.ret ?_
  simp (implicitDefEqProofs := false) only [↓reduceIte, go_sem, oread, owrite, Nat.reduceAdd, Nat.reduceSub, Nat.reduceMul, Nat.reduceLT, Nat.reduceLeDiff, Nat.reduceEqDiff, Nat.reduceBEq, Int.reduceLE, Int.reduceLT, Int.reduceEq, Int.reduceNe, Int.reduceAdd, Int.reduceSub, Int.reduceMul, Int.reduceNeg, Int.reduceToNat, Int.reduceNatCast, reduceCtorEq, eq_self]
set_option maxRecDepth 10000 in
set_option maxHeartbeats 1000000 in
theorem plain_does (l : List Val) (k : Int) (nn : Bool) (H : AHeap) (hl : l.length ≤ 9223372036854775807) : Does Try.prog 20 [.d (.list nn (l.map Val.enc)), iA k] H (.ok (iA (plainP l k))) H := by
  refine Does.of_awp (hint := (fun _ => false)) Try.func20 (by kernel_rfl) rfl [4] (by kernel_rfl) (by decide) (by simp [Try.ntmps20]) ?_
  rw [Try.ntmps20]
  simp (implicitDefEqProofs := false) only [↓reduceIte, go_sem, oread, owrite, Nat.reduceAdd, Nat.reduceSub, Nat.reduceMul, Nat.reduceLT, Nat.reduceLeDiff, Nat.reduceEqDiff, Nat.reduceBEq, Int.reduceLE, Int.reduceLT, Int.reduceEq, Int.reduceNe, Int.reduceAdd, Int.reduceSub, Int.reduceMul, Int.reduceNeg, Int.reduceToNat, Int.reduceNatCast, reduceCtorEq, eq_self]
  refine KCall.ok (kinds_does k _) ?_
  cases h1 : kindsP k with
  | false =>
    simp (implicitDefEqProofs := false) only [↓reduceIte, go_sem, oread, owrite, Nat.reduceAdd, Nat.reduceSub, Nat.reduceMul, Nat.reduceLT, Nat.reduceLeDiff, Nat.reduceEqDiff, Nat.reduceBEq, Int.reduceLE, Int.reduceLT, Int.reduceEq, Int.reduceNe, Int.reduceAdd, Int.reduceSub, Int.reduceMul, Int.reduceNeg, Int.reduceToNat, Int.reduceNatCast, reduceCtorEq, eq_self]
    refine AEnd.ret ?_
    simp (implicitDefEqProofs := false) only [↓reduceIte, go_sem, oread, owrite, Nat.reduceAdd, Nat.reduceSub, Nat.reduceMul, Nat.reduceLT, Nat.reduceLeDiff, Nat.reduceEqDiff, Nat.reduceBEq, Int.reduceLE, Int.reduceLT, Int.reduceEq, Int.reduceNe, Int.reduceAdd, Int.reduceSub, Int.reduceMul, Int.reduceNeg, Int.reduceToNat, Int.reduceNatCast, reduceCtorEq, eq_self, plainP, h1]
  | true =>
    by_cases h2 : 4096 < l.length
    · simp (implicitDefEqProofs := false) only [↓reduceIte, go_sem, oread, owrite, Nat.reduceAdd, Nat.reduceSub, Nat.reduceMul, Nat.reduceLT, Nat.reduceLeDiff, Nat.reduceEqDiff, Nat.reduceBEq, Int.reduceLE, Int.reduceLT, Int.reduceEq, Int.reduceNe, Int.reduceAdd, Int.reduceSub, Int.reduceMul, Int.reduceNeg, Int.reduceToNat, Int.reduceNatCast, reduceCtorEq, eq_self, h2, show ((4096 : Int) < (l.length : Int)) = True from eq_true (by omega)]
      refine AEnd.ret ?_
      simp (implicitDefEqProofs := false) only [↓reduceIte, go_sem, oread, owrite, Nat.reduceAdd, Nat.reduceSub, Nat.reduceMul, Nat.reduceLT, Nat.reduceLeDiff, Nat.reduceEqDiff, Nat.reduceBEq, Int.reduceLE, Int.reduceLT, Int.reduceEq, Int.reduceNe, Int.reduceAdd, Int.reduceSub, Int.reduceMul, Int.reduceNeg, Int.reduceToNat, Int.reduceNatCast, reduceCtorEq, eq_self, plainP, h1, h2, Bool.false_eq_true]
    · simp (implicitDefEqProofs := false) only [↓reduceIte, go_sem, oread, owrite, Nat.reduceAdd, Nat.reduceSub, Nat.reduceMul, Nat.reduceLT, Nat.reduceLeDiff, Nat.reduceEqDiff, Nat.reduceBEq, Int.reduceLE, Int.reduceLT, Int.reduceEq, Int.reduceNe, Int.reduceAdd, Int.reduceSub, Int.reduceMul, Int.reduceNeg, Int.reduceToNat, Int.reduceNatCast, reduceCtorEq, eq_self, h2, show ((4096 : Int) < (l.length : Int)) = False from eq_false (by omega)]
      refine KCall.ok (containsV_does l (fun v => !decide (v.kind = k)) _ _ nn _ hl fun v _ => plain1_does v k _ _ (by simp)) ?_
      cases h3 : l.any (fun v => !decide (v.kind = k)) with
      | true =>
        simp (implicitDefEqProofs := false) only [↓reduceIte, go_sem, oread, owrite, Nat.reduceAdd, Nat.reduceSub, Nat.reduceMul, Nat.reduceLT, Nat.reduceLeDiff, Nat.reduceEqDiff, Nat.reduceBEq, Int.reduceLE, Int.reduceLT, Int.reduceEq, Int.reduceNe, Int.reduceAdd, Int.reduceSub, Int.reduceMul, Int.reduceNeg, Int.reduceToNat, Int.reduceNatCast, reduceCtorEq, eq_self]
        refine AEnd.ret ?_
        simp (implicitDefEqProofs := false) only [↓reduceIte, go_sem, oread, owrite, Nat.reduceAdd, Nat.reduceSub, Nat.reduceMul, Nat.reduceLT, Nat.reduceLeDiff, Nat.reduceEqDiff, Nat.reduceBEq, Int.reduceLE, Int.reduceLT, Int.reduceEq, Int.reduceNe, Int.reduceAdd, Int.reduceSub, Int.reduceMul, Int.reduceNeg, Int.reduceToNat, Int.reduceNatCast, reduceCtorEq, eq_self, plainP, h1, h2, h3, Bool.false_eq_true]
      | false =>
        simp (implicitDefEqProofs := false) only [↓reduceIte, go_sem, oread, owrite, Nat.reduceAdd, Nat.reduceSub, Nat.reduceMul, Nat.reduceLT, Nat.reduceLeDiff, Nat.reduceEqDiff, Nat.reduceBEq, Int.reduceLE, Int.reduceLT, Int.reduceEq, Int.reduceNe, Int.reduceAdd, Int.reduceSub, Int.reduceMul, Int.reduceNeg, Int.reduceToNat, Int.reduceNatCast, reduceCtorEq, eq_self]
        refine KCall.ok (containsV_does l (fun v => !mayV v) _ _ nn _ hl fun v _ => plain2_does v _) ?_
        cases h4 : l.any (fun v => !mayV v) with
        | true =>
          simp (implicitDefEqProofs := false) only [↓reduceIte, go_sem, oread, owrite, Nat.reduceAdd, Nat.reduceSub, Nat.reduceMul, Nat.reduceLT, Nat.reduceLeDiff, Nat.reduceEqDiff, Nat.reduceBEq, Int.reduceLE, Int.reduceLT, Int.reduceEq, Int.reduceNe, Int.reduceAdd, Int.reduceSub, Int.reduceMul, Int.reduceNeg, Int.reduceToNat, Int.reduceNatCast, reduceCtorEq, eq_self]
          refine AEnd.ret ?_
          simp (implicitDefEqProofs := false) only [↓reduceIte, go_sem, oread, owrite, Nat.reduceAdd, Nat.reduceSub, Nat.reduceMul, Nat.reduceLT, Nat.reduceLeDiff, Nat.reduceEqDiff, Nat.reduceBEq, Int.reduceLE, Int.reduceLT, Int.reduceEq, Int.reduceNe, Int.reduceAdd, Int.reduceSub, Int.reduceMul, Int.reduceNeg, Int.reduceToNat, Int.reduceNatCast, reduceCtorEq, eq_self, plainP, h1, h2, h3, h4, Bool.false_eq_true]
        | false =>
          simp (implicitDefEqProofs := false) only [↓reduceIte, go_sem, oread, owrite, Nat.reduceAdd, Nat.reduceSub, Nat.reduceMul, Nat.reduceLT, Nat.reduceLeDiff, Nat.reduceEqDiff, Nat.reduceBEq, Int.reduceLE, Int.reduceLT, Int.reduceEq, Int.reduceNe, Int.reduceAdd, Int.reduceSub, Int.reduceMul, Int.reduceNeg, Int.reduceToNat, Int.reduceNatCast, reduceCtorEq, eq_self]
          refine AEnd.ret ?_
          simp (implicitDefEqProofs := false) only [↓reduceIte, go_sem, oread, owrite, Nat.reduceAdd, Nat.reduceSub, Nat.reduceMul, Nat.reduceLT, Nat.reduceLeDiff, Nat.reduceEqDiff, Nat.reduceBEq, Int.reduceLE, Int.reduceLT, Int.reduceEq, Int.reduceNe, Int.reduceAdd, Int.reduceSub, Int.reduceMul, Int.reduceNeg, Int.reduceToNat, Int.reduceNatCast, reduceCtorEq, eq_self, plainP, h1, h2, h3, h4, Bool.false_eq_true]
end Go.Proofs.Ytcdnbefcccdaeaa
namespace Go.Proofs.Ytcdnbefcccdaeaa
open Go.Proofs.YtcdnbefcccdaeaaAw Go.RowKit
set_option linter.unusedVariables false
set_option linter.unusedSimpArgs false
def zigP (n : Int) : Nat := if 0 ≤ n then (2 * n).toNat else (-2 * n - 1).toNat
theorem wrapU (n : Int) : IntKind.u64.wrap n = n % 18446744073709551616 := by simp [IntKind.wrap, IntKind.signed, IntKind.bits]
theorem xorAll (c : Nat) (h : c < 18446744073709551616) : c ^^^ 18446744073709551615 = 18446744073709551615 - c := by
  have := Nat.testBit_two_pow_sub_succ (x := c) (n := 64) h
  apply Nat.eq_of_testBit_eq
  intro i
  rw [Nat.testBit_xor]
  have h2 := this i
  rw [show 2 ^ 64 - (c + 1) = 18446744073709551615 - c from by omega] at h2
  rw [h2]
  have h3 : (18446744073709551615 : Nat).testBit i = decide (i < 64) := by
    have := Nat.testBit_two_pow_sub_one 64 i
    simpa using this
  rw [h3]
  by_cases hi : i < 64
  · simp [hi]
  · have h5 : 2 ^ 64 ≤ 2 ^ i := Nat.pow_le_pow_right (by omega) (by omega)
    have : c.testBit i = false := Nat.testBit_lt_two_pow (by omega)
    simp [hi, this]
theorem zig_eq (n : Int) (h1 : -9223372036854775808 ≤ n) (h2 : n ≤ 9223372036854775807) :
    IntKind.u64.wrap (xorI .u64 (IntKind.u64.wrap (shlI .u64 (IntKind.u64.wrap n) 1)) (IntKind.u64.wrap (shrI .i64 n 63))) = ((zigP n : Nat) : Int) := by
  have s1 : shlI .u64 (IntKind.u64.wrap n) 1 = IntKind.u64.wrap n * 2 := by simp [shlI, IntKind.bits]
  have s2 : shrI .i64 n 63 = n.fdiv 9223372036854775808 := by simp [shrI, IntKind.bits]
  rw [s1, s2]
  by_cases h : 0 ≤ n
  · have e1 : IntKind.u64.wrap (IntKind.u64.wrap n * 2) = (((2 * n).toNat : Nat) : Int) := by rw [wrapU, wrapU]; omega
    have e2 : IntKind.u64.wrap (n.fdiv 9223372036854775808) = ((0 : Nat) : Int) := by
      rw [show n.fdiv 9223372036854775808 = 0 from by rw [Int.fdiv_eq_ediv_of_nonneg _ (by decide)]; omega]; rfl
    rw [e1, e2]
    have e := bits_xor_u64_nat (2 * n).toNat 0 (by omega) (by omega)
    rw [Nat.xor_zero] at e
    unfold zigP
    rw [if_pos h]
    exact e
  · have e1 : IntKind.u64.wrap (IntKind.u64.wrap n * 2) = (((2 * n + 18446744073709551616).toNat : Nat) : Int) := by rw [wrapU, wrapU]; omega
    have e2 : IntKind.u64.wrap (n.fdiv 9223372036854775808) = ((18446744073709551615 : Nat) : Int) := by
      rw [show n.fdiv 9223372036854775808 = -1 from by rw [Int.fdiv_eq_ediv_of_nonneg _ (by decide)]; omega]; rfl
    rw [e1, e2]
    have e := bits_xor_u64_nat (2 * n + 18446744073709551616).toNat 18446744073709551615 (by omega) (by omega)
    rw [xorAll _ (by omega)] at e
    unfold zigP
    rw [if_neg h, show (-2 * n - 1).toNat = 18446744073709551615 - (2 * n + 18446744073709551616).toNat from by omega]
    exact e
set_option maxRecDepth 10000 in
theorem zig_does (n : Int) (h1 : -9223372036854775808 ≤ n) (h2 : n ≤ 9223372036854775807) (H : AHeap) : Does Try.prog 23 [iA n] H (.ok (du (zigP n))) H := by
  refine Does.of_awp (hint := (fun _ => false)) Try.func23 (by kernel_rfl) rfl [2] (by kernel_rfl) (by decide) (by simp [Try.ntmps23]) ?_
  rw [Try.ntmps23]
  simp (implicitDefEqProofs := false) only [↓reduceIte, go_sem, oread, owrite, Nat.reduceAdd, Nat.reduceSub, Nat.reduceMul, Nat.reduceLT, Nat.reduceLeDiff, Nat.reduceEqDiff, Nat.reduceBEq, Int.reduceLE, Int.reduceLT, Int.reduceEq, Int.reduceNe, Int.reduceAdd, Int.reduceSub, Int.reduceMul, Int.reduceNeg, Int.reduceToNat, Int.reduceNatCast, reduceCtorEq, eq_self, zig_eq n h1 h2]
  refine AEnd.ret0 ?_
  simp (implicitDefEqProofs := false) only [↓reduceIte, go_sem, oread, owrite, Nat.reduceAdd, Nat.reduceSub, Nat.reduceMul, Nat.reduceLT, Nat.reduceLeDiff, Nat.reduceEqDiff, Nat.reduceBEq, Int.reduceLE, Int.reduceLT, Int.reduceEq, Int.reduceNe, Int.reduceAdd, Int.reduceSub, Int.reduceMul, Int.reduceNeg, Int.reduceToNat, Int.reduceNatCast, reduceCtorEq, eq_self]
end Go.Proofs.Ytcdnbefcccdaeaa
namespace Go.Proofs.Ytcdnbefcccdaeaa
open Go.Proofs.YtcdnbefcccdaeaaAw Go.RowKit
set_option linter.unusedVariables false
set_option linter.unusedSimpArgs false
abbrev eV (e : Int) : Value := .iface 28 (.int .i64 e)
/-- The box of a row of bytes. -/
def rowB (b : List Nat) : AObj := .box 85 1 0 1 [.d (.list false (bys b))]
theorem next_short (H : AHeap) (id : Nat) (ho : H[id]? = some (rowB [])) : Does Try.prog 71 [.ptr id 0 0 0] H (.panic (eV 3)) H := by
  refine Does.of_awp (hint := (fun _ => false)) Try.func71 (by kernel_rfl) rfl [2] (by kernel_rfl) (by decide) (by simp [Try.ntmps71]) ?_
  rw [Try.ntmps71]
  simp (implicitDefEqProofs := false) only [↓reduceIte, go_sem, oread, owrite, Nat.reduceAdd, Nat.reduceSub, Nat.reduceMul, Nat.reduceLT, Nat.reduceLeDiff, Nat.reduceEqDiff, Nat.reduceBEq, Int.reduceLE, Int.reduceLT, Int.reduceEq, Int.reduceNe, Int.reduceAdd, Int.reduceSub, Int.reduceMul, Int.reduceNeg, Int.reduceToNat, Int.reduceNatCast, reduceCtorEq, eq_self, ho, rowB, bys_nil]
  exact ⟨_, .refl _ _, rfl⟩
set_option maxRecDepth 10000 in
theorem next_does (H : AHeap) (id : Nat) (c : Nat) (b : List Nat) (hl : b.length < 1000000000000000) (ho : H[id]? = some (rowB (c :: b))) : Does Try.prog 71 [.ptr id 0 0 0] H (.ok (.d (.v (.int .u8 c)))) (H.set id (rowB b)) := by
  refine Does.of_awp (hint := (fun _ => false)) Try.func71 (by kernel_rfl) rfl [2] (by kernel_rfl) (by decide) (by simp [Try.ntmps71]) ?_
  rw [Try.ntmps71]
  have hne : ((b.length : Int) + 1 = 0) = False := eq_false (by omega)
  have hid : id < H.length := (List.getElem?_eq_some_iff.1 ho).1
  have hget : (bys (c :: b))[0]? = some [.v (.int .u8 c)] := rfl
  simp (implicitDefEqProofs := false) only [↓reduceIte, go_sem, oread, owrite, Nat.reduceAdd, Nat.reduceSub, Nat.reduceMul, Nat.reduceLT, Nat.reduceLeDiff, Nat.reduceEqDiff, Nat.reduceBEq, Int.reduceLE, Int.reduceLT, Int.reduceEq, Int.reduceNe, Int.reduceAdd, Int.reduceSub, Int.reduceMul, Int.reduceNeg, Int.reduceToNat, Int.reduceNatCast, reduceCtorEq, eq_self, ho, rowB, bys_len, hne, hget, Int.toNat_zero, Nat.zero_mul]
  refine awp_drawK 14 K.mixed (by kernel_rfl) (by kernel_rfl) ?_
  simp (implicitDefEqProofs := false) only [↓reduceIte, go_sem, oread, owrite, Nat.reduceAdd, Nat.reduceSub, Nat.reduceMul, Nat.reduceLT, Nat.reduceLeDiff, Nat.reduceEqDiff, Nat.reduceBEq, Int.reduceLE, Int.reduceLT, Int.reduceEq, Int.reduceNe, Int.reduceAdd, Int.reduceSub, Int.reduceMul, Int.reduceNeg, Int.reduceToNat, Int.reduceNatCast, reduceCtorEq, eq_self, ho, rowB, bys_len, bys_one]
  have hd : List.drop 1 (List.take (b.length + 1 : Int).toNat (bys (c :: b))) = bys b := by
    rw [List.take_of_length_le (by rw [bys_len, List.length_cons]; omega)]; rfl
  rw [hd]
  refine ⟨by omega, by omega, by omega, _, Weak.refl _ _, ?_⟩
  simp (implicitDefEqProofs := false) only [↓reduceIte, go_sem, oread, owrite, Nat.reduceAdd, Nat.reduceSub, Nat.reduceMul, Nat.reduceLT, Nat.reduceLeDiff, Nat.reduceEqDiff, Nat.reduceBEq, Int.reduceLE, Int.reduceLT, Int.reduceEq, Int.reduceNe, Int.reduceAdd, Int.reduceSub, Int.reduceMul, Int.reduceNeg, Int.reduceToNat, Int.reduceNatCast, reduceCtorEq, eq_self]
/-- What number reads, from place 10 - k on. -/
def numP : Nat → Nat → List Nat → Except Int Nat × List Nat
  | 0, _, b => (.error 4, b)
  | _ + 1, _, [] => (.error 3, [])
  | k + 1, acc, c :: b =>
    if (k = 0 ∧ 1 < c) ∨ (k < 9 ∧ c = 0) then (.error 4, b)
    else if c < 128 then (.ok (acc + c % 128 * 128 ^ (9 - k)), b)
    else numP k (acc + c % 128 * 128 ^ (9 - k)) b
theorem andNot128 : ∀ m : Nat, m < 256 → IntKind.u64.wrap (IntKind.u8.wrap (andNotI .u8 (m : Int) 128)) = ((m % 128 : Nat) : Int) := by decide +kernel
theorem shlN (m j : Nat) (hj : j ≤ 63) (hm : m * 2 ^ j < 18446744073709551616) : IntKind.u64.wrap (shlI .u64 (m : Int) (j : Int)) = ((m * 2 ^ j : Nat) : Int) := by
  have h1 : min j 64 = j := by omega
  have h3 : shlI .u64 (m : Int) (j : Int) = ((m * 2 ^ j : Nat) : Int) := by
    simp only [shlI, IntKind.bits, Int.toNat_natCast, h1]
    push_cast
    rfl
  rw [h3]
  exact wrapU64N _ hm
theorem orN (a m j : Nat) (ha : a < 2 ^ j) (hm : a + m * 2 ^ j < 18446744073709551616) : IntKind.u64.wrap (orI .u64 (a : Int) ((m * 2 ^ j : Nat) : Int)) = ((a + m * 2 ^ j : Nat) : Int) := by
  rw [orI_nat .u64 a (m * 2 ^ j) (by simp only [IntKind.bits]; omega) (by simp only [IntKind.bits]; omega)]
  have h4 : a ||| m * 2 ^ j = a + m * 2 ^ j := by
    rw [Nat.or_comm, Nat.mul_comm, ← Nat.two_pow_add_eq_or_of_lt ha]
    omega
  rw [h4]
  exact wrapU64N _ hm
theorem pow128 (i : Nat) : 128 ^ i = 2 ^ (7 * i) := by rw [Nat.pow_mul]
set_option maxRecDepth 10000 in
set_option maxHeartbeats 1000000 in
theorem number_does (H : AHeap) (id : Nat) (b : List Nat) (hl : b.length < 1000000000000000) (hb : ∀ c ∈ b, c < 256) (ho : H[id]? = some (rowB b)) :
    Does Try.prog 55 [.ptr id 0 0 0] H (match (numP 10 0 b).1 with | .ok n => .ok (uA n) | .error e => .panic (eV e)) (H.set id (rowB (numP 10 0 b).2)) := by
  have hid : id < H.length := (List.getElem?_eq_some_iff.1 ho).1
  have hself : H = H.set id (rowB b) := by
    apply List.ext_getElem?
    intro j
    by_cases hj : j = id
    · subst hj; rw [ho, List.getElem?_set_self hid]
    · rw [List.getElem?_set_ne (Ne.symm hj)]
  refine Does.of_awp (hint := (fun _ => false)) Try.func55 (by kernel_rfl) rfl [2] (by kernel_rfl) (by decide) (by simp [Try.ntmps55]) ?_
  rw [Try.ntmps55]
  simp (implicitDefEqProofs := false) only [↓reduceIte, go_sem, oread, owrite, Nat.reduceAdd, Nat.reduceSub, Nat.reduceMul, Nat.reduceLT, Nat.reduceLeDiff, Nat.reduceEqDiff, Nat.reduceBEq, Int.reduceLE, Int.reduceLT, Int.reduceEq, Int.reduceNe, Int.reduceAdd, Int.reduceSub, Int.reduceMul, Int.reduceNeg, Int.reduceToNat, Int.reduceNatCast, reduceCtorEq, eq_self]
  refine awp_loop _ _ _ _ (fun (x : Nat × Nat × List Nat) s H' => x.1 ≤ 10 ∧ x.2.1 < 128 ^ (10 - x.1) ∧ x.2.2.length < 1000000000000000 ∧ (∀ c ∈ x.2.2, c < 256) ∧ H' = H.set id (rowB x.2.2) ∧ numP 10 0 b = numP x.1 x.2.1 x.2.2 ∧ s 0 = .ptr id 0 0 0 ∧ s 3 = uA x.2.1 ∧ s 4 = iA ((10 - x.1 : Nat) : Int)) (fun x => x.1) (10, 0, b) (Weak.refl _ _) ?_ ?_
  · refine ⟨Nat.le_refl _, Nat.zero_lt_one, hl, hb, hself, rfl, ?_⟩
    simp (implicitDefEqProofs := false) only [↓reduceIte, go_sem, oread, owrite, Nat.reduceAdd, Nat.reduceSub, Nat.reduceMul, Nat.reduceLT, Nat.reduceLeDiff, Nat.reduceEqDiff, Nat.reduceBEq, Int.reduceLE, Int.reduceLT, Int.reduceEq, Int.reduceNe, Int.reduceAdd, Int.reduceSub, Int.reduceMul, Int.reduceNeg, Int.reduceToNat, Int.reduceNatCast, reduceCtorEq, eq_self]
  · rintro ⟨k, acc, r⟩ s H' ⟨h1, h2, h3, h4, rfl, h5, t0, t3, t4⟩
    simp only at h1 h2 h3 h4 h5 t0 t3 t4
    rw [h5]
    have hget : (H.set id (rowB r))[id]? = some (rowB r) := List.getElem?_set_self hid
    cases k with
    | zero =>
      simp (implicitDefEqProofs := false) only [↓reduceIte, go_sem, oread, owrite, Nat.reduceAdd, Nat.reduceSub, Nat.reduceMul, Nat.reduceLT, Nat.reduceLeDiff, Nat.reduceEqDiff, Nat.reduceBEq, Int.reduceLE, Int.reduceLT, Int.reduceEq, Int.reduceNe, Int.reduceAdd, Int.reduceSub, Int.reduceMul, Int.reduceNeg, Int.reduceToNat, Int.reduceNatCast, reduceCtorEq, eq_self, t0, t3, t4]
      exact ⟨_, .refl _ _, rfl⟩
    | succ k =>
      obtain ⟨i, hi⟩ : ∃ i, i = 9 - k := ⟨_, rfl⟩
      have hi2 : 10 - (k + 1) = i := by omega
      rw [hi2] at t4 h2
      have hne : ((i : Int) = 10) = False := eq_false (by omega)
      simp (implicitDefEqProofs := false) only [↓reduceIte, go_sem, oread, owrite, Nat.reduceAdd, Nat.reduceSub, Nat.reduceMul, Nat.reduceLT, Nat.reduceLeDiff, Nat.reduceEqDiff, Nat.reduceBEq, Int.reduceLE, Int.reduceLT, Int.reduceEq, Int.reduceNe, Int.reduceAdd, Int.reduceSub, Int.reduceMul, Int.reduceNeg, Int.reduceToNat, Int.reduceNatCast, reduceCtorEq, eq_self, t0, t3, t4, hne]
      cases r with
      | nil =>
        refine KCall.panic (next_short _ id hget) ?_
        simp (implicitDefEqProofs := false) only [↓reduceIte, go_sem, oread, owrite, Nat.reduceAdd, Nat.reduceSub, Nat.reduceMul, Nat.reduceLT, Nat.reduceLeDiff, Nat.reduceEqDiff, Nat.reduceBEq, Int.reduceLE, Int.reduceLT, Int.reduceEq, Int.reduceNe, Int.reduceAdd, Int.reduceSub, Int.reduceMul, Int.reduceNeg, Int.reduceToNat, Int.reduceNatCast, reduceCtorEq, eq_self]
        exact ⟨_, .refl _ _, rfl⟩
      | cons c r =>
        refine KCall.ok (next_does _ id c r (by simp at h3; omega) hget) ?_
        have hc : c < 256 := h4 c (by simp)
        by_cases hbad : (k = 0 ∧ 1 < c) ∨ (k < 9 ∧ c = 0)
        · rw [show numP (k + 1) acc (c :: r) = (.error 4, r) by simp [numP, hbad]]
          have fin : ∀ s, AEnd [2] H (ARes.panic (eV 4)) (List.set H id (rowB r)) (AX.panic (Value.iface 28 (Value.int IntKind.i64 4))) s (List.set H id (rowB r)) := fun s => ⟨_, .refl _ _, rfl⟩
          by_cases h9 : k = 0
          · have e1 : ((i : Int) = 9) = True := eq_true (by omega)
            by_cases hc1 : 1 < c
            · have e2 : (1 < (c : Int)) = True := eq_true (by omega)
              simp (implicitDefEqProofs := false) only [↓reduceIte, go_sem, oread, owrite, Nat.reduceAdd, Nat.reduceSub, Nat.reduceMul, Nat.reduceLT, Nat.reduceLeDiff, Nat.reduceEqDiff, Nat.reduceBEq, Int.reduceLE, Int.reduceLT, Int.reduceEq, Int.reduceNe, Int.reduceAdd, Int.reduceSub, Int.reduceMul, Int.reduceNeg, Int.reduceToNat, Int.reduceNatCast, reduceCtorEq, eq_self, List.set_set, t4, e1, e2]
              exact fin _
            · have e2 : (1 < (c : Int)) = False := eq_false (by omega)
              have e3 : (0 < (i : Int)) = True := eq_true (by omega)
              have e4 : ((c : Int) = 0) = True := eq_true (by omega)
              simp (implicitDefEqProofs := false) only [↓reduceIte, go_sem, oread, owrite, Nat.reduceAdd, Nat.reduceSub, Nat.reduceMul, Nat.reduceLT, Nat.reduceLeDiff, Nat.reduceEqDiff, Nat.reduceBEq, Int.reduceLE, Int.reduceLT, Int.reduceEq, Int.reduceNe, Int.reduceAdd, Int.reduceSub, Int.reduceMul, Int.reduceNeg, Int.reduceToNat, Int.reduceNatCast, reduceCtorEq, eq_self, List.set_set, t4, e1, e2, e3, e4]
              exact fin _
          · have e1 : ((i : Int) = 9) = False := eq_false (by omega)
            have e3 : (0 < (i : Int)) = True := eq_true (by omega)
            have e4 : ((c : Int) = 0) = True := eq_true (by omega)
            simp (implicitDefEqProofs := false) only [↓reduceIte, go_sem, oread, owrite, Nat.reduceAdd, Nat.reduceSub, Nat.reduceMul, Nat.reduceLT, Nat.reduceLeDiff, Nat.reduceEqDiff, Nat.reduceBEq, Int.reduceLE, Int.reduceLT, Int.reduceEq, Int.reduceNe, Int.reduceAdd, Int.reduceSub, Int.reduceMul, Int.reduceNeg, Int.reduceToNat, Int.reduceNatCast, reduceCtorEq, eq_self, List.set_set, t4, e1, e3, e4]
            exact fin _
        · have hstep : numP (k + 1) acc (c :: r) = if c < 128 then (.ok (acc + c % 128 * 128 ^ i), r) else numP k (acc + c % 128 * 128 ^ i) r := by
            rw [hi]; simp only [numP, if_neg hbad]
          rw [hstep]
          have hpart := andNot128 c hc
          obtain ⟨j, hj⟩ : ∃ j, j = 7 * i := ⟨_, rfl⟩
          have hp2 := pow128 i
          rw [← hj] at hp2
          have hm : c % 128 * 2 ^ j + 2 ^ j ≤ 18446744073709551616 := by
            by_cases h9 : k = 0
            · have : j = 63 := by omega
              subst this
              have : c ≤ 1 := by omega
              have : c % 128 ≤ 1 := by omega
              omega
            · have h56 : 2 ^ j ≤ 2 ^ 56 := Nat.pow_le_pow_right (by decide) (by omega)
              have : c % 128 < 128 := Nat.mod_lt _ (by decide)
              have : c % 128 * 2 ^ j ≤ 127 * 2 ^ j := Nat.mul_le_mul_right _ (by omega)
              omega
          rw [hp2] at h2
          rw [hp2]
          have e5 : IntKind.i64.wrap (7 * (i : Int)) = (j : Int) := by rw [wrap64_in _ (by omega) (by omega)]; omega
          have e6 : IntKind.u64.wrap (j : Int) = (j : Int) := wrapU64N _ (by omega)
          have e7 := shlN (c % 128) j (by omega) (by omega)
          have e8 := orN acc (c % 128) j h2 (by omega)
          have hA : acc + c % 128 * 2 ^ j < 2 ^ j * 128 := by
            have : c % 128 < 128 := Nat.mod_lt _ (by decide)
            have : c % 128 * 2 ^ j ≤ 127 * 2 ^ j := Nat.mul_le_mul_right _ (by omega)
            omega
          generalize c % 128 = m at *
          generalize m * 2 ^ j = P at *
          generalize acc + P = A at *
          have hw2 : IntKind.i64.wrap ((i : Int) + 1) = ((10 - k : Nat) : Int) := by rw [wrap64_in _ (by omega) (by omega)]; omega
          have fin : ∀ s, s 2 = uA A → AEnd [2] H (ARes.ok (uA A)) (List.set H id (rowB r)) AX.ret s (List.set H id (rowB r)) := fun s hs => ⟨_, .refl _ _, by simp only [ares, hs]⟩
          have nxt : ∀ s, s 0 = .ptr id 0 0 0 → s 3 = uA A → s 4 = iA ((10 - k : Nat) : Int) → ∃ s'' H'' , ∃ y : Nat × Nat × List Nat, Weak H s (List.set H id (rowB r)) s'' H'' ∧ (y.1 ≤ 10 ∧ y.2.1 < 128 ^ (10 - y.1) ∧ y.2.2.length < 1000000000000000 ∧ (∀ c ∈ y.2.2, c < 256) ∧ H'' = H.set id (rowB y.2.2) ∧ numP k A r = numP y.1 y.2.1 y.2.2 ∧ s'' 0 = .ptr id 0 0 0 ∧ s'' 3 = uA y.2.1 ∧ s'' 4 = iA ((10 - y.1 : Nat) : Int)) ∧ y.1 < k + 1 := by
            intro s g0 g3 g4
            refine ⟨s, _, (k, A, r), .refl _ _, ⟨by simp only; omega, ?_, by simp at h3; simp only; omega, fun c hc => h4 c (by simp [hc]), rfl, rfl, g0, g3, g4⟩, Nat.lt_succ_self _⟩
            show A < 128 ^ (10 - k)
            rw [show 10 - k = i + 1 by omega, Nat.pow_succ, pow128, ← hj]
            exact hA
          by_cases hlt : c < 128
          · rw [if_pos hlt]
            have hlt' : ((c : Int) < 128) = True := eq_true (by omega)
            by_cases h9 : k = 0
            · have e1 : ((i : Int) = 9) = True := eq_true (by omega)
              have e2 : (1 < (c : Int)) = False := eq_false (by omega)
              have e3 : (0 < (i : Int)) = True := eq_true (by omega)
              have e4 : ((c : Int) = 0) = False := eq_false (by omega)
              simp (implicitDefEqProofs := false) only [↓reduceIte, go_sem, oread, owrite, Nat.reduceAdd, Nat.reduceSub, Nat.reduceMul, Nat.reduceLT, Nat.reduceLeDiff, Nat.reduceEqDiff, Nat.reduceBEq, Int.reduceLE, Int.reduceLT, Int.reduceEq, Int.reduceNe, Int.reduceAdd, Int.reduceSub, Int.reduceMul, Int.reduceNeg, Int.reduceToNat, Int.reduceNatCast, reduceCtorEq, eq_self, List.set_set, t0, t3, t4, e1, e2, e3, e4, hpart, e5, e6, e7, e8, hlt', hw2]
              exact fin _ (by simp (implicitDefEqProofs := false) only [↓reduceIte, go_sem, oread, owrite, Nat.reduceAdd, Nat.reduceSub, Nat.reduceMul, Nat.reduceLT, Nat.reduceLeDiff, Nat.reduceEqDiff, Nat.reduceBEq, Int.reduceLE, Int.reduceLT, Int.reduceEq, Int.reduceNe, Int.reduceAdd, Int.reduceSub, Int.reduceMul, Int.reduceNeg, Int.reduceToNat, Int.reduceNatCast, reduceCtorEq, eq_self])
            · have e1 : ((i : Int) = 9) = False := eq_false (by omega)
              by_cases h0 : i = 0
              · have e3 : (0 < (i : Int)) = False := eq_false (by omega)
                simp (implicitDefEqProofs := false) only [↓reduceIte, go_sem, oread, owrite, Nat.reduceAdd, Nat.reduceSub, Nat.reduceMul, Nat.reduceLT, Nat.reduceLeDiff, Nat.reduceEqDiff, Nat.reduceBEq, Int.reduceLE, Int.reduceLT, Int.reduceEq, Int.reduceNe, Int.reduceAdd, Int.reduceSub, Int.reduceMul, Int.reduceNeg, Int.reduceToNat, Int.reduceNatCast, reduceCtorEq, eq_self, List.set_set, t0, t3, t4, e1, e3, hpart, e5, e6, e7, e8, hlt', hw2]
                exact fin _ (by simp (implicitDefEqProofs := false) only [↓reduceIte, go_sem, oread, owrite, Nat.reduceAdd, Nat.reduceSub, Nat.reduceMul, Nat.reduceLT, Nat.reduceLeDiff, Nat.reduceEqDiff, Nat.reduceBEq, Int.reduceLE, Int.reduceLT, Int.reduceEq, Int.reduceNe, Int.reduceAdd, Int.reduceSub, Int.reduceMul, Int.reduceNeg, Int.reduceToNat, Int.reduceNatCast, reduceCtorEq, eq_self])
              · have e3 : (0 < (i : Int)) = True := eq_true (by omega)
                have e4 : ((c : Int) = 0) = False := eq_false (by omega)
                simp (implicitDefEqProofs := false) only [↓reduceIte, go_sem, oread, owrite, Nat.reduceAdd, Nat.reduceSub, Nat.reduceMul, Nat.reduceLT, Nat.reduceLeDiff, Nat.reduceEqDiff, Nat.reduceBEq, Int.reduceLE, Int.reduceLT, Int.reduceEq, Int.reduceNe, Int.reduceAdd, Int.reduceSub, Int.reduceMul, Int.reduceNeg, Int.reduceToNat, Int.reduceNatCast, reduceCtorEq, eq_self, List.set_set, t0, t3, t4, e1, e3, e4, hpart, e5, e6, e7, e8, hlt', hw2]
                exact fin _ (by simp (implicitDefEqProofs := false) only [↓reduceIte, go_sem, oread, owrite, Nat.reduceAdd, Nat.reduceSub, Nat.reduceMul, Nat.reduceLT, Nat.reduceLeDiff, Nat.reduceEqDiff, Nat.reduceBEq, Int.reduceLE, Int.reduceLT, Int.reduceEq, Int.reduceNe, Int.reduceAdd, Int.reduceSub, Int.reduceMul, Int.reduceNeg, Int.reduceToNat, Int.reduceNatCast, reduceCtorEq, eq_self])
          · rw [if_neg hlt]
            have hlt' : ((c : Int) < 128) = False := eq_false (by omega)
            by_cases h9 : k = 0
            · have e1 : ((i : Int) = 9) = True := eq_true (by omega)
              have e2 : (1 < (c : Int)) = False := eq_false (by omega)
              have e3 : (0 < (i : Int)) = True := eq_true (by omega)
              have e4 : ((c : Int) = 0) = False := eq_false (by omega)
              simp (implicitDefEqProofs := false) only [↓reduceIte, go_sem, oread, owrite, Nat.reduceAdd, Nat.reduceSub, Nat.reduceMul, Nat.reduceLT, Nat.reduceLeDiff, Nat.reduceEqDiff, Nat.reduceBEq, Int.reduceLE, Int.reduceLT, Int.reduceEq, Int.reduceNe, Int.reduceAdd, Int.reduceSub, Int.reduceMul, Int.reduceNeg, Int.reduceToNat, Int.reduceNatCast, reduceCtorEq, eq_self, List.set_set, t0, t3, t4, e1, e2, e3, e4, hpart, e5, e6, e7, e8, hlt', hw2]
              exact nxt _ (by simp (implicitDefEqProofs := false) only [↓reduceIte, go_sem, oread, owrite, Nat.reduceAdd, Nat.reduceSub, Nat.reduceMul, Nat.reduceLT, Nat.reduceLeDiff, Nat.reduceEqDiff, Nat.reduceBEq, Int.reduceLE, Int.reduceLT, Int.reduceEq, Int.reduceNe, Int.reduceAdd, Int.reduceSub, Int.reduceMul, Int.reduceNeg, Int.reduceToNat, Int.reduceNatCast, reduceCtorEq, eq_self, t0]) (by simp (implicitDefEqProofs := false) only [↓reduceIte, go_sem, oread, owrite, Nat.reduceAdd, Nat.reduceSub, Nat.reduceMul, Nat.reduceLT, Nat.reduceLeDiff, Nat.reduceEqDiff, Nat.reduceBEq, Int.reduceLE, Int.reduceLT, Int.reduceEq, Int.reduceNe, Int.reduceAdd, Int.reduceSub, Int.reduceMul, Int.reduceNeg, Int.reduceToNat, Int.reduceNatCast, reduceCtorEq, eq_self]) (by simp (implicitDefEqProofs := false) only [↓reduceIte, go_sem, oread, owrite, Nat.reduceAdd, Nat.reduceSub, Nat.reduceMul, Nat.reduceLT, Nat.reduceLeDiff, Nat.reduceEqDiff, Nat.reduceBEq, Int.reduceLE, Int.reduceLT, Int.reduceEq, Int.reduceNe, Int.reduceAdd, Int.reduceSub, Int.reduceMul, Int.reduceNeg, Int.reduceToNat, Int.reduceNatCast, reduceCtorEq, eq_self, t4, hw2])
            · have e1 : ((i : Int) = 9) = False := eq_false (by omega)
              by_cases h0 : i = 0
              · have e3 : (0 < (i : Int)) = False := eq_false (by omega)
                simp (implicitDefEqProofs := false) only [↓reduceIte, go_sem, oread, owrite, Nat.reduceAdd, Nat.reduceSub, Nat.reduceMul, Nat.reduceLT, Nat.reduceLeDiff, Nat.reduceEqDiff, Nat.reduceBEq, Int.reduceLE, Int.reduceLT, Int.reduceEq, Int.reduceNe, Int.reduceAdd, Int.reduceSub, Int.reduceMul, Int.reduceNeg, Int.reduceToNat, Int.reduceNatCast, reduceCtorEq, eq_self, List.set_set, t0, t3, t4, e1, e3, hpart, e5, e6, e7, e8, hlt', hw2]
                exact nxt _ (by simp (implicitDefEqProofs := false) only [↓reduceIte, go_sem, oread, owrite, Nat.reduceAdd, Nat.reduceSub, Nat.reduceMul, Nat.reduceLT, Nat.reduceLeDiff, Nat.reduceEqDiff, Nat.reduceBEq, Int.reduceLE, Int.reduceLT, Int.reduceEq, Int.reduceNe, Int.reduceAdd, Int.reduceSub, Int.reduceMul, Int.reduceNeg, Int.reduceToNat, Int.reduceNatCast, reduceCtorEq, eq_self, t0]) (by simp (implicitDefEqProofs := false) only [↓reduceIte, go_sem, oread, owrite, Nat.reduceAdd, Nat.reduceSub, Nat.reduceMul, Nat.reduceLT, Nat.reduceLeDiff, Nat.reduceEqDiff, Nat.reduceBEq, Int.reduceLE, Int.reduceLT, Int.reduceEq, Int.reduceNe, Int.reduceAdd, Int.reduceSub, Int.reduceMul, Int.reduceNeg, Int.reduceToNat, Int.reduceNatCast, reduceCtorEq, eq_self]) (by simp (implicitDefEqProofs := false) only [↓reduceIte, go_sem, oread, owrite, Nat.reduceAdd, Nat.reduceSub, Nat.reduceMul, Nat.reduceLT, Nat.reduceLeDiff, Nat.reduceEqDiff, Nat.reduceBEq, Int.reduceLE, Int.reduceLT, Int.reduceEq, Int.reduceNe, Int.reduceAdd, Int.reduceSub, Int.reduceMul, Int.reduceNeg, Int.reduceToNat, Int.reduceNatCast, reduceCtorEq, eq_self, t4, hw2])
              · have e3 : (0 < (i : Int)) = True := eq_true (by omega)
                have e4 : ((c : Int) = 0) = False := eq_false (by omega)
                simp (implicitDefEqProofs := false) only [↓reduceIte, go_sem, oread, owrite, Nat.reduceAdd, Nat.reduceSub, Nat.reduceMul, Nat.reduceLT, Nat.reduceLeDiff, Nat.reduceEqDiff, Nat.reduceBEq, Int.reduceLE, Int.reduceLT, Int.reduceEq, Int.reduceNe, Int.reduceAdd, Int.reduceSub, Int.reduceMul, Int.reduceNeg, Int.reduceToNat, Int.reduceNatCast, reduceCtorEq, eq_self, List.set_set, t0, t3, t4, e1, e3, e4, hpart, e5, e6, e7, e8, hlt', hw2]
                exact nxt _ (by simp (implicitDefEqProofs := false) only [↓reduceIte, go_sem, oread, owrite, Nat.reduceAdd, Nat.reduceSub, Nat.reduceMul, Nat.reduceLT, Nat.reduceLeDiff, Nat.reduceEqDiff, Nat.reduceBEq, Int.reduceLE, Int.reduceLT, Int.reduceEq, Int.reduceNe, Int.reduceAdd, Int.reduceSub, Int.reduceMul, Int.reduceNeg, Int.reduceToNat, Int.reduceNatCast, reduceCtorEq, eq_self, t0]) (by simp (implicitDefEqProofs := false) only [↓reduceIte, go_sem, oread, owrite, Nat.reduceAdd, Nat.reduceSub, Nat.reduceMul, Nat.reduceLT, Nat.reduceLeDiff, Nat.reduceEqDiff, Nat.reduceBEq, Int.reduceLE, Int.reduceLT, Int.reduceEq, Int.reduceNe, Int.reduceAdd, Int.reduceSub, Int.reduceMul, Int.reduceNeg, Int.reduceToNat, Int.reduceNatCast, reduceCtorEq, eq_self]) (by simp (implicitDefEqProofs := false) only [↓reduceIte, go_sem, oread, owrite, Nat.reduceAdd, Nat.reduceSub, Nat.reduceMul, Nat.reduceLT, Nat.reduceLeDiff, Nat.reduceEqDiff, Nat.reduceBEq, Int.reduceLE, Int.reduceLT, Int.reduceEq, Int.reduceNe, Int.reduceAdd, Int.reduceSub, Int.reduceMul, Int.reduceNeg, Int.reduceToNat, Int.reduceNatCast, reduceCtorEq, eq_self, t4, hw2])
/-! ### saved -/
theorem saved_ret (H : AHeap) (a : AV) : DoesD Try.prog 54 [a] H .returning H .returning := by
  refine DoesD.of_awp (hint := fun _ => false) Try.func54 (by kernel_rfl) rfl ⟨_, rfl⟩ rfl rfl rfl rfl rfl (by rw [Try.ntmps54]; decide) rfl (by simp [Try.ntmps54]) .ret ?_
  rw [Try.ntmps54]
  simp (implicitDefEqProofs := false) only [↓reduceIte, go_sem, oread, owrite, Nat.reduceAdd, Nat.reduceSub, Nat.reduceMul, Nat.reduceLT, Nat.reduceLeDiff, Nat.reduceEqDiff, Nat.reduceBEq, Int.reduceLE, Int.reduceLT, Int.reduceEq, Int.reduceNe, Int.reduceAdd, Int.reduceSub, Int.reduceMul, Int.reduceNeg, Int.reduceToNat, Int.reduceNatCast, reduceCtorEq, eq_self]
  exact ⟨_, .refl _ _⟩
theorem saved_pan (H : AHeap) (id : Nat) (x : AV) (e : Int) (ho : H[id]? = some (.box 28 1 0 1 [x])) : DoesD Try.prog 54 [.ptr id 0 0 0] H (mPan (eV e)) (H.set id (.box 28 1 0 1 [iA e])) (mRec (eV e)) := by
  refine DoesD.of_awp (hint := fun _ => false) Try.func54 (by kernel_rfl) rfl ⟨_, rfl⟩ rfl rfl rfl rfl rfl (by rw [Try.ntmps54]; decide) rfl (by simp [Try.ntmps54]) (.pan _) ?_
  rw [Try.ntmps54]
  simp (implicitDefEqProofs := false) only [↓reduceIte, go_sem, oread, owrite, Nat.reduceAdd, Nat.reduceSub, Nat.reduceMul, Nat.reduceLT, Nat.reduceLeDiff, Nat.reduceEqDiff, Nat.reduceBEq, Int.reduceLE, Int.reduceLT, Int.reduceEq, Int.reduceNe, Int.reduceAdd, Int.reduceSub, Int.reduceMul, Int.reduceNeg, Int.reduceToNat, Int.reduceNatCast, reduceCtorEq, eq_self, ho]
  exact ⟨_, .refl _ _⟩
/-! ### Get -/
theorem numP_len : ∀ (k acc : Nat) (b : List Nat), (numP k acc b).2.length ≤ b.length
  | 0, _, b => Nat.le_refl _
  | _ + 1, _, [] => Nat.le_refl _
  | k + 1, acc, c :: b => by
    simp only [numP]
    split
    · simp
    · split
      · simp
      · exact Nat.le_trans (numP_len k _ b) (by simp)
def getP (b : List Nat) : Nat × Nat × Int := match numP 10 0 b with
  | (.ok n, r) => (n, b.length - r.length, 0)
  | (.error e, _) => (0, 0, e)
set_option maxRecDepth 10000 in
theorem get_does (b : List Nat) (hl : b.length < 1000000000000000) (hb : ∀ c ∈ b, c < 256) (H : AHeap) : Does Try.prog 31 [.d (.list false (bys b))] H (.ok (.tup [uA (getP b).1, iA (getP b).2.1, iA (getP b).2.2])) H := by
  refine Does.of_awpD (hint := fun _ => false) Try.func31 (by kernel_rfl) rfl [.tmp 2, .tmp 3, .cell 4 28] (by kernel_rfl) rfl rfl rfl rfl (by simp [Try.ntmps31]) ?_
  rw [Try.ntmps31]
  simp (implicitDefEqProofs := false) only [↓reduceIte, go_sem, oread, owrite, Nat.reduceAdd, Nat.reduceSub, Nat.reduceMul, Nat.reduceLT, Nat.reduceLeDiff, Nat.reduceEqDiff, Nat.reduceBEq, Int.reduceLE, Int.reduceLT, Int.reduceEq, Int.reduceNe, Int.reduceAdd, Int.reduceSub, Int.reduceMul, Int.reduceNeg, Int.reduceToNat, Int.reduceNatCast, reduceCtorEq, eq_self]
  have hd := number_does (H ++ [.box 28 1 0 1 [iA 0], rowB b]) (H.length + 1) b hl hb (by simp)
  have hset : ∀ x y z : AObj, (H ++ [x, y]).set (H.length + 1) z = H ++ [x, z] := fun x y z => by simp [List.set_append]
  have hset0 : ∀ x y z : AObj, (H ++ [x, y]).set H.length z = H ++ [z, y] := fun x y z => by simp [List.set_append]
  rw [hset] at hd
  have hg : getP b = match numP 10 0 b with
    | (.ok n, r) => (n, b.length - r.length, 0)
    | (.error e, _) => (0, 0, e) := rfl
  rcases hn : numP 10 0 b with ⟨_ | n, r⟩
  · rename_i e
    rw [hn] at hd hg
    rw [hg]
    refine KCall.panic hd ?_
    simp (implicitDefEqProofs := false) only [↓reduceIte, go_sem, oread, owrite, Nat.reduceAdd, Nat.reduceSub, Nat.reduceMul, Nat.reduceLT, Nat.reduceLeDiff, Nat.reduceEqDiff, Nat.reduceBEq, Int.reduceLE, Int.reduceLT, Int.reduceEq, Int.reduceNe, Int.reduceAdd, Int.reduceSub, Int.reduceMul, Int.reduceNeg, Int.reduceToNat, Int.reduceNatCast, reduceCtorEq, eq_self]
    refine ⟨_, saved_pan _ _ (iA 0) e (by simp), ?_⟩
    rw [hset0]
    refine AEndC.ret ?_
    simp (implicitDefEqProofs := false) only [↓reduceIte, go_sem, oread, owrite, Nat.reduceAdd, Nat.reduceSub, Nat.reduceMul, Nat.reduceLT, Nat.reduceLeDiff, Nat.reduceEqDiff, Nat.reduceBEq, Int.reduceLE, Int.reduceLT, Int.reduceEq, Int.reduceNe, Int.reduceAdd, Int.reduceSub, Int.reduceMul, Int.reduceNeg, Int.reduceToNat, Int.reduceNatCast, reduceCtorEq, eq_self, resAll, resAV]
  · rw [hn] at hd hg
    rw [hg]
    refine KCall.ok hd ?_
    simp (implicitDefEqProofs := false) only [↓reduceIte, go_sem, oread, owrite, Nat.reduceAdd, Nat.reduceSub, Nat.reduceMul, Nat.reduceLT, Nat.reduceLeDiff, Nat.reduceEqDiff, Nat.reduceBEq, Int.reduceLE, Int.reduceLT, Int.reduceEq, Int.reduceNe, Int.reduceAdd, Int.reduceSub, Int.reduceMul, Int.reduceNeg, Int.reduceToNat, Int.reduceNatCast, reduceCtorEq, eq_self, rowB]
    refine awp_drawK 7 K.mixed (by kernel_rfl) (by kernel_rfl) ?_
    have hw : IntKind.i64.wrap ((b.length : Int) - (r.length : Int)) = ((b.length - r.length : Nat) : Int) := by
      have := numP_len 10 0 b
      rw [hn] at this
      simp only at this
      rw [wrap64_in _ (by omega) (by omega)]; omega
    simp (implicitDefEqProofs := false) only [↓reduceIte, go_sem, oread, owrite, Nat.reduceAdd, Nat.reduceSub, Nat.reduceMul, Nat.reduceLT, Nat.reduceLeDiff, Nat.reduceEqDiff, Nat.reduceBEq, Int.reduceLE, Int.reduceLT, Int.reduceEq, Int.reduceNe, Int.reduceAdd, Int.reduceSub, Int.reduceMul, Int.reduceNeg, Int.reduceToNat, Int.reduceNatCast, reduceCtorEq, eq_self, bys_len, hw]
    refine ⟨_, saved_ret _ _, ?_⟩
    refine AEndC.ret ?_
    simp (implicitDefEqProofs := false) only [↓reduceIte, go_sem, oread, owrite, Nat.reduceAdd, Nat.reduceSub, Nat.reduceMul, Nat.reduceLT, Nat.reduceLeDiff, Nat.reduceEqDiff, Nat.reduceBEq, Int.reduceLE, Int.reduceLT, Int.reduceEq, Int.reduceNe, Int.reduceAdd, Int.reduceSub, Int.reduceMul, Int.reduceNeg, Int.reduceToNat, Int.reduceNatCast, reduceCtorEq, eq_self, resAll, resAV]
theorem getN_does (b : List Nat) (nn : Bool) (hl : b.length < 1000000000000000) (hb : ∀ c ∈ b, c < 256) (H : AHeap) : Does Try.prog 31 [.d (.list nn (bys b))] H (.ok (.tup [uA (getP b).1, iA (getP b).2.1, iA (getP b).2.2])) H := by
  cases nn
  · exact get_does b hl hb H
  · exact (get_does b hl hb H).sub (.cons (.nn _) .nil)
/-! ### Zag -/
def zagP (n : Nat) : Int := if n % 2 = 1 then -((n / 2 : Nat) : Int) - 1 else ((n / 2 : Nat) : Int)
theorem xorI_nat (k : IntKind) (a b : Nat) (ha : a < 2 ^ k.bits) (hb : b < 2 ^ k.bits) : xorI k (a : Int) (b : Int) = ((a ^^^ b : Nat) : Int) := by
  simp [xorI, BitVec.toNat_xor, BitVec.ofInt_natCast, Nat.mod_eq_of_lt ha, Nat.mod_eq_of_lt hb]
theorem xor_nat (a b : Nat) (ha : a < 18446744073709551616) (hb : b < 18446744073709551616) : xorI .i64 (a : Int) (b : Int) = ((a ^^^ b : Nat) : Int) := xorI_nat .i64 a b ha hb
theorem zag_eq (n : Nat) (h : n < 18446744073709551616) : IntKind.i64.wrap (xorI .i64 (IntKind.i64.wrap (shrI .u64 (n : Int) 1)) (IntKind.i64.wrap (0 - IntKind.i64.wrap (IntKind.u64.wrap (andI .u64 (n : Int) 1))))) = zagP n := by
  have s1 : shrI .u64 (n : Int) 1 = ((n / 2 : Nat) : Int) := shrU n 1 (by decide)
  have s2 : andI .u64 (n : Int) 1 = ((n % 2 : Nat) : Int) := by
    have := andI_nat .u64 n 1 (by simp only [IntKind.bits]; omega) (by decide)
    rw [Nat.and_one_is_mod] at this
    exact this
  rw [s1, s2, wrapU64N _ (by omega), wrap64_in (n / 2 : Nat) (by omega) (by omega), wrap64_in (n % 2 : Nat) (by omega) (by omega)]
  unfold zagP
  by_cases h1 : n % 2 = 1
  · rw [if_pos h1, h1]
    have e : xorI .i64 ((n / 2 : Nat) : Int) (IntKind.i64.wrap (0 - ((1 : Nat) : Int))) = xorI .i64 ((n / 2 : Nat) : Int) ((18446744073709551615 : Nat) : Int) := by
      have : BitVec.ofInt 64 (IntKind.i64.wrap (0 - ((1 : Nat) : Int))) = BitVec.ofInt 64 ((18446744073709551615 : Nat) : Int) := by decide
      simp only [xorI, IntKind.bits, this]
    rw [e, xor_nat _ _ (by omega) (by omega), Nat.xor_comm, Nat.xor_comm, xorAll _ (by omega)]
    simp only [IntKind.wrap, IntKind.signed, IntKind.bits]
    simp only [show ((2 : Int) ^ 64) = 18446744073709551616 from rfl, show ((2 : Int) ^ (64 - 1)) = 9223372036854775808 from rfl]
    simp
    split <;> omega
  · rw [if_neg h1, show n % 2 = 0 by omega]
    have e : IntKind.i64.wrap (0 - ((0 : Nat) : Int)) = ((0 : Nat) : Int) := by decide
    rw [e, xor_nat _ _ (by omega) (by omega), Nat.xor_zero]
    exact wrap64_in _ (by omega) (by omega)
set_option maxRecDepth 10000 in
theorem zag_does (n : Nat) (h : n < 18446744073709551616) (H : AHeap) : Does Try.prog 33 [uA n] H (.ok (iA (zagP n))) H := by
  refine Does.of_awp (hint := (fun _ => false)) Try.func33 (by kernel_rfl) rfl [2] (by kernel_rfl) (by decide) (by simp [Try.ntmps33]) ?_
  rw [Try.ntmps33]
  simp (implicitDefEqProofs := false) only [↓reduceIte, go_sem, oread, owrite, Nat.reduceAdd, Nat.reduceSub, Nat.reduceMul, Nat.reduceLT, Nat.reduceLeDiff, Nat.reduceEqDiff, Nat.reduceBEq, Int.reduceLE, Int.reduceLT, Int.reduceEq, Int.reduceNe, Int.reduceAdd, Int.reduceSub, Int.reduceMul, Int.reduceNeg, Int.reduceToNat, Int.reduceNatCast, reduceCtorEq, eq_self]
  refine AEnd.ret0 ?_
  simp (implicitDefEqProofs := false) only [↓reduceIte, go_sem, oread, owrite, Nat.reduceAdd, Nat.reduceSub, Nat.reduceMul, Nat.reduceLT, Nat.reduceLeDiff, Nat.reduceEqDiff, Nat.reduceBEq, Int.reduceLE, Int.reduceLT, Int.reduceEq, Int.reduceNe, Int.reduceAdd, Int.reduceSub, Int.reduceMul, Int.reduceNeg, Int.reduceToNat, Int.reduceNatCast, reduceCtorEq, eq_self, zag_eq n h]
end Go.Proofs.Ytcdnbefcccdaeaa
namespace Go.Proofs.Ytcdnbefcccdaeaa
open Go.Proofs.YtcdnbefcccdaeaaAw Go.RowKit
set_option linter.unusedVariables false
set_option linter.unusedSimpArgs false
/-! ### Bits of bytes -/
def bitsB (b : List Nat) : List Bool := b.flatMap fun c => bitsN c 8
theorem bitsB_len : ∀ b : List Nat, (bitsB b).length = 8 * b.length
  | [] => rfl
  | c :: b => by
    have : bitsB (c :: b) = bitsN c 8 ++ bitsB b := rfl
    rw [this, List.length_append, bitsB_len b, bitsN_len, List.length_cons]; omega
theorem bitsB_get : ∀ (b : List Nat) (i : Nat) (c : Nat), b[i / 8]? = some c → (bitsB b)[i]? = some (c.testBit (i % 8))
  | [], i, c, h => by simp at h
  | x :: b, i, c, h => by
    have e : bitsB (x :: b) = bitsN x 8 ++ bitsB b := rfl
    rw [e]
    by_cases hi : i < 8
    · rw [show i / 8 = 0 by omega] at h
      cases h
      rw [List.getElem?_append_left (by rw [bitsN_len]; exact hi), show i % 8 = i by omega]
      simp [bitsN, hi]
    · rw [show i / 8 = (i - 8) / 8 + 1 by omega, List.getElem?_cons_succ] at h
      rw [List.getElem?_append_right (by rw [bitsN_len]; omega), bitsN_len, bitsB_get b (i - 8) c h]
      congr 2
      omega
theorem byteOf_take (L : List Bool) (k : Nat) (c : Bool) (h : L[k]? = some c) : byteOf (L.take (k + 1)) = byteOf (L.take k) + c.toNat * 2 ^ k := by
  have hk : k < L.length := (List.getElem?_eq_some_iff.1 h).1
  rw [List.take_add_one, h, Option.toList_some, byteOf_snoc, List.length_take, Nat.min_eq_left (Nat.le_of_lt hk)]
/-! ### The reader -/
def rH (G : AHeap) (b : List Nat) (at_ : Nat) (T : AHeap) : AHeap := G ++ .arr 5 1 1 (bys b) :: .box 103 2 0 1 [.sl G.length 1 0 b.length, iA at_] :: T
theorem from_does (b : List Nat) (nn : Bool) (hl : b.length ≤ 140737488351232) (H : AHeap) : Does Try.prog 56 [.d (.list nn (bys b))] H (.ok (.ptr (H.length + 1) 0 0 0)) (rH H b 0 []) := by
  generalize hE : rH H b 0 [] = E
  refine Does.of_awp (hint := (fun _ => false)) Try.func56 (by kernel_rfl) rfl [2] (by kernel_rfl) (by decide) (by simp [Try.ntmps56]) ?_
  rw [Try.ntmps56]
  simp (implicitDefEqProofs := false) only [↓reduceIte, go_sem, oread, owrite, Nat.reduceAdd, Nat.reduceSub, Nat.reduceMul, Nat.reduceLT, Nat.reduceLeDiff, Nat.reduceEqDiff, Nat.reduceBEq, Int.reduceLE, Int.reduceLT, Int.reduceEq, Int.reduceNe, Int.reduceAdd, Int.reduceSub, Int.reduceMul, Int.reduceNeg, Int.reduceToNat, Int.reduceNatCast, reduceCtorEq, eq_self, bys_one, bys_len]
  refine ⟨by omega, by omega, ?_⟩
  rw [← hE]
  refine ⟨_, Weak.refl _ _, ?_⟩
  simp (implicitDefEqProofs := false) only [↓reduceIte, go_sem, oread, owrite, Nat.reduceAdd, Nat.reduceSub, Nat.reduceMul, Nat.reduceLT, Nat.reduceLeDiff, Nat.reduceEqDiff, Nat.reduceBEq, Int.reduceLE, Int.reduceLT, Int.reduceEq, Int.reduceNe, Int.reduceAdd, Int.reduceSub, Int.reduceMul, Int.reduceNeg, Int.reduceToNat, Int.reduceNatCast, reduceCtorEq, eq_self]
theorem left_does (b : List Nat) (at_ : Nat) (hl : b.length ≤ 140737488351232) (ha : at_ ≤ 8 * b.length) (G T : AHeap) : Does Try.prog 57 [.ptr (G.length + 1) 0 0 0] (rH G b at_ T) (.ok (iA ((8 * b.length - at_ : Nat) : Int))) (rH G b at_ T) := by
  refine Does.of_awp (hint := (fun _ => false)) Try.func57 (by kernel_rfl) rfl [2] (by kernel_rfl) (by decide) (by simp [Try.ntmps57]) ?_
  rw [Try.ntmps57]
  simp (implicitDefEqProofs := false) only [↓reduceIte, go_sem, oread, owrite, Nat.reduceAdd, Nat.reduceSub, Nat.reduceMul, Nat.reduceLT, Nat.reduceLeDiff, Nat.reduceEqDiff, Nat.reduceBEq, Int.reduceLE, Int.reduceLT, Int.reduceEq, Int.reduceNe, Int.reduceAdd, Int.reduceSub, Int.reduceMul, Int.reduceNeg, Int.reduceToNat, Int.reduceNatCast, reduceCtorEq, eq_self, rH]
  refine awp_draw K.mixed (by kernel_rfl) ?_
  have h1 : IntKind.i64.wrap (8 * (b.length : Int)) = 8 * (b.length : Int) := wrap64_in _ (by omega) (by omega)
  have h2 : IntKind.i64.wrap (8 * (b.length : Int) - (at_ : Int)) = ((8 * b.length - at_ : Nat) : Int) := by rw [wrap64_in _ (by omega) (by omega)]; omega
  generalize 8 * b.length - at_ = z at *
  simp (implicitDefEqProofs := false) only [↓reduceIte, go_sem, oread, owrite, Nat.reduceAdd, Nat.reduceSub, Nat.reduceMul, Nat.reduceLT, Nat.reduceLeDiff, Nat.reduceEqDiff, Nat.reduceBEq, Int.reduceLE, Int.reduceLT, Int.reduceEq, Int.reduceNe, Int.reduceAdd, Int.reduceSub, Int.reduceMul, Int.reduceNeg, Int.reduceToNat, Int.reduceNatCast, reduceCtorEq, eq_self]
  refine ⟨_, Weak.refl _ _, ?_⟩
  simp (implicitDefEqProofs := false) only [↓reduceIte, go_sem, oread, owrite, Nat.reduceAdd, Nat.reduceSub, Nat.reduceMul, Nat.reduceLT, Nat.reduceLeDiff, Nat.reduceEqDiff, Nat.reduceBEq, Int.reduceLE, Int.reduceLT, Int.reduceEq, Int.reduceNe, Int.reduceAdd, Int.reduceSub, Int.reduceMul, Int.reduceNeg, Int.reduceToNat, Int.reduceNatCast, reduceCtorEq, eq_self, h1, h2]
theorem bitU (x : Nat) (j : Nat) (hx : x < 256) (hj : j < 8) : IntKind.u64.wrap (IntKind.u8.wrap (andI .u8 (shrI .u8 (x : Int) (j : Int)) 1)) = (((x.testBit j).toNat : Nat) : Int) := by
  have h1 : min j 8 = j := by omega
  have e : shrI .u8 (x : Int) (j : Int) = ((x / 2 ^ j : Nat) : Int) := by
    simp only [shrI, IntKind.bits, Int.toNat_natCast, h1]
    rw [Int.fdiv_eq_ediv_of_nonneg _ (by exact_mod_cast Nat.zero_le _)]
    norm_cast
  have h2 : x / 2 ^ j < 256 := Nat.lt_of_le_of_lt (Nat.div_le_self _ _) hx
  rw [e]
  have := andI_nat .u8 (x / 2 ^ j) 1 h2 (by decide)
  rw [show ((1 : Nat) : Int) = 1 from rfl] at this
  rw [this, Nat.and_one_is_mod, wrap8N _ (by omega), wrapU64N _ (by omega), Nat.testBit_eq_decide_div_mod_eq]
  rcases Nat.mod_two_eq_zero_or_one (x / 2 ^ j) with h | h <;> rw [h] <;> rfl
set_option maxRecDepth 10000 in
set_option maxHeartbeats 1000000 in
theorem rget_does (b : List Nat) (at_ w : Nat) (hl : b.length ≤ 140737488351232) (hb : ∀ c ∈ b, c < 256) (ha : at_ + w ≤ 8 * b.length) (hw : w ≤ 64) (G T : AHeap) :
    Does Try.prog 58 [.ptr (G.length + 1) 0 0 0, iA w] (rH G b at_ T) (.ok (.tup [du (byteOf (((bitsB b).drop at_).take w)), iA 0])) (rH G b (at_ + w) T) := by
  generalize hE : rH G b (at_ + w) T = E
  refine Does.of_awp (hint := (fun _ => false)) Try.func58 (by kernel_rfl) rfl [4, 5] (by kernel_rfl) (by decide) (by simp [Try.ntmps58]) ?_
  rw [Try.ntmps58]
  simp (implicitDefEqProofs := false) only [↓reduceIte, go_sem, oread, owrite, Nat.reduceAdd, Nat.reduceSub, Nat.reduceMul, Nat.reduceLT, Nat.reduceLeDiff, Nat.reduceEqDiff, Nat.reduceBEq, Int.reduceLE, Int.reduceLT, Int.reduceEq, Int.reduceNe, Int.reduceAdd, Int.reduceSub, Int.reduceMul, Int.reduceNeg, Int.reduceToNat, Int.reduceNatCast, reduceCtorEq, eq_self, rH, show ((w : Int) < 0) = False from eq_false (by omega), show ((64 : Int) < (w : Int)) = False from eq_false (by omega)]
  refine KCall.ok (left_does b at_ hl (by omega) G T) ?_
  simp (implicitDefEqProofs := false) only [↓reduceIte, go_sem, oread, owrite, Nat.reduceAdd, Nat.reduceSub, Nat.reduceMul, Nat.reduceLT, Nat.reduceLeDiff, Nat.reduceEqDiff, Nat.reduceBEq, Int.reduceLE, Int.reduceLT, Int.reduceEq, Int.reduceNe, Int.reduceAdd, Int.reduceSub, Int.reduceMul, Int.reduceNeg, Int.reduceToNat, Int.reduceNatCast, reduceCtorEq, eq_self, show (((8 * b.length - at_ : Nat) : Int) < (w : Int)) = False from eq_false (by omega)]
  refine awp_for (fun k s H' => H' = rH G b (at_ + k) T ∧ s 0 = .ptr (G.length + 1) 0 0 0 ∧ s 6 = du (byteOf (((bitsB b).drop at_).take k)) ∧ s 24 = iA w ∧ s 25 = iA k) w (by omega) (Weak.refl _ _) ?_ ?_ ?_
  · refine ⟨rfl, ?_⟩
    simp (implicitDefEqProofs := false) only [↓reduceIte, go_sem, oread, owrite, Nat.reduceAdd, Nat.reduceSub, Nat.reduceMul, Nat.reduceLT, Nat.reduceLeDiff, Nat.reduceEqDiff, Nat.reduceBEq, Int.reduceLE, Int.reduceLT, Int.reduceEq, Int.reduceNe, Int.reduceAdd, Int.reduceSub, Int.reduceMul, Int.reduceNeg, Int.reduceToNat, Int.reduceNatCast, reduceCtorEq, eq_self, List.take_zero, byteOf]
    rfl
  · rintro k s H' hk hw2 ⟨rfl, t0, t6, t24, t25⟩
    have hq : (at_ + k) / 8 < b.length := by omega
    have hm8 : (at_ + k) % 8 < 8 := Nat.mod_lt _ (by decide)
    have hx := List.getElem?_eq_getElem hq
    have hbx := bys_get b _ hq
    have hx8 := hb _ (List.getElem_mem hq)
    generalize b[(at_ + k) / 8] = x at hx hbx hx8
    have hbit := bitsB_get b _ x hx
    have ht := byteOf_take ((bitsB b).drop at_) k _ (by rw [List.getElem?_drop]; exact hbit)
    have hlt := byteOf_lt (((bitsB b).drop at_).take k)
    have hll : (((bitsB b).drop at_).take k).length = k := by rw [List.length_take, List.length_drop, bitsB_len]; omega
    rw [hll] at hlt
    have hu := bitU x _ hx8 hm8
    generalize x.testBit ((at_ + k) % 8) = c at hu ht
    generalize byteOf (((bitsB b).drop at_).take k) = n at hlt ht t6
    have hp63 : 2 ^ k ≤ 2 ^ 63 := Nat.pow_le_pow_right (by decide) (by omega)
    have hcl : c.toNat * 2 ^ k ≤ 2 ^ k := by cases c <;> simp
    have e7 := shlN c.toNat k (by omega) (by omega)
    have e8 := orN n c.toNat k hlt (by omega)
    obtain ⟨p, hp⟩ : ∃ p, p = at_ + k := ⟨_, rfl⟩
    rw [← hp] at hq hm8 hbx hu
    have hwq : IntKind.i64.wrap ((p / 8 : Nat) : Int) = ((p / 8 : Nat) : Int) := wrap64_in _ (by omega) (by omega)
    have hwm : IntKind.u64.wrap ((p % 8 : Nat) : Int) = ((p % 8 : Nat) : Int) := wrapU64N _ (by omega)
    have hwk : IntKind.u64.wrap ((k : Nat) : Int) = ((k : Nat) : Int) := wrapU64N _ (by omega)
    have hw3 : IntKind.i64.wrap ((p : Int) + 1) = ((p + 1 : Nat) : Int) := by rw [wrap64_in _ (by omega) (by omega)]; rfl
    simp only [← hp]
    rw [show at_ + (k + 1) = p + 1 by omega, ht]
    generalize c.toNat * 2 ^ k = y at *
    generalize n + y = z at *
    simp (implicitDefEqProofs := false) only [↓reduceIte, go_sem, oread, owrite, Nat.reduceAdd, Nat.reduceSub, Nat.reduceMul, Nat.reduceLT, Nat.reduceLeDiff, Nat.reduceEqDiff, Nat.reduceBEq, Int.reduceLE, Int.reduceLT, Int.reduceEq, Int.reduceNe, Int.reduceAdd, Int.reduceSub, Int.reduceMul, Int.reduceNeg, Int.reduceToNat, Int.reduceNatCast, reduceCtorEq, eq_self, rH, t0, t6, t24, t25, hk]
    refine awp_draw K.mixed (by kernel_rfl) ?_
    simp (implicitDefEqProofs := false) only [↓reduceIte, go_sem, oread, owrite, Nat.reduceAdd, Nat.reduceSub, Nat.reduceMul, Nat.reduceLT, Nat.reduceLeDiff, Nat.reduceEqDiff, Nat.reduceBEq, Int.reduceLE, Int.reduceLT, Int.reduceEq, Int.reduceNe, Int.reduceAdd, Int.reduceSub, Int.reduceMul, Int.reduceNeg, Int.reduceToNat, Int.reduceNatCast, reduceCtorEq, eq_self, rH, t0, t6, t24, t25, divI, modI, hwq, hwm, hwk, hbx, hq, hu, e7, e8]
    refine Rnd.same ⟨?_, ?_⟩
    · simp (implicitDefEqProofs := false) only [↓reduceIte, go_sem, oread, owrite, Nat.reduceAdd, Nat.reduceSub, Nat.reduceMul, Nat.reduceLT, Nat.reduceLeDiff, Nat.reduceEqDiff, Nat.reduceBEq, Int.reduceLE, Int.reduceLT, Int.reduceEq, Int.reduceNe, Int.reduceAdd, Int.reduceSub, Int.reduceMul, Int.reduceNeg, Int.reduceToNat, Int.reduceNatCast, reduceCtorEq, eq_self, hw3]
    · simp (implicitDefEqProofs := false) only [↓reduceIte, go_sem, oread, owrite, Nat.reduceAdd, Nat.reduceSub, Nat.reduceMul, Nat.reduceLT, Nat.reduceLeDiff, Nat.reduceEqDiff, Nat.reduceBEq, Int.reduceLE, Int.reduceLT, Int.reduceEq, Int.reduceNe, Int.reduceAdd, Int.reduceSub, Int.reduceMul, Int.reduceNeg, Int.reduceToNat, Int.reduceNatCast, reduceCtorEq, eq_self, t0, t24, t25, hw2]
  · rintro s H' ⟨rfl, t0, t6, t24, t25⟩
    simp (implicitDefEqProofs := false) only [↓reduceIte, go_sem, oread, owrite, Nat.reduceAdd, Nat.reduceSub, Nat.reduceMul, Nat.reduceLT, Nat.reduceLeDiff, Nat.reduceEqDiff, Nat.reduceBEq, Int.reduceLE, Int.reduceLT, Int.reduceEq, Int.reduceNe, Int.reduceAdd, Int.reduceSub, Int.reduceMul, Int.reduceNeg, Int.reduceToNat, Int.reduceNatCast, reduceCtorEq, eq_self, t6, t24, t25]
    rw [hE]
    exact ⟨_, Weak.refl _ _, by simp (implicitDefEqProofs := false) only [↓reduceIte, go_sem, oread, owrite, Nat.reduceAdd, Nat.reduceSub, Nat.reduceMul, Nat.reduceLT, Nat.reduceLeDiff, Nat.reduceEqDiff, Nat.reduceBEq, Int.reduceLE, Int.reduceLT, Int.reduceEq, Int.reduceNe, Int.reduceAdd, Int.reduceSub, Int.reduceMul, Int.reduceNeg, Int.reduceToNat, Int.reduceNatCast, reduceCtorEq, eq_self]⟩
end Go.Proofs.Ytcdnbefcccdaeaa
namespace Go.Proofs.Ytcdnbefcccdaeaa
open Go.Proofs.YtcdnbefcccdaeaaAw Go.RowKit
set_option linter.unusedVariables false
set_option linter.unusedSimpArgs false
def partP (b : List Nat) (w k : Nat) : Nat := byteOf (((bitsB b).drop (k * w)).take w)
def unpackL (b : List Nat) (n w : Nat) : List Nat := (List.range n).map (partP b w)
theorem unpackL_len (b : List Nat) (n w : Nat) : (unpackL b n w).length = n := by simp [unpackL]
theorem unpackL_succ (b : List Nat) (n w : Nat) : unpackL b (n + 1) w = unpackL b n w ++ [partP b w n] := by simp [unpackL, List.range_succ]
def unpackE (b : List Nat) (n w : Nat) : Int := if 8 * b.length < n * w then 3 else if n * w + 8 ≤ 8 * b.length then 4 else if byteOf ((bitsB b).drop (n * w)) = 0 then 0 else 4
def unpackA (b : List Nat) (n w : Nat) : AV := if unpackE b n w = 0 then .d (.list false (us (unpackL b n w))) else .d (.v (.slice none 0 0))
set_option maxRecDepth 10000 in
set_option maxHeartbeats 1000000 in
theorem unpack_does (b : List Nat) (n w : Nat) (nn : Bool) (hl : b.length ≤ 140737488351232) (hb : ∀ c ∈ b, c < 256) (hn : n ≤ 1048576) (hw : w ≤ 64) (H : AHeap) :
    Does Try.prog 32 [.d (.list nn (bys b)), iA n, iA w] H (.ok (.tup [unpackA b n w, iA (unpackE b n w)])) H := by
  have hnw : n * w ≤ 1048576 * 64 := Nat.mul_le_mul hn hw
  have c1 : ((n : Int) < 0) = False := eq_false (by omega)
  have c2 : ((1048576 : Int) < (n : Int)) = False := eq_false (by omega)
  have c3 : ((w : Int) < 0) = False := eq_false (by omega)
  have c4 : ((64 : Int) < (w : Int)) = False := eq_false (by omega)
  refine Does.of_awp (hint := (fun _ => false)) Try.func32 (by kernel_rfl) rfl [6, 7] (by kernel_rfl) (by decide) (by simp [Try.ntmps32]) ?_
  rw [Try.ntmps32]
  simp (implicitDefEqProofs := false) only [↓reduceIte, go_sem, oread, owrite, Nat.reduceAdd, Nat.reduceSub, Nat.reduceMul, Nat.reduceLT, Nat.reduceLeDiff, Nat.reduceEqDiff, Nat.reduceBEq, Int.reduceLE, Int.reduceLT, Int.reduceEq, Int.reduceNe, Int.reduceAdd, Int.reduceSub, Int.reduceMul, Int.reduceNeg, Int.reduceToNat, Int.reduceNatCast, reduceCtorEq, eq_self, c1, c2, c3, c4]
  refine KCall.ok (from_does b nn hl H) ?_
  simp (implicitDefEqProofs := false) only [↓reduceIte, go_sem, oread, owrite, Nat.reduceAdd, Nat.reduceSub, Nat.reduceMul, Nat.reduceLT, Nat.reduceLeDiff, Nat.reduceEqDiff, Nat.reduceBEq, Int.reduceLE, Int.reduceLT, Int.reduceEq, Int.reduceNe, Int.reduceAdd, Int.reduceSub, Int.reduceMul, Int.reduceNeg, Int.reduceToNat, Int.reduceNatCast, reduceCtorEq, eq_self]
  refine KCall.ok (left_does b 0 hl (by omega) H []) ?_
  have e1 : IntKind.i64.wrap ((n : Int) * (w : Int)) = ((n * w : Nat) : Int) := by rw [← Int.natCast_mul]; exact wrap64_in _ (by omega) (by omega)
  obtain ⟨r, hr⟩ : ∃ r : Int, r = ((8 * b.length : Nat) : Int) - ((n * w : Nat) : Int) := ⟨_, rfl⟩
  have e2 : IntKind.i64.wrap (((8 * b.length - 0 : Nat) : Int) - ((n * w : Nat) : Int)) = r := by rw [Nat.sub_zero, hr]; exact wrap64_in _ (by omega) (by omega)
  generalize hN : n * w = N at *
  generalize hM : 8 * b.length - 0 = M at *
  simp (implicitDefEqProofs := false) only [↓reduceIte, go_sem, oread, owrite, Nat.reduceAdd, Nat.reduceSub, Nat.reduceMul, Nat.reduceLT, Nat.reduceLeDiff, Nat.reduceEqDiff, Nat.reduceBEq, Int.reduceLE, Int.reduceLT, Int.reduceEq, Int.reduceNe, Int.reduceAdd, Int.reduceSub, Int.reduceMul, Int.reduceNeg, Int.reduceToNat, Int.reduceNatCast, reduceCtorEq, eq_self, e1, e2]
  by_cases h1 : r < 0
  · have hE : unpackE b n w = 3 := by unfold unpackE; rw [hN, if_pos (by omega)]
    simp (implicitDefEqProofs := false) only [↓reduceIte, go_sem, oread, owrite, Nat.reduceAdd, Nat.reduceSub, Nat.reduceMul, Nat.reduceLT, Nat.reduceLeDiff, Nat.reduceEqDiff, Nat.reduceBEq, Int.reduceLE, Int.reduceLT, Int.reduceEq, Int.reduceNe, Int.reduceAdd, Int.reduceSub, Int.reduceMul, Int.reduceNeg, Int.reduceToNat, Int.reduceNatCast, reduceCtorEq, eq_self, h1, unpackA, hE]
    unfold rH
    refine AEnd.ret ?_
    simp (implicitDefEqProofs := false) only [↓reduceIte, go_sem, oread, owrite, Nat.reduceAdd, Nat.reduceSub, Nat.reduceMul, Nat.reduceLT, Nat.reduceLeDiff, Nat.reduceEqDiff, Nat.reduceBEq, Int.reduceLE, Int.reduceLT, Int.reduceEq, Int.reduceNe, Int.reduceAdd, Int.reduceSub, Int.reduceMul, Int.reduceNeg, Int.reduceToNat, Int.reduceNatCast, reduceCtorEq, eq_self]
    simp [unpackA, hE]
  by_cases h2 : 8 ≤ r
  · have hE : unpackE b n w = 4 := by unfold unpackE; rw [hN, if_neg (by omega), if_pos (by omega)]
    simp (implicitDefEqProofs := false) only [↓reduceIte, go_sem, oread, owrite, Nat.reduceAdd, Nat.reduceSub, Nat.reduceMul, Nat.reduceLT, Nat.reduceLeDiff, Nat.reduceEqDiff, Nat.reduceBEq, Int.reduceLE, Int.reduceLT, Int.reduceEq, Int.reduceNe, Int.reduceAdd, Int.reduceSub, Int.reduceMul, Int.reduceNeg, Int.reduceToNat, Int.reduceNatCast, reduceCtorEq, eq_self, h1, h2, unpackA, hE]
    unfold rH
    refine AEnd.ret ?_
    simp (implicitDefEqProofs := false) only [↓reduceIte, go_sem, oread, owrite, Nat.reduceAdd, Nat.reduceSub, Nat.reduceMul, Nat.reduceLT, Nat.reduceLeDiff, Nat.reduceEqDiff, Nat.reduceBEq, Int.reduceLE, Int.reduceLT, Int.reduceEq, Int.reduceNe, Int.reduceAdd, Int.reduceSub, Int.reduceMul, Int.reduceNeg, Int.reduceToNat, Int.reduceNatCast, reduceCtorEq, eq_self]
    simp [unpackA, hE]
  simp (implicitDefEqProofs := false) only [↓reduceIte, go_sem, oread, owrite, Nat.reduceAdd, Nat.reduceSub, Nat.reduceMul, Nat.reduceLT, Nat.reduceLeDiff, Nat.reduceEqDiff, Nat.reduceBEq, Int.reduceLE, Int.reduceLT, Int.reduceEq, Int.reduceNe, Int.reduceAdd, Int.reduceSub, Int.reduceMul, Int.reduceNeg, Int.reduceToNat, Int.reduceNatCast, reduceCtorEq, eq_self, h1, h2]
  refine awp_for (fun k s H' => H' = rH H b (k * w) [.arr 48 1 k (us (unpackL b k w))] ∧ s 2 = iA w ∧ s 8 = .ptr (H.length + 1) 0 0 0 ∧ s 9 = iA r ∧ s 10 = .sl (H.length + 2) k 0 k ∧ s 43 = iA n ∧ s 44 = iA k) n (by omega) (Weak.virt1 _ _ 10 48 1 (by decide) (by simp (implicitDefEqProofs := false) only [↓reduceIte, go_sem, oread, owrite, Nat.reduceAdd, Nat.reduceSub, Nat.reduceMul, Nat.reduceLT, Nat.reduceLeDiff, Nat.reduceEqDiff, Nat.reduceBEq, Int.reduceLE, Int.reduceLT, Int.reduceEq, Int.reduceNe, Int.reduceAdd, Int.reduceSub, Int.reduceMul, Int.reduceNeg, Int.reduceToNat, Int.reduceNatCast, reduceCtorEq, eq_self]) _) ?_ ?_ ?_
  · refine ⟨?_, ?_⟩
    · simp (implicitDefEqProofs := false) only [↓reduceIte, go_sem, oread, owrite, Nat.reduceAdd, Nat.reduceSub, Nat.reduceMul, Nat.reduceLT, Nat.reduceLeDiff, Nat.reduceEqDiff, Nat.reduceBEq, Int.reduceLE, Int.reduceLT, Int.reduceEq, Int.reduceNe, Int.reduceAdd, Int.reduceSub, Int.reduceMul, Int.reduceNeg, Int.reduceToNat, Int.reduceNatCast, reduceCtorEq, eq_self, rH, Nat.zero_mul]
      rfl
    · simp (implicitDefEqProofs := false) only [↓reduceIte, go_sem, oread, owrite, Nat.reduceAdd, Nat.reduceSub, Nat.reduceMul, Nat.reduceLT, Nat.reduceLeDiff, Nat.reduceEqDiff, Nat.reduceBEq, Int.reduceLE, Int.reduceLT, Int.reduceEq, Int.reduceNe, Int.reduceAdd, Int.reduceSub, Int.reduceMul, Int.reduceNeg, Int.reduceToNat, Int.reduceNatCast, reduceCtorEq, eq_self, show (rH H b 0 []).length = H.length + 2 from by simp [rH]]
  · rintro k s H' hk hw2 ⟨rfl, t2, t8, t9, t10, t43, t44⟩
    simp (implicitDefEqProofs := false) only [↓reduceIte, go_sem, oread, owrite, Nat.reduceAdd, Nat.reduceSub, Nat.reduceMul, Nat.reduceLT, Nat.reduceLeDiff, Nat.reduceEqDiff, Nat.reduceBEq, Int.reduceLE, Int.reduceLT, Int.reduceEq, Int.reduceNe, Int.reduceAdd, Int.reduceSub, Int.reduceMul, Int.reduceNeg, Int.reduceToNat, Int.reduceNatCast, reduceCtorEq, eq_self, t2, t8, t43, t44, hk]
    have hkw : k * w + w ≤ n * w := by rw [← Nat.succ_mul]; exact Nat.mul_le_mul_right _ hk
    have hL := unpackL_len b k w
    have hs : unpackL b (k + 1) w = unpackL b k w ++ [byteOf (((bitsB b).drop (k * w)).take w)] := unpackL_succ b k w
    have hkw2 : (k + 1) * w = k * w + w := Nat.succ_mul k w
    refine KCall.ok (rget_does b (k * w) w hl hb (by omega) hw H _) ?_
    rw [hs, hkw2]
    generalize byteOf (((bitsB b).drop (k * w)).take w) = x
    generalize unpackL b k w = L at *
    generalize k * w = at_ at *
    simp (implicitDefEqProofs := false) only [↓reduceIte, go_sem, oread, owrite, Nat.reduceAdd, Nat.reduceSub, Nat.reduceMul, Nat.reduceLT, Nat.reduceLeDiff, Nat.reduceEqDiff, Nat.reduceBEq, Int.reduceLE, Int.reduceLT, Int.reduceEq, Int.reduceNe, Int.reduceAdd, Int.reduceSub, Int.reduceMul, Int.reduceNeg, Int.reduceToNat, Int.reduceNatCast, reduceCtorEq, eq_self, t10, t44, rH, us_len, hL, us_snoc, List.length_singleton]
    refine ⟨by omega, by omega, Rnd.same ⟨?_, ?_⟩⟩
    · simp (implicitDefEqProofs := false) only [↓reduceIte, go_sem, oread, owrite, Nat.reduceAdd, Nat.reduceSub, Nat.reduceMul, Nat.reduceLT, Nat.reduceLeDiff, Nat.reduceEqDiff, Nat.reduceBEq, Int.reduceLE, Int.reduceLT, Int.reduceEq, Int.reduceNe, Int.reduceAdd, Int.reduceSub, Int.reduceMul, Int.reduceNeg, Int.reduceToNat, Int.reduceNatCast, reduceCtorEq, eq_self, rH]
    · simp (implicitDefEqProofs := false) only [↓reduceIte, go_sem, oread, owrite, Nat.reduceAdd, Nat.reduceSub, Nat.reduceMul, Nat.reduceLT, Nat.reduceLeDiff, Nat.reduceEqDiff, Nat.reduceBEq, Int.reduceLE, Int.reduceLT, Int.reduceEq, Int.reduceNe, Int.reduceAdd, Int.reduceSub, Int.reduceMul, Int.reduceNeg, Int.reduceToNat, Int.reduceNatCast, reduceCtorEq, eq_self, t2, t8, t9, t43, t44, hw2]
  · rintro s H' ⟨rfl, t2, t8, t9, t10, t43, t44⟩
    simp (implicitDefEqProofs := false) only [↓reduceIte, go_sem, oread, owrite, Nat.reduceAdd, Nat.reduceSub, Nat.reduceMul, Nat.reduceLT, Nat.reduceLeDiff, Nat.reduceEqDiff, Nat.reduceBEq, Int.reduceLE, Int.reduceLT, Int.reduceEq, Int.reduceNe, Int.reduceAdd, Int.reduceSub, Int.reduceMul, Int.reduceNeg, Int.reduceToNat, Int.reduceNatCast, reduceCtorEq, eq_self, t8, t9, t43, t44]
    have hr3 : r = ((8 * b.length - N : Nat) : Int) := by omega
    rw [hN, hr3]
    refine KCall.ok (rget_does b N (8 * b.length - N) hl hb (by omega) (by omega) H _) ?_
    have htk : ((bitsB b).drop N).take (8 * b.length - N) = (bitsB b).drop N := List.take_of_length_le (by rw [List.length_drop, bitsB_len]; exact Nat.le_refl _)
    rw [htk]
    by_cases h0 : byteOf ((bitsB b).drop N) = 0
    · have hE : unpackE b n w = 0 := by unfold unpackE; rw [hN, if_neg (by omega), if_neg (by omega), if_pos h0]
      rw [h0]
      simp (implicitDefEqProofs := false) only [↓reduceIte, go_sem, oread, owrite, Nat.reduceAdd, Nat.reduceSub, Nat.reduceMul, Nat.reduceLT, Nat.reduceLeDiff, Nat.reduceEqDiff, Nat.reduceBEq, Int.reduceLE, Int.reduceLT, Int.reduceEq, Int.reduceNe, Int.reduceAdd, Int.reduceSub, Int.reduceMul, Int.reduceNeg, Int.reduceToNat, Int.reduceNatCast, reduceCtorEq, eq_self, t10]
      unfold rH
      refine AEnd.ret ?_
      simp (implicitDefEqProofs := false) only [↓reduceIte, go_sem, oread, owrite, Nat.reduceAdd, Nat.reduceSub, Nat.reduceMul, Nat.reduceLT, Nat.reduceLeDiff, Nat.reduceEqDiff, Nat.reduceBEq, Int.reduceLE, Int.reduceLT, Int.reduceEq, Int.reduceNe, Int.reduceAdd, Int.reduceSub, Int.reduceMul, Int.reduceNeg, Int.reduceToNat, Int.reduceNatCast, reduceCtorEq, eq_self, us_len, unpackL_len]
      rw [show (us (unpackL b n w)).take n = us (unpackL b n w) from take_len _ _ (by rw [us_len, unpackL_len])]
      simp [unpackA, hE]
    · have hE : unpackE b n w = 4 := by unfold unpackE; rw [hN, if_neg (by omega), if_neg (by omega), if_neg h0]
      have h0' : (((byteOf ((bitsB b).drop N) : Nat) : Int) = 0) = False := eq_false (by omega)
      simp (implicitDefEqProofs := false) only [↓reduceIte, go_sem, oread, owrite, Nat.reduceAdd, Nat.reduceSub, Nat.reduceMul, Nat.reduceLT, Nat.reduceLeDiff, Nat.reduceEqDiff, Nat.reduceBEq, Int.reduceLE, Int.reduceLT, Int.reduceEq, Int.reduceNe, Int.reduceAdd, Int.reduceSub, Int.reduceMul, Int.reduceNeg, Int.reduceToNat, Int.reduceNatCast, reduceCtorEq, eq_self, h0']
      unfold rH
      refine AEnd.ret ?_
      simp (implicitDefEqProofs := false) only [↓reduceIte, go_sem, oread, owrite, Nat.reduceAdd, Nat.reduceSub, Nat.reduceMul, Nat.reduceLT, Nat.reduceLeDiff, Nat.reduceEqDiff, Nat.reduceBEq, Int.reduceLE, Int.reduceLT, Int.reduceEq, Int.reduceNe, Int.reduceAdd, Int.reduceSub, Int.reduceMul, Int.reduceNeg, Int.reduceToNat, Int.reduceNatCast, reduceCtorEq, eq_self]
      simp [unpackA, hE]
end Go.Proofs.Ytcdnbefcccdaeaa
namespace Go.Proofs.Ytcdnbefcccdaeaa
open Go.Proofs.YtcdnbefcccdaeaaAw Go.RowKit
set_option linter.unusedVariables false
set_option linter.unusedSimpArgs false
theorem zigP_lt {n : Int} (h1 : -9223372036854775808 ≤ n) (h2 : n ≤ 9223372036854775807) : zigP n < 18446744073709551616 := by unfold zigP; split <;> omega
theorem wrap64_rng (n : Int) : -9223372036854775808 ≤ IntKind.i64.wrap n ∧ IntKind.i64.wrap n ≤ 9223372036854775807 := by
  have h1 := Int.emod_nonneg n (show (18446744073709551616 : Int) ≠ 0 by decide)
  have h2 := Int.emod_lt_of_pos n (show (0 : Int) < 18446744073709551616 by decide)
  simp only [IntKind.wrap, IntKind.signed, IntKind.bits]
  simp only [show ((2 : Int) ^ 64) = 18446744073709551616 from rfl, show ((2 : Int) ^ (64 - 1)) = 9223372036854775808 from rfl]
  generalize n % 18446744073709551616 = m at *
  by_cases h : m ≥ 9223372036854775808 <;> simp [h] <;> omega
def diffP (a b : Val) : Nat := zigP (IntKind.i64.wrap (b.i - a.i))
def stepsP (l : List Val) : List Nat := List.zipWith diffP l l.tail
theorem stepsP_len (l : List Val) : (stepsP l).length = l.length - 1 := by simp [stepsP]
theorem stepsP_get (l : List Val) (k : Nat) (h : k + 1 < l.length) : (stepsP l)[k]? = some (diffP l[k] l[k + 1]) := by
  simp [stepsP, List.getElem?_zipWith, List.getElem?_tail, h, show k < l.length by omega]
theorem diffP_lt (a b : Val) : diffP a b < 18446744073709551616 := zigP_lt (wrap64_rng _).1 (wrap64_rng _).2
theorem stepsP_lt (l : List Val) : ∀ n ∈ stepsP l, n < 18446744073709551616 := by
  intro n hn
  obtain ⟨k, hk⟩ := List.getElem?_of_mem hn
  have hlt := (List.getElem?_eq_some_iff.1 hk).1
  rw [stepsP_len] at hlt
  rw [stepsP_get l k (by omega)] at hk
  cases hk
  exact diffP_lt _ _
theorem take_steps (l : List Val) (k : Nat) (h : k + 1 < l.length) : (stepsP l).take (k + 1) = (stepsP l).take k ++ [diffP l[k] l[k + 1]] := by
  rw [List.take_add_one, stepsP_get l k h]; rfl
set_option maxRecDepth 10000 in
set_option maxHeartbeats 1000000 in
theorem steps_does (l : List Val) (nn : Bool) (H : AHeap) (hl : l.length ≤ 1000000000000) : Does Try.prog 11 [.d (.list nn (l.map Val.enc))] H (.ok (.d (.list false (us (stepsP l))))) H := by
  have hsl := stepsP_len l
  refine Does.of_awp (hint := (fun _ => false)) Try.func11 (by kernel_rfl) rfl [2] (by kernel_rfl) (by decide) (by simp [Try.ntmps11]) ?_
  rw [Try.ntmps11]
  simp (implicitDefEqProofs := false) only [↓reduceIte, go_sem, oread, owrite, Nat.reduceAdd, Nat.reduceSub, Nat.reduceMul, Nat.reduceLT, Nat.reduceLeDiff, Nat.reduceEqDiff, Nat.reduceBEq, Int.reduceLE, Int.reduceLT, Int.reduceEq, Int.reduceNe, Int.reduceAdd, Int.reduceSub, Int.reduceMul, Int.reduceNeg, Int.reduceToNat, Int.reduceNatCast, reduceCtorEq, eq_self]
  refine awp_for3 (fun k s H' => H' = H ++ [.arr 48 1 k (us ((stepsP l).take k))] ∧ s 0 = .d (.list nn (l.map Val.enc)) ∧ s 3 = .sl H.length k 0 k ∧ s 4 = iA ((k : Int) + 1)) (l.length - 1) (by omega) (Weak.virt1 _ _ 3 48 1 (by decide) (by simp (implicitDefEqProofs := false) only [↓reduceIte, go_sem, oread, owrite, Nat.reduceAdd, Nat.reduceSub, Nat.reduceMul, Nat.reduceLT, Nat.reduceLeDiff, Nat.reduceEqDiff, Nat.reduceBEq, Int.reduceLE, Int.reduceLT, Int.reduceEq, Int.reduceNe, Int.reduceAdd, Int.reduceSub, Int.reduceMul, Int.reduceNeg, Int.reduceToNat, Int.reduceNatCast, reduceCtorEq, eq_self]) _) ?_ ?_ ?_
  · refine ⟨?_, ?_⟩
    · simp (implicitDefEqProofs := false) only [↓reduceIte, go_sem, oread, owrite, Nat.reduceAdd, Nat.reduceSub, Nat.reduceMul, Nat.reduceLT, Nat.reduceLeDiff, Nat.reduceEqDiff, Nat.reduceBEq, Int.reduceLE, Int.reduceLT, Int.reduceEq, Int.reduceNe, Int.reduceAdd, Int.reduceSub, Int.reduceMul, Int.reduceNeg, Int.reduceToNat, Int.reduceNatCast, reduceCtorEq, eq_self, List.take_zero, us_nil]
    · simp (implicitDefEqProofs := false) only [↓reduceIte, go_sem, oread, owrite, Nat.reduceAdd, Nat.reduceSub, Nat.reduceMul, Nat.reduceLT, Nat.reduceLeDiff, Nat.reduceEqDiff, Nat.reduceBEq, Int.reduceLE, Int.reduceLT, Int.reduceEq, Int.reduceNe, Int.reduceAdd, Int.reduceSub, Int.reduceMul, Int.reduceNeg, Int.reduceToNat, Int.reduceNatCast, reduceCtorEq, eq_self]
  · rintro k s H' hk hw ⟨rfl, t0, t3, t4⟩
    have hk1 : k < l.length := by omega
    have hk2 : k + 1 < l.length := by omega
    have hx := List.getElem?_eq_getElem hk1
    have hy := List.getElem?_eq_getElem hk2
    have hs := take_steps l k hk2
    generalize l[k] = x at hx hs
    generalize l[k + 1] = y at hy hs
    have hlen : ((stepsP l).take k).length = k := by simp; omega
    have hw2 : IntKind.i64.wrap ((k : Int) + 1 - 1) = (k : Int) := by rw [wrap64_in _ (by omega) (by omega)]; omega
    have hw3 : IntKind.i64.wrap ((k : Int) + 1 + 1) = (k : Int) + 1 + 1 := wrap64_in _ (by omega) (by omega)
    have hc : ((k : Int) + 1 < (l.length : Int)) = True := eq_true (by omega)
    have ht : ((k : Int) + 1).toNat = k + 1 := by omega
    have hp : (0 ≤ (k : Int) + 1) = True := eq_true (by omega)
    generalize (stepsP l).take k = L at hs hlen
    simp (implicitDefEqProofs := false) only [↓reduceIte, go_sem, oread, owrite, Nat.reduceAdd, Nat.reduceSub, Nat.reduceMul, Nat.reduceLT, Nat.reduceLeDiff, Nat.reduceEqDiff, Nat.reduceBEq, Int.reduceLE, Int.reduceLT, Int.reduceEq, Int.reduceNe, Int.reduceAdd, Int.reduceSub, Int.reduceMul, Int.reduceNeg, Int.reduceToNat, Int.reduceNatCast, reduceCtorEq, eq_self, t0, t3, t4, hc]
    refine awp_drawK 15 K.mixed (by kernel_rfl) (by kernel_rfl) ?_
    simp (implicitDefEqProofs := false) only [↓reduceIte, go_sem, oread, owrite, Nat.reduceAdd, Nat.reduceSub, Nat.reduceMul, Nat.reduceLT, Nat.reduceLeDiff, Nat.reduceEqDiff, Nat.reduceBEq, Int.reduceLE, Int.reduceLT, Int.reduceEq, Int.reduceNe, Int.reduceAdd, Int.reduceSub, Int.reduceMul, Int.reduceNeg, Int.reduceToNat, Int.reduceNatCast, reduceCtorEq, eq_self, t0, t3, t4, hw2, hx, hy, hc, ht, hp, hk1, hk2, Val.enc]
    refine KCall.ok (zig_does _ (wrap64_rng _).1 (wrap64_rng _).2 _) ?_
    simp (implicitDefEqProofs := false) only [↓reduceIte, go_sem, oread, owrite, Nat.reduceAdd, Nat.reduceSub, Nat.reduceMul, Nat.reduceLT, Nat.reduceLeDiff, Nat.reduceEqDiff, Nat.reduceBEq, Int.reduceLE, Int.reduceLT, Int.reduceEq, Int.reduceNe, Int.reduceAdd, Int.reduceSub, Int.reduceMul, Int.reduceNeg, Int.reduceToNat, Int.reduceNatCast, reduceCtorEq, eq_self, us_len, hlen, t4, us_snoc]
    refine ⟨by omega, by omega, Rnd.same ⟨?_, ?_⟩⟩
    · rw [hs]; rfl
    · simp (implicitDefEqProofs := false) only [↓reduceIte, go_sem, oread, owrite, Nat.reduceAdd, Nat.reduceSub, Nat.reduceMul, Nat.reduceLT, Nat.reduceLeDiff, Nat.reduceEqDiff, Nat.reduceBEq, Int.reduceLE, Int.reduceLT, Int.reduceEq, Int.reduceNe, Int.reduceAdd, Int.reduceSub, Int.reduceMul, Int.reduceNeg, Int.reduceToNat, Int.reduceNatCast, reduceCtorEq, eq_self, t0, hw3]
      trace_state
  · rintro s H' ⟨rfl, t0, t3, t4⟩
    have hc : (((l.length - 1 : Nat) : Int) + 1 < (l.length : Int)) = False := eq_false (by omega)
    simp (implicitDefEqProofs := false) only [↓reduceIte, go_sem, oread, owrite, Nat.reduceAdd, Nat.reduceSub, Nat.reduceMul, Nat.reduceLT, Nat.reduceLeDiff, Nat.reduceEqDiff, Nat.reduceBEq, Int.reduceLE, Int.reduceLT, Int.reduceEq, Int.reduceNe, Int.reduceAdd, Int.reduceSub, Int.reduceMul, Int.reduceNeg, Int.reduceToNat, Int.reduceNatCast, reduceCtorEq, eq_self, t0, t3, t4, hc]
    refine AEnd.ret ?_
    simp (implicitDefEqProofs := false) only [↓reduceIte, go_sem, oread, owrite, Nat.reduceAdd, Nat.reduceSub, Nat.reduceMul, Nat.reduceLT, Nat.reduceLeDiff, Nat.reduceEqDiff, Nat.reduceBEq, Int.reduceLE, Int.reduceLT, Int.reduceEq, Int.reduceNe, Int.reduceAdd, Int.reduceSub, Int.reduceMul, Int.reduceNeg, Int.reduceToNat, Int.reduceNatCast, reduceCtorEq, eq_self, take_len, us_len, hsl]
end Go.Proofs.Ytcdnbefcccdaeaa
namespace Go.Proofs.Ytcdnbefcccdaeaa
open Go.Proofs.YtcdnbefcccdaeaaAw Go.RowKit
set_option linter.unusedVariables false
def I64 (n : Int) : Prop := -9223372036854775808 ≤ n ∧ n ≤ 9223372036854775807
theorem I64.of {n : Int} (h : (Lit.int .i64 n).wf = true) : I64 n := by
  have h : IntKind.i64.min ≤ n ∧ n ≤ IntKind.i64.max := by simpa [Lit.wf] using h
  have h0 : IntKind.i64.min = -9223372036854775808 := by decide
  have h1 : IntKind.i64.max = 9223372036854775807 := by decide
  exact ⟨by omega, by omega⟩
theorem FitsL.nil_inv {xs : List D} (h : FitsL [] xs) : xs = [] := by cases h; rfl
theorem FitsL.cons_inv {s : Sh} {ss : List Sh} {xs : List D} (h : FitsL (s :: ss) xs) : ∃ x xs', xs = x :: xs' ∧ Fits s x ∧ FitsL ss xs' := by cases h with | cons h t => exact ⟨_, _, rfl, h, t⟩
theorem Fits.int_inv {k : IntKind} {d : D} (h : Fits (.int k) d) : ∃ n, d = .v (.int k n) ∧ (Lit.int k n).wf = true := by cases h with | int k n h => exact ⟨n, rfl, h⟩
theorem Fits.i64_inv {d : D} (h : Fits (.int .i64) d) : ∃ n, d = .v (.int .i64 n) ∧ I64 n := by obtain ⟨n, rfl, g⟩ := Fits.int_inv h; exact ⟨n, rfl, .of g⟩
theorem Fits.bool_inv {d : D} (h : Fits .bool d) : ∃ b, d = .v (.bool b) := by cases h with | bool b => exact ⟨b, rfl⟩
theorem Fits.str_inv {d : D} (h : Fits .str d) : ∃ s, d = .v (.string s) ∧ s.size ≤ 140737488351232 := by cases h with | str s h => exact ⟨s, rfl, h⟩
theorem Fits.slice_inv {b : Nat} {es : List Sh} {d : D} (h : Fits (.slice b es) d) : ∃ l, d = .list false l ∧ l.length * b ≤ 140737488351232 ∧ ∀ e ∈ l, FitsL es e := by cases h with | slice b es l h1 h2 h => exact ⟨l, rfl, h1, h⟩
theorem map_inv {α : Type} {enc : α → List D} {p : α → Prop} : ∀ {l : List (List D)}, (∀ e ∈ l, ∃ a, e = enc a ∧ p a) → ∃ la : List α, l = la.map enc ∧ ∀ a ∈ la, p a
  | [], _ => ⟨[], rfl, fun a h => by simp at h⟩
  | e :: l, h => by
    obtain ⟨a, rfl, ha⟩ := h e (List.mem_cons_self ..)
    obtain ⟨la, rfl, hl⟩ := map_inv (l := l) fun e he => h e (by simp [he])
    exact ⟨a :: la, rfl, fun b hb => by rcases List.mem_cons.1 hb with rfl | hb; exact ha; exact hl b hb⟩
structure Val.Ok (v : Val) : Prop where
  kind : I64 v.kind
  i : I64 v.i
  s : v.s.size ≤ 140737488351232
structure Atom.Ok (a : Atom) : Prop where
  col : I64 a.col
  op : I64 a.op
  val : a.val.Ok
def shVal : List Sh := [.int .i64, .int .i64, .str]
def shAtom : List Sh := [.int .i64, .int .i64, .int .i64, .int .i64, .str]
theorem val_inv {ds : List D} (h : FitsL shVal ds) : ∃ v : Val, ds = v.enc ∧ v.Ok := by
  obtain ⟨x, xs, rfl, hx, h⟩ := FitsL.cons_inv h
  obtain ⟨y, xs, rfl, hy, h⟩ := FitsL.cons_inv h
  obtain ⟨z, xs, rfl, hz, h⟩ := FitsL.cons_inv h
  cases FitsL.nil_inv h
  obtain ⟨k, rfl, hk⟩ := Fits.i64_inv hx
  obtain ⟨i, rfl, hi⟩ := Fits.i64_inv hy
  obtain ⟨s, rfl, hs⟩ := Fits.str_inv hz
  exact ⟨⟨k, i, s⟩, rfl, hk, hi, hs⟩
theorem atom_inv {ds : List D} (h : FitsL shAtom ds) : ∃ a : Atom, ds = a.enc ∧ a.Ok := by
  obtain ⟨c, xs, rfl, hc, h⟩ := FitsL.cons_inv h
  obtain ⟨o, xs, rfl, ho, h⟩ := FitsL.cons_inv h
  obtain ⟨v, rfl, hv⟩ := val_inv h
  obtain ⟨k, rfl, hk⟩ := Fits.i64_inv hc
  obtain ⟨i, rfl, hi⟩ := Fits.i64_inv ho
  exact ⟨⟨k, i, v⟩, rfl, hk, hi, hv⟩
theorem ints_inv {b : Nat} {d : D} (h : Fits (.slice b [.int .i64]) d) : ∃ l : List Int, d = .list false (ints l) ∧ l.length * b ≤ 140737488351232 ∧ ∀ n ∈ l, I64 n := by
  obtain ⟨l, rfl, h1, h2⟩ := Fits.slice_inv h
  obtain ⟨la, rfl, h3⟩ := map_inv (enc := fun n : Int => [.v (.int .i64 n)]) (p := I64) fun e he => by
    obtain ⟨x, xs, rfl, hx, h⟩ := FitsL.cons_inv (h2 e he)
    cases FitsL.nil_inv h
    obtain ⟨n, rfl, hn⟩ := Fits.i64_inv hx
    exact ⟨n, rfl, hn⟩
  exact ⟨la, rfl, by simpa using h1, h3⟩
theorem vals_inv {b : Nat} {d : D} (h : Fits (.slice b shVal) d) : ∃ l : List Val, d = .list false (l.map Val.enc) ∧ l.length * b ≤ 140737488351232 ∧ ∀ v ∈ l, v.Ok := by
  obtain ⟨l, rfl, h1, h2⟩ := Fits.slice_inv h
  obtain ⟨la, rfl, h3⟩ := map_inv (enc := Val.enc) (p := Val.Ok) fun e he => val_inv (h2 e he)
  exact ⟨la, rfl, by simpa using h1, h3⟩
theorem atoms_inv {b : Nat} {d : D} (h : Fits (.slice b shAtom) d) : ∃ l : List Atom, d = .list false (l.map Atom.enc) ∧ l.length * b ≤ 140737488351232 ∧ ∀ v ∈ l, v.Ok := by
  obtain ⟨l, rfl, h1, h2⟩ := Fits.slice_inv h
  obtain ⟨la, rfl, h3⟩ := map_inv (enc := Atom.enc) (p := Atom.Ok) fun e he => atom_inv (h2 e he)
  exact ⟨la, rfl, by simpa using h1, h3⟩
theorem arg_one {P : Program} {t : TypeId} {x : AV} {sh : Sh} (h : ArgOk P t x) (hg : agB P t = some false) (hs : shOf P 9 t = some [sh]) : ∃ d, x = .d d ∧ Fits sh d := by
  rcases h with ⟨_, sh', d, hs', hf, rfl⟩ | ⟨hg', _⟩
  · rw [hs] at hs'; cases hs'; exact ⟨d, rfl, hf⟩
  · rw [hg] at hg'; cases hg'
theorem arg_agg {P : Program} {t : TypeId} {x : AV} {shs : List Sh} (h : ArgOk P t x) (hg : agB P t = some true) (hs : shOf P 9 t = some shs) : ∃ ds : List D, x = .agg (ds.map .d) ∧ FitsL shs ds := by
  rcases h with ⟨hg', _⟩ | ⟨_, shs', ds, hs', hf, rfl⟩
  · rw [hg] at hg'; cases hg'
  · rw [hs] at hs'; cases hs'; exact ⟨ds, rfl, hf⟩
end Go.Proofs.Ytcdnbefcccdaeaa
namespace Go.Proofs.Ytcdnbefcccdaeaa
open Go.Proofs.YtcdnbefcccdaeaaAw Go.RowKit
set_option linter.unusedVariables false
set_option linter.unusedSimpArgs false
def okAt (l : List Val) (k : Nat) : Prop := ∀ x y, l[k]? = some x → l[k + 1]? = some y → cmpV x y ≤ 0
def sortedP (l : List Val) : Bool := (List.range (l.length - 1)).all fun k => match l[k]?, l[k + 1]? with | some x, some y => decide (cmpV x y ≤ 0) | _, _ => true
theorem sortedP_iff (l : List Val) : sortedP l = true ↔ ∀ k, okAt l k := by
  unfold sortedP okAt
  rw [List.all_eq_true]
  constructor
  · intro h k x y hx hy
    have hlt := (List.getElem?_eq_some_iff.1 hy).1
    have := h k (List.mem_range.2 (by omega))
    rw [hx, hy] at this
    simpa using this
  · intro h k hk
    split
    · rename_i x y hx hy
      simpa using h k x y hx hy
    · rfl
set_option maxRecDepth 10000 in
set_option maxHeartbeats 1000000 in
theorem sorted_does (l : List Val) (nn : Bool) (H : AHeap) (hl : l.length ≤ 1000000000000) : Does Try.prog 12 [.d (.list nn (l.map Val.enc))] H (.ok (bA (sortedP l))) H := by
  refine Does.of_awp (hint := (fun _ => false)) Try.func12 (by kernel_rfl) rfl [2] (by kernel_rfl) (by decide) (by simp [Try.ntmps12]) ?_
  rw [Try.ntmps12]
  simp (implicitDefEqProofs := false) only [↓reduceIte, go_sem, oread, owrite, Nat.reduceAdd, Nat.reduceSub, Nat.reduceMul, Nat.reduceLT, Nat.reduceLeDiff, Nat.reduceEqDiff, Nat.reduceBEq, Int.reduceLE, Int.reduceLT, Int.reduceEq, Int.reduceNe, Int.reduceAdd, Int.reduceSub, Int.reduceMul, Int.reduceNeg, Int.reduceToNat, Int.reduceNatCast, reduceCtorEq, eq_self]
  refine awp_for (fun i s H' => H' = H ∧ (∀ j, j + 1 < i → okAt l j) ∧ s 0 = .d (.list nn (l.map Val.enc)) ∧ s 3 = bA true ∧ s 7 = iA l.length ∧ s 8 = iA i) l.length (by omega) (Weak.refl _ _) ?_ ?_ ?_
  · refine ⟨rfl, fun j hj => by omega, ?_⟩
    simp (implicitDefEqProofs := false) only [↓reduceIte, go_sem, oread, owrite, Nat.reduceAdd, Nat.reduceSub, Nat.reduceMul, Nat.reduceLT, Nat.reduceLeDiff, Nat.reduceEqDiff, Nat.reduceBEq, Int.reduceLE, Int.reduceLT, Int.reduceEq, Int.reduceNe, Int.reduceAdd, Int.reduceSub, Int.reduceMul, Int.reduceNeg, Int.reduceToNat, Int.reduceNatCast, reduceCtorEq, eq_self]
  · rintro i s H' hi hw ⟨rfl, hp, t0, t3, t7, t8⟩
    simp (implicitDefEqProofs := false) only [↓reduceIte, go_sem, oread, owrite, Nat.reduceAdd, Nat.reduceSub, Nat.reduceMul, Nat.reduceLT, Nat.reduceLeDiff, Nat.reduceEqDiff, Nat.reduceBEq, Int.reduceLE, Int.reduceLT, Int.reduceEq, Int.reduceNe, Int.reduceAdd, Int.reduceSub, Int.reduceMul, Int.reduceNeg, Int.reduceToNat, Int.reduceNatCast, reduceCtorEq, eq_self, t7, t8, hi]
    refine awp_for (fun k s H1 => H1 = H' ∧ (k < i ∨ i = 0 ∨ okAt l (i - 1)) ∧ s 0 = .d (.list nn (l.map Val.enc)) ∧ s 3 = bA true ∧ s 4 = iA i ∧ s 7 = iA l.length ∧ s 8 = iA i ∧ s 11 = iA i ∧ s 12 = iA k) i (by omega) (Weak.refl _ _) ?_ ?_ ?_
    · refine ⟨rfl, by omega, ?_⟩
      simp (implicitDefEqProofs := false) only [↓reduceIte, go_sem, oread, owrite, Nat.reduceAdd, Nat.reduceSub, Nat.reduceMul, Nat.reduceLT, Nat.reduceLeDiff, Nat.reduceEqDiff, Nat.reduceBEq, Int.reduceLE, Int.reduceLT, Int.reduceEq, Int.reduceNe, Int.reduceAdd, Int.reduceSub, Int.reduceMul, Int.reduceNeg, Int.reduceToNat, Int.reduceNatCast, reduceCtorEq, eq_self, t0, t3, t7, t8]
    · rintro k s H1 hk hw2 ⟨rfl, hq, t0, t3, t4, t7, t8, t11, t12⟩
      have hx := List.getElem?_eq_getElem (show k < l.length by omega)
      have hy := List.getElem?_eq_getElem hi
      generalize l[k] = x at hx
      generalize l[i] = y at hy
      have e1 : IntKind.i64.wrap ((i : Int) - 1) = ((i - 1 : Nat) : Int) := by rw [wrap64_in _ (by omega) (by omega)]; omega
      have hkl : k < l.length := by omega
      simp (implicitDefEqProofs := false) only [↓reduceIte, go_sem, oread, owrite, Nat.reduceAdd, Nat.reduceSub, Nat.reduceMul, Nat.reduceLT, Nat.reduceLeDiff, Nat.reduceEqDiff, Nat.reduceBEq, Int.reduceLE, Int.reduceLT, Int.reduceEq, Int.reduceNe, Int.reduceAdd, Int.reduceSub, Int.reduceMul, Int.reduceNeg, Int.reduceToNat, Int.reduceNatCast, reduceCtorEq, eq_self, t11, t12, hk]
      refine awp_draw K.mixed (by kernel_rfl) ?_
      by_cases hki : k = i - 1
      · have hki' : ((k : Int) = ((i - 1 : Nat) : Int)) = True := eq_true (by omega)
        simp (implicitDefEqProofs := false) only [↓reduceIte, go_sem, oread, owrite, Nat.reduceAdd, Nat.reduceSub, Nat.reduceMul, Nat.reduceLT, Nat.reduceLeDiff, Nat.reduceEqDiff, Nat.reduceBEq, Int.reduceLE, Int.reduceLT, Int.reduceEq, Int.reduceNe, Int.reduceAdd, Int.reduceSub, Int.reduceMul, Int.reduceNeg, Int.reduceToNat, Int.reduceNatCast, reduceCtorEq, eq_self, t0, t4, t12, e1, hki', hx, hy, hkl, hi, Val.enc]
        refine KCall.ok (vcmp_does x y _) ?_
        by_cases hc : 0 < cmpV x y
        · simp (implicitDefEqProofs := false) only [↓reduceIte, go_sem, oread, owrite, Nat.reduceAdd, Nat.reduceSub, Nat.reduceMul, Nat.reduceLT, Nat.reduceLeDiff, Nat.reduceEqDiff, Nat.reduceBEq, Int.reduceLE, Int.reduceLT, Int.reduceEq, Int.reduceNe, Int.reduceAdd, Int.reduceSub, Int.reduceMul, Int.reduceNeg, Int.reduceToNat, Int.reduceNatCast, reduceCtorEq, eq_self, hc]
          refine AEnd.ret0 ?_
          have : sortedP l = false := by
            rw [Bool.eq_false_iff]
            intro h
            have := (sortedP_iff l).1 h k x y hx (by rw [show k + 1 = i by omega]; exact hy)
            omega
          simp (implicitDefEqProofs := false) only [↓reduceIte, go_sem, oread, owrite, Nat.reduceAdd, Nat.reduceSub, Nat.reduceMul, Nat.reduceLT, Nat.reduceLeDiff, Nat.reduceEqDiff, Nat.reduceBEq, Int.reduceLE, Int.reduceLT, Int.reduceEq, Int.reduceNe, Int.reduceAdd, Int.reduceSub, Int.reduceMul, Int.reduceNeg, Int.reduceToNat, Int.reduceNatCast, reduceCtorEq, eq_self, this]
        · simp (implicitDefEqProofs := false) only [↓reduceIte, go_sem, oread, owrite, Nat.reduceAdd, Nat.reduceSub, Nat.reduceMul, Nat.reduceLT, Nat.reduceLeDiff, Nat.reduceEqDiff, Nat.reduceBEq, Int.reduceLE, Int.reduceLT, Int.reduceEq, Int.reduceNe, Int.reduceAdd, Int.reduceSub, Int.reduceMul, Int.reduceNeg, Int.reduceToNat, Int.reduceNatCast, reduceCtorEq, eq_self, hc, t12]
          refine Rnd.same ⟨rfl, .inr (.inr ?_), ?_⟩
          · intro x' y' hx' hy'
            rw [← hki, hx] at hx'
            rw [show i - 1 + 1 = i by omega, hy] at hy'
            cases hx'; cases hy'
            omega
          · simp (implicitDefEqProofs := false) only [↓reduceIte, go_sem, oread, owrite, Nat.reduceAdd, Nat.reduceSub, Nat.reduceMul, Nat.reduceLT, Nat.reduceLeDiff, Nat.reduceEqDiff, Nat.reduceBEq, Int.reduceLE, Int.reduceLT, Int.reduceEq, Int.reduceNe, Int.reduceAdd, Int.reduceSub, Int.reduceMul, Int.reduceNeg, Int.reduceToNat, Int.reduceNatCast, reduceCtorEq, eq_self, t0, t3, t4, t7, t8, t11, hw2]
      · have hki' : ((k : Int) = ((i - 1 : Nat) : Int)) = False := eq_false (by omega)
        simp (implicitDefEqProofs := false) only [↓reduceIte, go_sem, oread, owrite, Nat.reduceAdd, Nat.reduceSub, Nat.reduceMul, Nat.reduceLT, Nat.reduceLeDiff, Nat.reduceEqDiff, Nat.reduceBEq, Int.reduceLE, Int.reduceLT, Int.reduceEq, Int.reduceNe, Int.reduceAdd, Int.reduceSub, Int.reduceMul, Int.reduceNeg, Int.reduceToNat, Int.reduceNatCast, reduceCtorEq, eq_self, t0, t4, t12, e1, hki']
        refine Rnd.same ⟨rfl, by omega, ?_⟩
        simp (implicitDefEqProofs := false) only [↓reduceIte, go_sem, oread, owrite, Nat.reduceAdd, Nat.reduceSub, Nat.reduceMul, Nat.reduceLT, Nat.reduceLeDiff, Nat.reduceEqDiff, Nat.reduceBEq, Int.reduceLE, Int.reduceLT, Int.reduceEq, Int.reduceNe, Int.reduceAdd, Int.reduceSub, Int.reduceMul, Int.reduceNeg, Int.reduceToNat, Int.reduceNatCast, reduceCtorEq, eq_self, t0, t3, t4, t7, t8, t11, hw2]
    · rintro s H1 ⟨rfl, hq, t0, t3, t4, t7, t8, t11, t12⟩
      simp (implicitDefEqProofs := false) only [↓reduceIte, go_sem, oread, owrite, Nat.reduceAdd, Nat.reduceSub, Nat.reduceMul, Nat.reduceLT, Nat.reduceLeDiff, Nat.reduceEqDiff, Nat.reduceBEq, Int.reduceLE, Int.reduceLT, Int.reduceEq, Int.reduceNe, Int.reduceAdd, Int.reduceSub, Int.reduceMul, Int.reduceNeg, Int.reduceToNat, Int.reduceNatCast, reduceCtorEq, eq_self, t8, t11, t12]
      refine Rnd.same ⟨rfl, ?_, ?_⟩
      · intro j hj
        rcases Nat.lt_or_ge (j + 1) i with h | h
        · exact hp j h
        · rcases hq with h1 | h1 | h1
          · omega
          · omega
          · rwa [show j = i - 1 by omega]
      · simp (implicitDefEqProofs := false) only [↓reduceIte, go_sem, oread, owrite, Nat.reduceAdd, Nat.reduceSub, Nat.reduceMul, Nat.reduceLT, Nat.reduceLeDiff, Nat.reduceEqDiff, Nat.reduceBEq, Int.reduceLE, Int.reduceLT, Int.reduceEq, Int.reduceNe, Int.reduceAdd, Int.reduceSub, Int.reduceMul, Int.reduceNeg, Int.reduceToNat, Int.reduceNatCast, reduceCtorEq, eq_self, t0, t3, t7, hw]
  · rintro s H' ⟨rfl, hp, t0, t3, t7, t8⟩
    simp (implicitDefEqProofs := false) only [↓reduceIte, go_sem, oread, owrite, Nat.reduceAdd, Nat.reduceSub, Nat.reduceMul, Nat.reduceLT, Nat.reduceLeDiff, Nat.reduceEqDiff, Nat.reduceBEq, Int.reduceLE, Int.reduceLT, Int.reduceEq, Int.reduceNe, Int.reduceAdd, Int.reduceSub, Int.reduceMul, Int.reduceNeg, Int.reduceToNat, Int.reduceNatCast, reduceCtorEq, eq_self, t3, t7, t8]
    refine AEnd.ret0 ?_
    have : sortedP l = true := by
      rw [sortedP_iff]
      intro k x y hx hy
      exact hp k (List.getElem?_eq_some_iff.1 hy).1 x y hx hy
    simp (implicitDefEqProofs := false) only [↓reduceIte, go_sem, oread, owrite, Nat.reduceAdd, Nat.reduceSub, Nat.reduceMul, Nat.reduceLT, Nat.reduceLeDiff, Nat.reduceEqDiff, Nat.reduceBEq, Int.reduceLE, Int.reduceLT, Int.reduceEq, Int.reduceNe, Int.reduceAdd, Int.reduceSub, Int.reduceMul, Int.reduceNeg, Int.reduceToNat, Int.reduceNatCast, reduceCtorEq, eq_self, this]
/-! ### delta.Bytes -/
def bytesD (l : List Val) : List Nat := match l with
  | [] => []
  | v :: _ => putP (zigP v.i) ++ putP (widthP (stepsP l)) ++ packP (stepsP l) (widthP (stepsP l))
def deltaR (l : List Val) : AV := if plainP l 1 = 0 ∧ l ≠ [] then .tup [.d (.list false (bys (bytesD l))), iA 0] else .tup [.d (.v (.slice none 0 0)), iA (plainP l 1)]
theorem foldOr_le {l : List Nat} : ∀ {a : Nat}, a ≤ l.foldl (· ||| ·) a ∧ ∀ n ∈ l, n ≤ l.foldl (· ||| ·) a := by
  induction l with
  | nil => intro a; exact ⟨Nat.le_refl _, fun n hn => by simp at hn⟩
  | cons x l ih =>
    intro a
    simp only [List.foldl_cons]
    have h := ih (a := a ||| x)
    refine ⟨Nat.le_trans Nat.left_le_or h.1, fun n hn => ?_⟩
    rcases List.mem_cons.1 hn with rfl | hn
    · exact Nat.le_trans Nat.right_le_or h.1
    · exact h.2 n hn
theorem widthP_fits {l : List Nat} : ∀ n ∈ l, n < 2 ^ widthP l := fun n hn => Nat.lt_of_le_of_lt (foldOr_le.2 n hn) ((lenN_le _ _).1 (Nat.le_refl _))
theorem widthP_le {l : List Nat} (h : ∀ n ∈ l, n < 18446744073709551616) : widthP l ≤ 64 := lenN_le64 (foldOr_lt h (by decide))
theorem putP_len : ∀ (k n : Nat), n < 128 ^ k → (putP n).length ≤ k + 1 := by
  intro k
  induction k with
  | zero => intro n hn; rw [putP_small (by omega)]; simp
  | succ k ih =>
    intro n hn
    by_cases h : n < 128
    · rw [putP_small h]; simp
    · rw [putP_big h, List.length_cons]
      have := ih (n / 128) (by rw [Nat.div_lt_iff_lt_mul (by decide)]; exact hn)
      omega
theorem plainP_len {l : List Val} {k : Int} (h : plainP l k = 0) : l.length ≤ 4096 := by
  unfold plainP at h
  by_cases h1 : 4096 < l.length
  · rw [if_pos h1] at h
    split at h <;> omega
  · omega
set_option maxRecDepth 10000 in
set_option maxHeartbeats 1000000 in
theorem dbytes_does (l : List Val) (hok : ∀ v ∈ l, I64 v.i) (nn : Bool) (H : AHeap) (hl : l.length ≤ 1000000000000) : Does Try.prog 9 [.d (.list nn (l.map Val.enc))] H (.ok (deltaR l)) H := by
  have hbad : ∀ b : Bool, b = true ∨ b = false := by decide
  refine Does.of_awp (hint := (fun _ => false)) Try.func9 (by kernel_rfl) rfl [2, 3] (by kernel_rfl) (by decide) (by simp [Try.ntmps9]) ?_
  rw [Try.ntmps9]
  simp (implicitDefEqProofs := false) only [↓reduceIte, go_sem, oread, owrite, Nat.reduceAdd, Nat.reduceSub, Nat.reduceMul, Nat.reduceLT, Nat.reduceLeDiff, Nat.reduceEqDiff, Nat.reduceBEq, Int.reduceLE, Int.reduceLT, Int.reduceEq, Int.reduceNe, Int.reduceAdd, Int.reduceSub, Int.reduceMul, Int.reduceNeg, Int.reduceToNat, Int.reduceNatCast, reduceCtorEq, eq_self]
  refine KCall.ok (plain_does l 1 nn _ (by omega)) ?_
  by_cases h1 : plainP l 1 = 0
  · cases l with
    | nil =>
      simp (implicitDefEqProofs := false) only [↓reduceIte, go_sem, oread, owrite, Nat.reduceAdd, Nat.reduceSub, Nat.reduceMul, Nat.reduceLT, Nat.reduceLeDiff, Nat.reduceEqDiff, Nat.reduceBEq, Int.reduceLE, Int.reduceLT, Int.reduceEq, Int.reduceNe, Int.reduceAdd, Int.reduceSub, Int.reduceMul, Int.reduceNeg, Int.reduceToNat, Int.reduceNatCast, reduceCtorEq, eq_self, h1]
      refine AEnd.ret0 ?_
      simp (implicitDefEqProofs := false) only [↓reduceIte, go_sem, oread, owrite, Nat.reduceAdd, Nat.reduceSub, Nat.reduceMul, Nat.reduceLT, Nat.reduceLeDiff, Nat.reduceEqDiff, Nat.reduceBEq, Int.reduceLE, Int.reduceLT, Int.reduceEq, Int.reduceNe, Int.reduceAdd, Int.reduceSub, Int.reduceMul, Int.reduceNeg, Int.reduceToNat, Int.reduceNatCast, reduceCtorEq, eq_self, deltaR, h1, Ne, not_true, and_false]
    | cons v r =>
      have hs := stepsP_len (v :: r)
      have h4 := plainP_len h1
      have hl0 : (((v :: r).length : Nat) : Int) = 0 ↔ False := by simp; omega
      have hll := hok v (by simp)
      have hss := stepsP_lt (v :: r)
      simp (implicitDefEqProofs := false) only [↓reduceIte, go_sem, oread, owrite, Nat.reduceAdd, Nat.reduceSub, Nat.reduceMul, Nat.reduceLT, Nat.reduceLeDiff, Nat.reduceEqDiff, Nat.reduceBEq, Int.reduceLE, Int.reduceLT, Int.reduceEq, Int.reduceNe, Int.reduceAdd, Int.reduceSub, Int.reduceMul, Int.reduceNeg, Int.reduceToNat, Int.reduceNatCast, reduceCtorEq, eq_self, h1, show (((r.length : Nat) : Int) + 1 = 0) = False from eq_false (by omega)]
      refine KCall.ok (steps_does (v :: r) nn _ hl) ?_
      simp (implicitDefEqProofs := false) only [↓reduceIte, go_sem, oread, owrite, Nat.reduceAdd, Nat.reduceSub, Nat.reduceMul, Nat.reduceLT, Nat.reduceLeDiff, Nat.reduceEqDiff, Nat.reduceBEq, Int.reduceLE, Int.reduceLT, Int.reduceEq, Int.reduceNe, Int.reduceAdd, Int.reduceSub, Int.reduceMul, Int.reduceNeg, Int.reduceToNat, Int.reduceNatCast, reduceCtorEq, eq_self]
      refine KCall.ok (width_does _ false _ (by omega) hss) ?_
      have hw64 := widthP_le hss
      have hfit := widthP_fits (l := stepsP (v :: r))
      have hzl := zigP_lt hll.1 hll.2
      have hb : bytesD (v :: r) = putP (zigP v.i) ++ putP (widthP (stepsP (v :: r))) ++ packP (stepsP (v :: r)) (widthP (stepsP (v :: r))) := rfl
      generalize widthP (stepsP (v :: r)) = w at *
      generalize stepsP (v :: r) = S at *
      simp (implicitDefEqProofs := false) only [↓reduceIte, go_sem, oread, owrite, Nat.reduceAdd, Nat.reduceSub, Nat.reduceMul, Nat.reduceLT, Nat.reduceLeDiff, Nat.reduceEqDiff, Nat.reduceBEq, Int.reduceLE, Int.reduceLT, Int.reduceEq, Int.reduceNe, Int.reduceAdd, Int.reduceSub, Int.reduceMul, Int.reduceNeg, Int.reduceToNat, Int.reduceNatCast, reduceCtorEq, eq_self, Val.enc]
      refine KCall.ok (zig_does _ hll.1 hll.2 _) ?_
      simp (implicitDefEqProofs := false) only [↓reduceIte, go_sem, oread, owrite, Nat.reduceAdd, Nat.reduceSub, Nat.reduceMul, Nat.reduceLT, Nat.reduceLeDiff, Nat.reduceEqDiff, Nat.reduceBEq, Int.reduceLE, Int.reduceLT, Int.reduceEq, Int.reduceNe, Int.reduceAdd, Int.reduceSub, Int.reduceMul, Int.reduceNeg, Int.reduceToNat, Int.reduceNatCast, reduceCtorEq, eq_self]
      refine KCall.ok (putOwn_does _ hzl _) ?_
      simp (implicitDefEqProofs := false) only [↓reduceIte, go_sem, oread, owrite, Nat.reduceAdd, Nat.reduceSub, Nat.reduceMul, Nat.reduceLT, Nat.reduceLeDiff, Nat.reduceEqDiff, Nat.reduceBEq, Int.reduceLE, Int.reduceLT, Int.reduceEq, Int.reduceNe, Int.reduceAdd, Int.reduceSub, Int.reduceMul, Int.reduceNeg, Int.reduceToNat, Int.reduceNatCast, reduceCtorEq, eq_self, wrapU64N w (by omega)]
      refine KCall.ok (put_does w (by omega) _) ?_
      have l1 := putP_len 10 (zigP v.i) (by omega)
      have l2 := putP_len 10 w (by omega)
      simp (implicitDefEqProofs := false) only [↓reduceIte, go_sem, oread, owrite, Nat.reduceAdd, Nat.reduceSub, Nat.reduceMul, Nat.reduceLT, Nat.reduceLeDiff, Nat.reduceEqDiff, Nat.reduceBEq, Int.reduceLE, Int.reduceLT, Int.reduceEq, Int.reduceNe, Int.reduceAdd, Int.reduceSub, Int.reduceMul, Int.reduceNeg, Int.reduceToNat, Int.reduceNatCast, reduceCtorEq, eq_self, bys_one, bys_len, bys_app]
      refine ⟨by omega, by omega, ?_⟩
      refine KCall.ok (pack_does S w hw64 hfit (by omega) false _) ?_
      simp (implicitDefEqProofs := false) only [↓reduceIte, go_sem, oread, owrite, Nat.reduceAdd, Nat.reduceSub, Nat.reduceMul, Nat.reduceLT, Nat.reduceLeDiff, Nat.reduceEqDiff, Nat.reduceBEq, Int.reduceLE, Int.reduceLT, Int.reduceEq, Int.reduceNe, Int.reduceAdd, Int.reduceSub, Int.reduceMul, Int.reduceNeg, Int.reduceToNat, Int.reduceNatCast, reduceCtorEq, eq_self, bys_one, bys_len, bys_app, List.length_append]
      have l3 : (packP S w).length ≤ 100000 := by
        rw [packP, packB_len, bitsL_len]
        have : S.length * w ≤ 4096 * 64 := Nat.mul_le_mul (by omega) hw64
        omega
      refine ⟨by omega, by omega, AEnd.ret ?_⟩
      have ht : (bys (putP (zigP v.i) ++ (putP w ++ packP S w))).take ((putP (zigP v.i)).length + (putP w).length + (packP S w).length) = bys (putP (zigP v.i) ++ (putP w ++ packP S w)) := take_len _ _ (by rw [bys_len, List.length_append, List.length_append]; omega)
      simp (implicitDefEqProofs := false) only [↓reduceIte, go_sem, oread, owrite, Nat.reduceAdd, Nat.reduceSub, Nat.reduceMul, Nat.reduceLT, Nat.reduceLeDiff, Nat.reduceEqDiff, Nat.reduceBEq, Int.reduceLE, Int.reduceLT, Int.reduceEq, Int.reduceNe, Int.reduceAdd, Int.reduceSub, Int.reduceMul, Int.reduceNeg, Int.reduceToNat, Int.reduceNatCast, reduceCtorEq, eq_self, deltaR, h1, hb, ht, Ne, not_false_eq_true, and_self]
  · simp (implicitDefEqProofs := false) only [↓reduceIte, go_sem, oread, owrite, Nat.reduceAdd, Nat.reduceSub, Nat.reduceMul, Nat.reduceLT, Nat.reduceLeDiff, Nat.reduceEqDiff, Nat.reduceBEq, Int.reduceLE, Int.reduceLT, Int.reduceEq, Int.reduceNe, Int.reduceAdd, Int.reduceSub, Int.reduceMul, Int.reduceNeg, Int.reduceToNat, Int.reduceNatCast, reduceCtorEq, eq_self, h1]
    refine AEnd.ret0 ?_
    simp (implicitDefEqProofs := false) only [↓reduceIte, go_sem, oread, owrite, Nat.reduceAdd, Nat.reduceSub, Nat.reduceMul, Nat.reduceLT, Nat.reduceLeDiff, Nat.reduceEqDiff, Nat.reduceBEq, Int.reduceLE, Int.reduceLT, Int.reduceEq, Int.reduceNe, Int.reduceAdd, Int.reduceSub, Int.reduceMul, Int.reduceNeg, Int.reduceToNat, Int.reduceNatCast, reduceCtorEq, eq_self, deltaR, h1, false_and]
end Go.Proofs.Ytcdnbefcccdaeaa
namespace Go.Proofs.Ytcdnbefcccdaeaa
open Go.Proofs.YtcdnbefcccdaeaaAw Go.RowKit
set_option linter.unusedVariables false
set_option linter.unusedSimpArgs false
/-! ### Same -/
set_option maxRecDepth 10000 in
set_option maxHeartbeats 2000000 in
theorem same05_does (l m : List Val) (n1 n2 : Bool) (H : AHeap) (hl : l.length ≤ 1000000000000) : Does Try.prog 19 [.d (.list n1 (l.map Val.enc)), .d (.list n2 (m.map Val.enc))] H (.ok (bA (decide (l = m)))) H := by
  refine Does.of_awp (hint := (fun _ => false)) Try.func19 (by kernel_rfl) rfl [4] (by kernel_rfl) (by decide) (by simp [Try.ntmps19]) ?_
  rw [Try.ntmps19]
  simp (implicitDefEqProofs := false) only [↓reduceIte, go_sem, oread, owrite, Nat.reduceAdd, Nat.reduceSub, Nat.reduceMul, Nat.reduceLT, Nat.reduceLeDiff, Nat.reduceEqDiff, Nat.reduceBEq, Int.reduceLE, Int.reduceLT, Int.reduceEq, Int.reduceNe, Int.reduceAdd, Int.reduceSub, Int.reduceMul, Int.reduceNeg, Int.reduceToNat, Int.reduceNatCast, reduceCtorEq, eq_self]
  by_cases hlm : l.length = m.length
  · refine awp_F (by simp (implicitDefEqProofs := false) only [↓reduceIte, go_sem, oread, owrite, Nat.reduceAdd, Nat.reduceSub, Nat.reduceMul, Nat.reduceLT, Nat.reduceLeDiff, Nat.reduceEqDiff, Nat.reduceBEq, Int.reduceLE, Int.reduceLT, Int.reduceEq, Int.reduceNe, Int.reduceAdd, Int.reduceSub, Int.reduceMul, Int.reduceNeg, Int.reduceToNat, Int.reduceNatCast, reduceCtorEq, eq_self, hlm]) ?_
    simp (implicitDefEqProofs := false) only [↓reduceIte, go_sem, oread, owrite, Nat.reduceAdd, Nat.reduceSub, Nat.reduceMul, Nat.reduceLT, Nat.reduceLeDiff, Nat.reduceEqDiff, Nat.reduceBEq, Int.reduceLE, Int.reduceLT, Int.reduceEq, Int.reduceNe, Int.reduceAdd, Int.reduceSub, Int.reduceMul, Int.reduceNeg, Int.reduceToNat, Int.reduceNatCast, reduceCtorEq, eq_self]
    refine awp_for3 (fun k s H' => H' = H ∧ l.take k = m.take k ∧ s 0 = .d (.list n1 (l.map Val.enc)) ∧ s 1 = .d (.list n2 (m.map Val.enc)) ∧ s 5 = iA k) l.length (by omega) (Weak.refl _ _) ?_ ?_ ?_
    · simp (implicitDefEqProofs := false) only [↓reduceIte, go_sem, oread, owrite, Nat.reduceAdd, Nat.reduceSub, Nat.reduceMul, Nat.reduceLT, Nat.reduceLeDiff, Nat.reduceEqDiff, Nat.reduceBEq, Int.reduceLE, Int.reduceLT, Int.reduceEq, Int.reduceNe, Int.reduceAdd, Int.reduceSub, Int.reduceMul, Int.reduceNeg, Int.reduceToNat, Int.reduceNatCast, reduceCtorEq, eq_self, List.take_zero]
    · rintro k s H' hk hw ⟨rfl, hp, h0, h1, h5⟩
      have hx := List.getElem?_eq_getElem hk
      have hy := List.getElem?_eq_getElem (show k < m.length by omega)
      have e1 := List.take_succ_eq_append_getElem hk
      have e2 := List.take_succ_eq_append_getElem (show k < m.length by omega)
      have e3 : ∀ (g : l = m), l[k] = m[k]'(by omega) := by intro g; subst g; rfl
      generalize l[k] = x at hx e1 e3
      generalize m[k]'(by omega) = y at hy e2 e3
      have hk2 : k < m.length := by omega
      simp (implicitDefEqProofs := false) only [↓reduceIte, go_sem, oread, owrite, Nat.reduceAdd, Nat.reduceSub, Nat.reduceMul, Nat.reduceLT, Nat.reduceLeDiff, Nat.reduceEqDiff, Nat.reduceBEq, Int.reduceLE, Int.reduceLT, Int.reduceEq, Int.reduceNe, Int.reduceAdd, Int.reduceSub, Int.reduceMul, Int.reduceNeg, Int.reduceToNat, Int.reduceNatCast, reduceCtorEq, eq_self, h0, h1, h5, hk]
      refine awp_draw K.mixed (by kernel_rfl) ?_
      simp (implicitDefEqProofs := false) only [↓reduceIte, go_sem, oread, owrite, Nat.reduceAdd, Nat.reduceSub, Nat.reduceMul, Nat.reduceLT, Nat.reduceLeDiff, Nat.reduceEqDiff, Nat.reduceBEq, Int.reduceLE, Int.reduceLT, Int.reduceEq, Int.reduceNe, Int.reduceAdd, Int.reduceSub, Int.reduceMul, Int.reduceNeg, Int.reduceToNat, Int.reduceNatCast, reduceCtorEq, eq_self, h0, h1, h5, hx, hy, hk, hk2, Val.enc, sameV_eq]
      by_cases hxy : x = y
      · refine awp_F (by simp (implicitDefEqProofs := false) only [↓reduceIte, go_sem, oread, owrite, Nat.reduceAdd, Nat.reduceSub, Nat.reduceMul, Nat.reduceLT, Nat.reduceLeDiff, Nat.reduceEqDiff, Nat.reduceBEq, Int.reduceLE, Int.reduceLT, Int.reduceEq, Int.reduceNe, Int.reduceAdd, Int.reduceSub, Int.reduceMul, Int.reduceNeg, Int.reduceToNat, Int.reduceNatCast, reduceCtorEq, eq_self, hxy]) ?_
        simp (implicitDefEqProofs := false) only [↓reduceIte, go_sem, oread, owrite, Nat.reduceAdd, Nat.reduceSub, Nat.reduceMul, Nat.reduceLT, Nat.reduceLeDiff, Nat.reduceEqDiff, Nat.reduceBEq, Int.reduceLE, Int.reduceLT, Int.reduceEq, Int.reduceNe, Int.reduceAdd, Int.reduceSub, Int.reduceMul, Int.reduceNeg, Int.reduceToNat, Int.reduceNatCast, reduceCtorEq, eq_self, h5]
        refine Rnd.same ⟨rfl, by rw [e1, e2, hp, hxy], ?_⟩
        simp (implicitDefEqProofs := false) only [↓reduceIte, go_sem, oread, owrite, Nat.reduceAdd, Nat.reduceSub, Nat.reduceMul, Nat.reduceLT, Nat.reduceLeDiff, Nat.reduceEqDiff, Nat.reduceBEq, Int.reduceLE, Int.reduceLT, Int.reduceEq, Int.reduceNe, Int.reduceAdd, Int.reduceSub, Int.reduceMul, Int.reduceNeg, Int.reduceToNat, Int.reduceNatCast, reduceCtorEq, eq_self, h0, h1, hw]
      · refine awp_T (by simp (implicitDefEqProofs := false) only [↓reduceIte, go_sem, oread, owrite, Nat.reduceAdd, Nat.reduceSub, Nat.reduceMul, Nat.reduceLT, Nat.reduceLeDiff, Nat.reduceEqDiff, Nat.reduceBEq, Int.reduceLE, Int.reduceLT, Int.reduceEq, Int.reduceNe, Int.reduceAdd, Int.reduceSub, Int.reduceMul, Int.reduceNeg, Int.reduceToNat, Int.reduceNatCast, reduceCtorEq, eq_self, hxy]) ?_
        simp (implicitDefEqProofs := false) only [↓reduceIte, go_sem, oread, owrite, Nat.reduceAdd, Nat.reduceSub, Nat.reduceMul, Nat.reduceLT, Nat.reduceLeDiff, Nat.reduceEqDiff, Nat.reduceBEq, Int.reduceLE, Int.reduceLT, Int.reduceEq, Int.reduceNe, Int.reduceAdd, Int.reduceSub, Int.reduceMul, Int.reduceNeg, Int.reduceToNat, Int.reduceNatCast, reduceCtorEq, eq_self]
        refine AEnd.ret0 ?_
        simp (implicitDefEqProofs := false) only [↓reduceIte, go_sem, oread, owrite, Nat.reduceAdd, Nat.reduceSub, Nat.reduceMul, Nat.reduceLT, Nat.reduceLeDiff, Nat.reduceEqDiff, Nat.reduceBEq, Int.reduceLE, Int.reduceLT, Int.reduceEq, Int.reduceNe, Int.reduceAdd, Int.reduceSub, Int.reduceMul, Int.reduceNeg, Int.reduceToNat, Int.reduceNatCast, reduceCtorEq, eq_self, show ¬ l = m from fun g => hxy (e3 g)]
    · rintro s H' ⟨rfl, hp, h0, h1, h5⟩
      simp (implicitDefEqProofs := false) only [↓reduceIte, go_sem, oread, owrite, Nat.reduceAdd, Nat.reduceSub, Nat.reduceMul, Nat.reduceLT, Nat.reduceLeDiff, Nat.reduceEqDiff, Nat.reduceBEq, Int.reduceLE, Int.reduceLT, Int.reduceEq, Int.reduceNe, Int.reduceAdd, Int.reduceSub, Int.reduceMul, Int.reduceNeg, Int.reduceToNat, Int.reduceNatCast, reduceCtorEq, eq_self, h0, h1, h5]
      refine AEnd.ret0 ?_
      rw [List.take_length, hlm, List.take_length] at hp
      simp (implicitDefEqProofs := false) only [↓reduceIte, go_sem, oread, owrite, Nat.reduceAdd, Nat.reduceSub, Nat.reduceMul, Nat.reduceLT, Nat.reduceLeDiff, Nat.reduceEqDiff, Nat.reduceBEq, Int.reduceLE, Int.reduceLT, Int.reduceEq, Int.reduceNe, Int.reduceAdd, Int.reduceSub, Int.reduceMul, Int.reduceNeg, Int.reduceToNat, Int.reduceNatCast, reduceCtorEq, eq_self, hp]
  · simp (implicitDefEqProofs := false) only [↓reduceIte, go_sem, oread, owrite, Nat.reduceAdd, Nat.reduceSub, Nat.reduceMul, Nat.reduceLT, Nat.reduceLeDiff, Nat.reduceEqDiff, Nat.reduceBEq, Int.reduceLE, Int.reduceLT, Int.reduceEq, Int.reduceNe, Int.reduceAdd, Int.reduceSub, Int.reduceMul, Int.reduceNeg, Int.reduceToNat, Int.reduceNatCast, reduceCtorEq, eq_self, hlm, show ((l.length : Int) = (m.length : Int)) = False from eq_false (by omega)]
    refine AEnd.ret0 ?_
    simp (implicitDefEqProofs := false) only [↓reduceIte, go_sem, oread, owrite, Nat.reduceAdd, Nat.reduceSub, Nat.reduceMul, Nat.reduceLT, Nat.reduceLeDiff, Nat.reduceEqDiff, Nat.reduceBEq, Int.reduceLE, Int.reduceLT, Int.reduceEq, Int.reduceNe, Int.reduceAdd, Int.reduceSub, Int.reduceMul, Int.reduceNeg, Int.reduceToNat, Int.reduceNatCast, reduceCtorEq, eq_self, show ¬ l = m from fun g => hlm (by rw [g])]
end Go.Proofs.Ytcdnbefcccdaeaa
namespace Go.Proofs.Ytcdnbefcccdaeaa
open Go.Proofs.YtcdnbefcccdaeaaAw Go.RowKit
set_option linter.unusedVariables false
set_option linter.unusedSimpArgs false
/-! ### Same -/
set_option maxRecDepth 10000 in
set_option maxHeartbeats 1000000 in
theorem same01_does (l m : List Nat) (n1 n2 : Bool) (H : AHeap) (hl : l.length ≤ 9223372036854775807) :
    Does Try.prog 10 [.d (.list n1 (us l)), .d (.list n2 (us m))] H (.ok (bA (decide (l = m)))) H := by
  refine Does.of_awp (hint := (fun _ => false)) Try.func10 (by kernel_rfl) rfl [4] (by kernel_rfl) (by decide) (by simp [Try.ntmps10]) ?_
  rw [Try.ntmps10]
  simp (implicitDefEqProofs := false) only [↓reduceIte, go_sem, oread, owrite, Nat.reduceAdd, Nat.reduceSub, Nat.reduceMul, Nat.reduceLT, Nat.reduceLeDiff, Nat.reduceEqDiff, Nat.reduceBEq, Int.reduceLE, Int.reduceLT, Int.reduceEq, Int.reduceNe, Int.reduceAdd, Int.reduceSub, Int.reduceMul, Int.reduceNeg, Int.reduceToNat, Int.reduceNatCast, reduceCtorEq, eq_self, us_len]
  by_cases hlm : l.length = m.length
  · refine awp_F (by simp (implicitDefEqProofs := false) only [↓reduceIte, go_sem, oread, owrite, Nat.reduceAdd, Nat.reduceSub, Nat.reduceMul, Nat.reduceLT, Nat.reduceLeDiff, Nat.reduceEqDiff, Nat.reduceBEq, Int.reduceLE, Int.reduceLT, Int.reduceEq, Int.reduceNe, Int.reduceAdd, Int.reduceSub, Int.reduceMul, Int.reduceNeg, Int.reduceToNat, Int.reduceNatCast, reduceCtorEq, eq_self, hlm]) ?_
    simp (implicitDefEqProofs := false) only [↓reduceIte, go_sem, oread, owrite, Nat.reduceAdd, Nat.reduceSub, Nat.reduceMul, Nat.reduceLT, Nat.reduceLeDiff, Nat.reduceEqDiff, Nat.reduceBEq, Int.reduceLE, Int.reduceLT, Int.reduceEq, Int.reduceNe, Int.reduceAdd, Int.reduceSub, Int.reduceMul, Int.reduceNeg, Int.reduceToNat, Int.reduceNatCast, reduceCtorEq, eq_self]
    refine awp_for3 (fun k s H' => H' = H ∧ l.take k = m.take k ∧ s 0 = .d (.list n1 (us l)) ∧ s 1 = .d (.list n2 (us m)) ∧ s 5 = iA k) l.length hl (Weak.refl _ _) ?_ ?_ ?_
    · simp (implicitDefEqProofs := false) only [↓reduceIte, go_sem, oread, owrite, Nat.reduceAdd, Nat.reduceSub, Nat.reduceMul, Nat.reduceLT, Nat.reduceLeDiff, Nat.reduceEqDiff, Nat.reduceBEq, Int.reduceLE, Int.reduceLT, Int.reduceEq, Int.reduceNe, Int.reduceAdd, Int.reduceSub, Int.reduceMul, Int.reduceNeg, Int.reduceToNat, Int.reduceNatCast, reduceCtorEq, eq_self, List.take_zero]
    · rintro k s H' hk hw ⟨rfl, hp, h0, h1, h5⟩
      have hx := us_get l k hk
      have hy := us_get m k (by omega)
      have e1 := List.take_succ_eq_append_getElem hk
      have e2 := List.take_succ_eq_append_getElem (show k < m.length by omega)
      have e3 : ∀ (g : l = m), l[k] = m[k]'(by omega) := by intro g; subst g; rfl
      generalize l[k] = x at hx e1 e3
      generalize m[k]'(by omega) = y at hy e2 e3
      simp (implicitDefEqProofs := false) only [↓reduceIte, go_sem, oread, owrite, Nat.reduceAdd, Nat.reduceSub, Nat.reduceMul, Nat.reduceLT, Nat.reduceLeDiff, Nat.reduceEqDiff, Nat.reduceBEq, Int.reduceLE, Int.reduceLT, Int.reduceEq, Int.reduceNe, Int.reduceAdd, Int.reduceSub, Int.reduceMul, Int.reduceNeg, Int.reduceToNat, Int.reduceNatCast, reduceCtorEq, eq_self, h0, h1, h5, hk, us_len]
      refine awp_draw K.mixed (by kernel_rfl) ?_
      simp (implicitDefEqProofs := false) only [↓reduceIte, go_sem, oread, owrite, Nat.reduceAdd, Nat.reduceSub, Nat.reduceMul, Nat.reduceLT, Nat.reduceLeDiff, Nat.reduceEqDiff, Nat.reduceBEq, Int.reduceLE, Int.reduceLT, Int.reduceEq, Int.reduceNe, Int.reduceAdd, Int.reduceSub, Int.reduceMul, Int.reduceNeg, Int.reduceToNat, Int.reduceNatCast, reduceCtorEq, eq_self, h0, h1, h5, hx, hy]
      by_cases hxy : (x : Int) = (y : Int)
      · refine awp_F (by simp (implicitDefEqProofs := false) only [↓reduceIte, go_sem, oread, owrite, Nat.reduceAdd, Nat.reduceSub, Nat.reduceMul, Nat.reduceLT, Nat.reduceLeDiff, Nat.reduceEqDiff, Nat.reduceBEq, Int.reduceLE, Int.reduceLT, Int.reduceEq, Int.reduceNe, Int.reduceAdd, Int.reduceSub, Int.reduceMul, Int.reduceNeg, Int.reduceToNat, Int.reduceNatCast, reduceCtorEq, eq_self, hxy]) ?_
        simp (implicitDefEqProofs := false) only [↓reduceIte, go_sem, oread, owrite, Nat.reduceAdd, Nat.reduceSub, Nat.reduceMul, Nat.reduceLT, Nat.reduceLeDiff, Nat.reduceEqDiff, Nat.reduceBEq, Int.reduceLE, Int.reduceLT, Int.reduceEq, Int.reduceNe, Int.reduceAdd, Int.reduceSub, Int.reduceMul, Int.reduceNeg, Int.reduceToNat, Int.reduceNatCast, reduceCtorEq, eq_self, h5]
        refine Rnd.same ⟨rfl, by rw [e1, e2, hp, show x = y by omega], ?_⟩
        simp (implicitDefEqProofs := false) only [↓reduceIte, go_sem, oread, owrite, Nat.reduceAdd, Nat.reduceSub, Nat.reduceMul, Nat.reduceLT, Nat.reduceLeDiff, Nat.reduceEqDiff, Nat.reduceBEq, Int.reduceLE, Int.reduceLT, Int.reduceEq, Int.reduceNe, Int.reduceAdd, Int.reduceSub, Int.reduceMul, Int.reduceNeg, Int.reduceToNat, Int.reduceNatCast, reduceCtorEq, eq_self, h0, h1, hw]
      · refine awp_T (by simp (implicitDefEqProofs := false) only [↓reduceIte, go_sem, oread, owrite, Nat.reduceAdd, Nat.reduceSub, Nat.reduceMul, Nat.reduceLT, Nat.reduceLeDiff, Nat.reduceEqDiff, Nat.reduceBEq, Int.reduceLE, Int.reduceLT, Int.reduceEq, Int.reduceNe, Int.reduceAdd, Int.reduceSub, Int.reduceMul, Int.reduceNeg, Int.reduceToNat, Int.reduceNatCast, reduceCtorEq, eq_self, hxy]) ?_
        simp (implicitDefEqProofs := false) only [↓reduceIte, go_sem, oread, owrite, Nat.reduceAdd, Nat.reduceSub, Nat.reduceMul, Nat.reduceLT, Nat.reduceLeDiff, Nat.reduceEqDiff, Nat.reduceBEq, Int.reduceLE, Int.reduceLT, Int.reduceEq, Int.reduceNe, Int.reduceAdd, Int.reduceSub, Int.reduceMul, Int.reduceNeg, Int.reduceToNat, Int.reduceNatCast, reduceCtorEq, eq_self]
        refine AEnd.ret0 ?_
        simp (implicitDefEqProofs := false) only [↓reduceIte, go_sem, oread, owrite, Nat.reduceAdd, Nat.reduceSub, Nat.reduceMul, Nat.reduceLT, Nat.reduceLeDiff, Nat.reduceEqDiff, Nat.reduceBEq, Int.reduceLE, Int.reduceLT, Int.reduceEq, Int.reduceNe, Int.reduceAdd, Int.reduceSub, Int.reduceMul, Int.reduceNeg, Int.reduceToNat, Int.reduceNatCast, reduceCtorEq, eq_self, show ¬ l = m from fun g => hxy (by rw [e3 g])]
    · rintro s H' ⟨rfl, hp, h0, h1, h5⟩
      simp (implicitDefEqProofs := false) only [↓reduceIte, go_sem, oread, owrite, Nat.reduceAdd, Nat.reduceSub, Nat.reduceMul, Nat.reduceLT, Nat.reduceLeDiff, Nat.reduceEqDiff, Nat.reduceBEq, Int.reduceLE, Int.reduceLT, Int.reduceEq, Int.reduceNe, Int.reduceAdd, Int.reduceSub, Int.reduceMul, Int.reduceNeg, Int.reduceToNat, Int.reduceNatCast, reduceCtorEq, eq_self, h0, h1, h5, us_len]
      refine AEnd.ret0 ?_
      rw [List.take_length, hlm, List.take_length] at hp
      simp (implicitDefEqProofs := false) only [↓reduceIte, go_sem, oread, owrite, Nat.reduceAdd, Nat.reduceSub, Nat.reduceMul, Nat.reduceLT, Nat.reduceLeDiff, Nat.reduceEqDiff, Nat.reduceBEq, Int.reduceLE, Int.reduceLT, Int.reduceEq, Int.reduceNe, Int.reduceAdd, Int.reduceSub, Int.reduceMul, Int.reduceNeg, Int.reduceToNat, Int.reduceNatCast, reduceCtorEq, eq_self, hp]
  · simp (implicitDefEqProofs := false) only [↓reduceIte, go_sem, oread, owrite, Nat.reduceAdd, Nat.reduceSub, Nat.reduceMul, Nat.reduceLT, Nat.reduceLeDiff, Nat.reduceEqDiff, Nat.reduceBEq, Int.reduceLE, Int.reduceLT, Int.reduceEq, Int.reduceNe, Int.reduceAdd, Int.reduceSub, Int.reduceMul, Int.reduceNeg, Int.reduceToNat, Int.reduceNatCast, reduceCtorEq, eq_self, hlm, show ((l.length : Int) = (m.length : Int)) = False from eq_false (by omega)]
    refine AEnd.ret0 ?_
    simp (implicitDefEqProofs := false) only [↓reduceIte, go_sem, oread, owrite, Nat.reduceAdd, Nat.reduceSub, Nat.reduceMul, Nat.reduceLT, Nat.reduceLeDiff, Nat.reduceEqDiff, Nat.reduceBEq, Int.reduceLE, Int.reduceLT, Int.reduceEq, Int.reduceNe, Int.reduceAdd, Int.reduceSub, Int.reduceMul, Int.reduceNeg, Int.reduceToNat, Int.reduceNatCast, reduceCtorEq, eq_self, show ¬ l = m from fun g => hlm (by rw [g])]
end Go.Proofs.Ytcdnbefcccdaeaa
namespace Go.Proofs.Ytcdnbefcccdaeaa
open Go.Proofs.YtcdnbefcccdaeaaAw Go.RowKit
set_option linter.unusedVariables false
set_option linter.unusedSimpArgs false
/-! ### Bytes as a text -/
def bstr (l : List Nat) : ByteArray := pushAll (l.map fun (n : Nat) => (n : Int))
theorem asBytes_bys : ∀ l : List Nat, asBytes (bys l) = some (l.map fun (n : Nat) => (n : Int))
  | [] => rfl
  | n :: l => by
    show asBytes ([.v (.int .u8 (n : Int))] :: bys l) = _
    simp only [asBytes, asBytes_bys l]; rfl
theorem bstr_eq (l : List Nat) : pushAll (l.map fun (n : Nat) => (n : Int)) = bstr l := rfl
theorem pushAll_list (ns : List Int) (b : ByteArray) : (ns.foldl (fun r n => r.push (UInt8.ofNat n.toNat)) b).data.toList = b.data.toList ++ ns.map fun n => UInt8.ofNat n.toNat := by
  induction ns generalizing b with
  | nil => simp
  | cons n ns ih => rw [List.foldl_cons, ih]; simp [ByteArray.push]
theorem bstr_list (l : List Nat) : (bstr l).toList = l.map UInt8.ofNat := by
  rw [ByteArray.toList_eq]
  unfold bstr pushAll
  rw [pushAll_list]
  simp [List.map_map, Function.comp_def]
/-- Numbers that are bytes. -/
def Byte (l : List Nat) : Prop := ∀ n ∈ l, n < 256
theorem ofNat_inj {a b : Nat} (ha : a < 256) (hb : b < 256) (h : UInt8.ofNat a = UInt8.ofNat b) : a = b := by
  have := congrArg UInt8.toNat h
  simpa [Nat.mod_eq_of_lt ha, Nat.mod_eq_of_lt hb] using this
theorem map_byte : ∀ {l m : List Nat}, Byte l → Byte m → l.map UInt8.ofNat = m.map UInt8.ofNat → l = m
  | [], [], _, _, _ => rfl
  | [], _ :: _, _, _, h => by simp at h
  | _ :: _, [], _, _, h => by simp at h
  | a :: l, b :: m, hl, hm, h => by
    simp only [List.map_cons, List.cons.injEq] at h
    rw [ofNat_inj (hl a (by simp)) (hm b (by simp)) h.1, map_byte (fun n hn => hl n (by simp [hn])) (fun n hn => hm n (by simp [hn])) h.2]
theorem bstr_beq {l m : List Nat} (hl : Byte l) (hm : Byte m) : ((bstr l).toList == (bstr m).toList) = decide (l = m) := by
  rw [bstr_list, bstr_list, Bool.eq_iff_iff]
  simp only [beq_iff_eq, decide_eq_true_eq]
  exact ⟨map_byte hl hm, fun h => by rw [h]⟩
theorem drop_bys (l : List Nat) (k : Nat) : (bys l).drop k = bys (l.drop k) := by simp [bys, List.map_drop]
theorem take_bys (l : List Nat) (k : Nat) : (bys l).take k = bys (l.take k) := by simp [bys, List.map_take]
/-! ### shown -/
def num10 (n : Int) : Val := ⟨1, n, noS⟩
theorem mayV_num (n : Int) : mayV (num10 n) = true := by simp [mayV, num10, noS_toList]
theorem plainP_num {l : List Val} (h : ∀ v ∈ l, ∃ n, v = num10 n) (hl : l.length ≤ 4096) : plainP l 1 = 0 := by
  have h1 : l.any (fun v => !decide (v.kind = 1)) = false := by
    rw [List.any_eq_false]
    intro v hv
    obtain ⟨n, rfl⟩ := h v hv
    simp [num10]
  have h2 : l.any (fun v => !mayV v) = false := by
    rw [List.any_eq_false]
    intro v hv
    obtain ⟨n, rfl⟩ := h v hv
    simp [mayV_num]
  unfold plainP
  rw [h1, h2]
  simp [kindsP, show ¬ 4096 < l.length by omega]
theorem putP_byte : ∀ (k n : Nat), n < 128 ^ k → Byte (putP n) := by
  intro k
  induction k with
  | zero => intro n hn m hm; rw [putP_small (by omega)] at hm; simp at hm; omega
  | succ k ih =>
    intro n hn
    by_cases h : n < 128
    · rw [putP_small h]; intro m hm; simp at hm; omega
    · rw [putP_big h]
      intro m hm
      rcases List.mem_cons.1 hm with rfl | hm
      · omega
      · exact ih (n / 128) (by rw [Nat.div_lt_iff_lt_mul (by decide)]; exact hn) m hm
theorem putP_byte64 {n : Nat} (h : n < 18446744073709551616) : Byte (putP n) := putP_byte 10 n (by omega)
theorem packP_byte (l : List Nat) (w : Nat) : Byte (packP l w) := by
  intro n hn
  unfold packP packB at hn
  obtain ⟨i, _, rfl⟩ := List.mem_map.1 hn
  exact byteAt_lt _ _
theorem Byte.app {l m : List Nat} (hl : Byte l) (hm : Byte m) : Byte (l ++ m) := fun n hn => by
  rcases List.mem_append.1 hn with h | h
  · exact hl n h
  · exact hm n h
theorem bytesD_byte (l : List Val) (hok : ∀ v ∈ l, I64 v.i) : Byte (bytesD l) := by
  cases l with
  | nil => intro n hn; simp [bytesD] at hn
  | cons v r =>
    have h := hok v (by simp)
    exact ((putP_byte64 (zigP_lt h.1 h.2)).app (putP_byte64 (by have := widthP_le (stepsP_lt (v :: r)); omega))).app (packP_byte _ _)
theorem deltaR_ok {l : List Val} (h : ∀ v ∈ l, ∃ n, v = num10 n) (hl : l.length ≤ 4096) (h0 : l ≠ []) : deltaR l = .tup [.d (.list false (bys (bytesD l))), iA 0] := by
  unfold deltaR
  rw [if_pos ⟨plainP_num h hl, h0⟩]
theorem ex_steps : stepsP [num10 3, num10 5, num10 4] = [4, 1] := by decide +kernel
theorem ex_bytes : bytesD [num10 3, num10 5, num10 4] = [6, 3, 12] := by
  unfold bytesD
  rw [ex_steps]
  have h1 : zigP (num10 3).i = 6 := by decide
  have h2 : widthP [4, 1] = 3 := by decide
  have h3 : packP [4, 1] 3 = [12] := by decide +kernel
  simp only [num10]
  rw [show zigP 3 = 6 by decide, h2, h3, putP_small (by decide), putP_small (by decide)]
  rfl
theorem ex_sorted : sortedP [num10 3, num10 5, num10 4] = false := by decide +kernel
set_option maxRecDepth 10000 in
set_option maxHeartbeats 1000000 in
theorem shown10_does (H : AHeap) : Does Try.prog 8 [] H (.ok (bA true)) H := by
  have hn : ∀ v ∈ [num10 3, num10 5, num10 4], ∃ n, v = num10 n := by intro v hv; simp at hv; rcases hv with rfl | rfl | rfl <;> exact ⟨_, rfl⟩
  have hok : ∀ v ∈ [num10 3, num10 5, num10 4], I64 v.i := by simp [num10, I64]
  have hd := dbytes_does [num10 3, num10 5, num10 4] hok true H (by simp)
  rw [deltaR_ok hn (by simp) (by simp), ex_bytes] at hd
  have hs := steps_does [num10 3, num10 5, num10 4] true H (by simp)
  rw [ex_steps] at hs
  have hq := sorted_does [num10 3, num10 5, num10 4] true H (by simp)
  rw [ex_sorted] at hq
  have e1 : (pushAll [6, 3, 12]).toList = [6, 3, 12] := bstr_list [6, 3, 12]
  have e2 : (⟨#[6, 3, 12]⟩ : ByteArray).toList = [6, 3, 12] := by rw [ByteArray.toList_eq]
  have e : ((pushAll [6, 3, 12]).toList == (⟨#[6, 3, 12]⟩ : ByteArray).toList) = true := by rw [e1, e2]; decide
  refine Does.of_awp (hint := (fun _ => false)) Try.func8 (by kernel_rfl) rfl [0] (by kernel_rfl) (by decide) (by simp [Try.ntmps8]) ?_
  rw [Try.ntmps8]
  simp (implicitDefEqProofs := false) only [↓reduceIte, go_sem, oread, owrite, Nat.reduceAdd, Nat.reduceSub, Nat.reduceMul, Nat.reduceLT, Nat.reduceLeDiff, Nat.reduceEqDiff, Nat.reduceBEq, Int.reduceLE, Int.reduceLT, Int.reduceEq, Int.reduceNe, Int.reduceAdd, Int.reduceSub, Int.reduceMul, Int.reduceNeg, Int.reduceToNat, Int.reduceNatCast, reduceCtorEq, eq_self]
  refine KCall.ok hd ?_
  simp (implicitDefEqProofs := false) only [↓reduceIte, go_sem, oread, owrite, Nat.reduceAdd, Nat.reduceSub, Nat.reduceMul, Nat.reduceLT, Nat.reduceLeDiff, Nat.reduceEqDiff, Nat.reduceBEq, Int.reduceLE, Int.reduceLT, Int.reduceEq, Int.reduceNe, Int.reduceAdd, Int.reduceSub, Int.reduceMul, Int.reduceNeg, Int.reduceToNat, Int.reduceNatCast, reduceCtorEq, eq_self]
  refine KCall.ok hs ?_
  simp (implicitDefEqProofs := false) only [↓reduceIte, go_sem, oread, owrite, Nat.reduceAdd, Nat.reduceSub, Nat.reduceMul, Nat.reduceLT, Nat.reduceLeDiff, Nat.reduceEqDiff, Nat.reduceBEq, Int.reduceLE, Int.reduceLT, Int.reduceEq, Int.reduceNe, Int.reduceAdd, Int.reduceSub, Int.reduceMul, Int.reduceNeg, Int.reduceToNat, Int.reduceNatCast, reduceCtorEq, eq_self]
  refine KCall.ok (same01_does [4, 1] [4, 1] false true _ (by simp)) ?_
  simp (implicitDefEqProofs := false) only [↓reduceIte, go_sem, oread, owrite, Nat.reduceAdd, Nat.reduceSub, Nat.reduceMul, Nat.reduceLT, Nat.reduceLeDiff, Nat.reduceEqDiff, Nat.reduceBEq, Int.reduceLE, Int.reduceLT, Int.reduceEq, Int.reduceNe, Int.reduceAdd, Int.reduceSub, Int.reduceMul, Int.reduceNeg, Int.reduceToNat, Int.reduceNatCast, reduceCtorEq, eq_self, asBytes_bys, e]
  refine KCall.ok hq ?_
  simp (implicitDefEqProofs := false) only [↓reduceIte, go_sem, oread, owrite, Nat.reduceAdd, Nat.reduceSub, Nat.reduceMul, Nat.reduceLT, Nat.reduceLeDiff, Nat.reduceEqDiff, Nat.reduceBEq, Int.reduceLE, Int.reduceLT, Int.reduceEq, Int.reduceNe, Int.reduceAdd, Int.reduceSub, Int.reduceMul, Int.reduceNeg, Int.reduceToNat, Int.reduceNatCast, reduceCtorEq, eq_self]
  refine AEnd.ret0 ?_
  simp (implicitDefEqProofs := false) only [↓reduceIte, go_sem, oread, owrite, Nat.reduceAdd, Nat.reduceSub, Nat.reduceMul, Nat.reduceLT, Nat.reduceLeDiff, Nat.reduceEqDiff, Nat.reduceBEq, Int.reduceLE, Int.reduceLT, Int.reduceEq, Int.reduceNe, Int.reduceAdd, Int.reduceSub, Int.reduceMul, Int.reduceNeg, Int.reduceToNat, Int.reduceNatCast, reduceCtorEq, eq_self]
end Go.Proofs.Ytcdnbefcccdaeaa
namespace Go.Proofs.Ytcdnbefcccdaeaa
open Go.Proofs.YtcdnbefcccdaeaaAw Go.RowKit
set_option linter.unusedVariables false
set_option linter.unusedSimpArgs false
/-! ### Numbers by their steps -/
def sumN (x : Int) (S : List Nat) : Nat → Int
  | 0 => x
  | k + 1 => IntKind.i64.wrap (sumN x S k + zagP (S.getD k 0))
def sumL (x : Int) (S : List Nat) (n : Nat) : List Val := (List.range n).map fun k => num10 (sumN x S k)
theorem sumL_len (x : Int) (S : List Nat) (n : Nat) : (sumL x S n).length = n := by simp [sumL]
theorem sumL_succ (x : Int) (S : List Nat) (n : Nat) : sumL x S (n + 1) = sumL x S n ++ [num10 (sumN x S n)] := by simp [sumL, List.range_succ]
theorem sumL_get (x : Int) (S : List Nat) {n k : Nat} (h : k < n) : (sumL x S n)[k]? = some (num10 (sumN x S k)) := by simp [sumL, h]
def ofB (b : List Nat) (n : Nat) : Option (List Val) × Int :=
  if (getP b).2.2 ≠ 0 then (none, (getP b).2.2)
  else if (getP (b.drop (getP b).2.1)).2.2 ≠ 0 then (none, (getP (b.drop (getP b).2.1)).2.2)
  else if 64 < (getP (b.drop (getP b).2.1)).1 then (none, 4)
  else if unpackE (b.drop ((getP b).2.1 + (getP (b.drop (getP b).2.1)).2.1)) (n - 1) (getP (b.drop (getP b).2.1)).1 ≠ 0 then (none, unpackE (b.drop ((getP b).2.1 + (getP (b.drop (getP b).2.1)).2.1)) (n - 1) (getP (b.drop (getP b).2.1)).1)
  else if widthP (unpackL (b.drop ((getP b).2.1 + (getP (b.drop (getP b).2.1)).2.1)) (n - 1) (getP (b.drop (getP b).2.1)).1) ≠ (getP (b.drop (getP b).2.1)).1 then (none, 4)
  else (some (sumL (zagP (getP b).1) (unpackL (b.drop ((getP b).2.1 + (getP (b.drop (getP b).2.1)).2.1)) (n - 1) (getP (b.drop (getP b).2.1)).1) n), 0)
def ofR (b : List Nat) (n : Int) : Option (List Val) × Int :=
  if n < 0 ∨ 4096 < n then (none, 2)
  else if n = 0 then (none, if 0 < b.length then 4 else 0)
  else ofB b n.toNat
def valsA : Option (List Val) → AV
  | some l => .d (.list false (l.map Val.enc))
  | none => .d (.v (.slice none 0 0))
theorem getP_le (b : List Nat) : (getP b).2.1 ≤ b.length := by
  unfold getP
  split <;> simp
theorem numP_lt : ∀ (k acc : Nat) (b : List Nat) (n : Nat), acc < 128 ^ (10 - k) → k ≤ 10 → (numP k acc b).1 = .ok n → n < 18446744073709551616
  | 0, _, _, _, _, _, h => by simp [numP] at h
  | _ + 1, _, [], _, _, _, h => by simp [numP] at h
  | k + 1, acc, c :: b, n, ha, hk, h => by
    have hm : c % 128 < 128 := Nat.mod_lt _ (by decide)
    have hi : 10 - (k + 1) = 9 - k := by omega
    rw [hi] at ha
    have hA : acc + c % 128 * 128 ^ (9 - k) < 128 ^ (9 - k) * 128 := by
      have : c % 128 * 128 ^ (9 - k) ≤ 127 * 128 ^ (9 - k) := Nat.mul_le_mul_right _ (by omega)
      omega
    simp only [numP] at h
    split at h
    · cases h
    · rename_i hbad
      split at h
      · cases h
        by_cases h0 : k = 0
        · subst h0
          have hc : c % 128 ≤ 1 := by omega
          have h2 : c % 128 * 128 ^ 9 ≤ 1 * 128 ^ 9 := Nat.mul_le_mul_right _ hc
          simp only [Nat.sub_zero] at ha ⊢
          omega
        · have h9 : 128 ^ (9 - k) ≤ 128 ^ 8 := Nat.pow_le_pow_right (by decide) (by omega)
          omega
      · by_cases h0 : k = 0
        · subst h0; simp [numP] at h
        · refine numP_lt k _ b n ?_ (by omega) h
          rw [show 10 - k = (9 - k) + 1 by omega, Nat.pow_succ]
          exact hA
theorem getP_lt (b : List Nat) : (getP b).1 < 18446744073709551616 := by
  unfold getP
  split
  · rename_i n r h
    exact numP_lt 10 0 b n (by decide) (Nat.le_refl _) (by rw [h])
  · exact (by decide : (0 : Nat) < 18446744073709551616)
theorem unpackL_lt (b : List Nat) (n w : Nat) (hw : w ≤ 64) : ∀ x ∈ unpackL b n w, x < 18446744073709551616 := by
  intro x hx
  obtain ⟨k, _, rfl⟩ := List.mem_map.1 hx
  have h1 := byteOf_lt (((bitsB b).drop (k * w)).take w)
  have h2 : 2 ^ (((bitsB b).drop (k * w)).take w).length ≤ 2 ^ 64 := Nat.pow_le_pow_right (by decide) (by simp; omega)
  unfold partP
  omega
set_option maxRecDepth 10000 in
set_option maxHeartbeats 1000000 in
theorem of_does (b : List Nat) (n : Int) (nn : Bool) (hl : b.length ≤ 140737488351232) (hb : ∀ c ∈ b, c < 256) (H : AHeap) :
    Does Try.prog 15 [.d (.list nn (bys b)), iA n] H (.ok (.tup [valsA (ofR b n).1, iA (ofR b n).2])) H := by
  refine Does.of_awp (hint := (fun t => t == 79)) Try.func15 (by kernel_rfl) rfl [4, 5] (by kernel_rfl) (by decide) (by simp [Try.ntmps15]) ?_
  rw [Try.ntmps15]
  by_cases h1 : n < 0
  · simp (implicitDefEqProofs := false) only [↓reduceIte, go_sem, oread, owrite, Nat.reduceAdd, Nat.reduceSub, Nat.reduceMul, Nat.reduceLT, Nat.reduceLeDiff, Nat.reduceEqDiff, Nat.reduceBEq, Int.reduceLE, Int.reduceLT, Int.reduceEq, Int.reduceNe, Int.reduceAdd, Int.reduceSub, Int.reduceMul, Int.reduceNeg, Int.reduceToNat, Int.reduceNatCast, reduceCtorEq, eq_self, h1]
    refine AEnd.ret0 ?_
    simp (implicitDefEqProofs := false) only [↓reduceIte, go_sem, oread, owrite, Nat.reduceAdd, Nat.reduceSub, Nat.reduceMul, Nat.reduceLT, Nat.reduceLeDiff, Nat.reduceEqDiff, Nat.reduceBEq, Int.reduceLE, Int.reduceLT, Int.reduceEq, Int.reduceNe, Int.reduceAdd, Int.reduceSub, Int.reduceMul, Int.reduceNeg, Int.reduceToNat, Int.reduceNatCast, reduceCtorEq, eq_self]
    simp [ofR, h1, valsA]
  by_cases h2 : 4096 < n
  · simp (implicitDefEqProofs := false) only [↓reduceIte, go_sem, oread, owrite, Nat.reduceAdd, Nat.reduceSub, Nat.reduceMul, Nat.reduceLT, Nat.reduceLeDiff, Nat.reduceEqDiff, Nat.reduceBEq, Int.reduceLE, Int.reduceLT, Int.reduceEq, Int.reduceNe, Int.reduceAdd, Int.reduceSub, Int.reduceMul, Int.reduceNeg, Int.reduceToNat, Int.reduceNatCast, reduceCtorEq, eq_self, h1, h2]
    refine AEnd.ret0 ?_
    simp (implicitDefEqProofs := false) only [↓reduceIte, go_sem, oread, owrite, Nat.reduceAdd, Nat.reduceSub, Nat.reduceMul, Nat.reduceLT, Nat.reduceLeDiff, Nat.reduceEqDiff, Nat.reduceBEq, Int.reduceLE, Int.reduceLT, Int.reduceEq, Int.reduceNe, Int.reduceAdd, Int.reduceSub, Int.reduceMul, Int.reduceNeg, Int.reduceToNat, Int.reduceNatCast, reduceCtorEq, eq_self]
    simp [ofR, h2, valsA]
  by_cases h3 : n = 0
  · subst h3
    by_cases h4 : 0 < b.length
    · have h4' : (0 < (b.length : Int)) = True := eq_true (by omega)
      simp (implicitDefEqProofs := false) only [↓reduceIte, go_sem, oread, owrite, Nat.reduceAdd, Nat.reduceSub, Nat.reduceMul, Nat.reduceLT, Nat.reduceLeDiff, Nat.reduceEqDiff, Nat.reduceBEq, Int.reduceLE, Int.reduceLT, Int.reduceEq, Int.reduceNe, Int.reduceAdd, Int.reduceSub, Int.reduceMul, Int.reduceNeg, Int.reduceToNat, Int.reduceNatCast, reduceCtorEq, eq_self, bys_len, h4']
      refine AEnd.ret0 ?_
      simp (implicitDefEqProofs := false) only [↓reduceIte, go_sem, oread, owrite, Nat.reduceAdd, Nat.reduceSub, Nat.reduceMul, Nat.reduceLT, Nat.reduceLeDiff, Nat.reduceEqDiff, Nat.reduceBEq, Int.reduceLE, Int.reduceLT, Int.reduceEq, Int.reduceNe, Int.reduceAdd, Int.reduceSub, Int.reduceMul, Int.reduceNeg, Int.reduceToNat, Int.reduceNatCast, reduceCtorEq, eq_self]
      simp [ofR, h4, valsA]
    · have h4' : (0 < (b.length : Int)) = False := eq_false (by omega)
      simp (implicitDefEqProofs := false) only [↓reduceIte, go_sem, oread, owrite, Nat.reduceAdd, Nat.reduceSub, Nat.reduceMul, Nat.reduceLT, Nat.reduceLeDiff, Nat.reduceEqDiff, Nat.reduceBEq, Int.reduceLE, Int.reduceLT, Int.reduceEq, Int.reduceNe, Int.reduceAdd, Int.reduceSub, Int.reduceMul, Int.reduceNeg, Int.reduceToNat, Int.reduceNatCast, reduceCtorEq, eq_self, bys_len, h4']
      refine AEnd.ret0 ?_
      simp (implicitDefEqProofs := false) only [↓reduceIte, go_sem, oread, owrite, Nat.reduceAdd, Nat.reduceSub, Nat.reduceMul, Nat.reduceLT, Nat.reduceLeDiff, Nat.reduceEqDiff, Nat.reduceBEq, Int.reduceLE, Int.reduceLT, Int.reduceEq, Int.reduceNe, Int.reduceAdd, Int.reduceSub, Int.reduceMul, Int.reduceNeg, Int.reduceToNat, Int.reduceNatCast, reduceCtorEq, eq_self]
      simp [ofR, h4, valsA]
  have hR : ofR b n = ofB b n.toNat := by simp [ofR, h1, h2, h3]
  rw [hR]
  obtain ⟨m, hm⟩ : ∃ m : Nat, n = ((m + 1 : Nat) : Int) := ⟨n.toNat - 1, by omega⟩
  have hwn : IntKind.i64.wrap (n - 1) = (m : Int) := by rw [wrap64_in _ (by omega) (by omega)]; omega
  unfold ofB
  rw [show n.toNat = m + 1 by omega, show m + 1 - 1 = m from rfl]
  have hgl := getP_le b
  have hglt := getP_lt b
  simp (implicitDefEqProofs := false) only [↓reduceIte, go_sem, oread, owrite, Nat.reduceAdd, Nat.reduceSub, Nat.reduceMul, Nat.reduceLT, Nat.reduceLeDiff, Nat.reduceEqDiff, Nat.reduceBEq, Int.reduceLE, Int.reduceLT, Int.reduceEq, Int.reduceNe, Int.reduceAdd, Int.reduceSub, Int.reduceMul, Int.reduceNeg, Int.reduceToNat, Int.reduceNatCast, reduceCtorEq, eq_self, h1, h2, h3]
  refine KCall.ok (getN_does b nn (by omega) hb H) ?_
  generalize getP b = g1 at *
  obtain ⟨first, k, e⟩ := g1
  simp only at hgl hglt
  by_cases he : e = 0
  · subst he
    have hk0 : ((0 : Int) ≤ (k : Int)) = True := eq_true (by omega)
    simp (implicitDefEqProofs := false) only [↓reduceIte, go_sem, oread, owrite, Nat.reduceAdd, Nat.reduceSub, Nat.reduceMul, Nat.reduceLT, Nat.reduceLeDiff, Nat.reduceEqDiff, Nat.reduceBEq, Int.reduceLE, Int.reduceLT, Int.reduceEq, Int.reduceNe, Int.reduceAdd, Int.reduceSub, Int.reduceMul, Int.reduceNeg, Int.reduceToNat, Int.reduceNatCast, reduceCtorEq, eq_self, bys_one, bys_len, hk0, drop_bys]
    refine ⟨by omega, ?_⟩
    rw [show (bys b).take b.length = bys b from take_len _ _ (bys_len _), drop_bys]
    have hgl2 := getP_le (b.drop k)
    have hglt2 := getP_lt (b.drop k)
    have hb2 : ∀ c ∈ b.drop k, c < 256 := fun c hc => hb c (List.mem_of_mem_drop hc)
    refine KCall.ok (getN_does (b.drop k) false (by simp; omega) hb2 H) ?_
    rw [List.length_drop] at hgl2
    generalize getP (b.drop k) = g2 at *
    obtain ⟨w, j, e⟩ := g2
    simp only at hgl2 hglt2
    by_cases he : e = 0
    · subst he
      by_cases hw : 64 < w
      · have hw' : (64 < (w : Int)) = True := eq_true (by omega)
        simp (implicitDefEqProofs := false) only [↓reduceIte, go_sem, oread, owrite, Nat.reduceAdd, Nat.reduceSub, Nat.reduceMul, Nat.reduceLT, Nat.reduceLeDiff, Nat.reduceEqDiff, Nat.reduceBEq, Int.reduceLE, Int.reduceLT, Int.reduceEq, Int.reduceNe, Int.reduceAdd, Int.reduceSub, Int.reduceMul, Int.reduceNeg, Int.reduceToNat, Int.reduceNatCast, reduceCtorEq, eq_self, hw']
        refine AEnd.ret0 ?_
        simp (implicitDefEqProofs := false) only [↓reduceIte, go_sem, oread, owrite, Nat.reduceAdd, Nat.reduceSub, Nat.reduceMul, Nat.reduceLT, Nat.reduceLeDiff, Nat.reduceEqDiff, Nat.reduceBEq, Int.reduceLE, Int.reduceLT, Int.reduceEq, Int.reduceNe, Int.reduceAdd, Int.reduceSub, Int.reduceMul, Int.reduceNeg, Int.reduceToNat, Int.reduceNatCast, reduceCtorEq, eq_self]
        simp [hw, valsA]
      · have hw' : (64 < (w : Int)) = False := eq_false (by omega)
        have hkj : IntKind.i64.wrap ((k : Int) + (j : Int)) = ((k + j : Nat) : Int) := by rw [wrap64_in _ (by omega) (by omega)]; rfl
        have hww : IntKind.i64.wrap (w : Int) = (w : Int) := wrap64_in _ (by omega) (by omega)
        obtain ⟨p, hp⟩ : ∃ p, p = k + j := ⟨_, rfl⟩
        rw [← hp] at hkj
        simp only [← hp]
        have hp0 : ((0 : Int) ≤ (p : Int)) = True := eq_true (by omega)
        simp (implicitDefEqProofs := false) only [↓reduceIte, go_sem, oread, owrite, Nat.reduceAdd, Nat.reduceSub, Nat.reduceMul, Nat.reduceLT, Nat.reduceLeDiff, Nat.reduceEqDiff, Nat.reduceBEq, Int.reduceLE, Int.reduceLT, Int.reduceEq, Int.reduceNe, Int.reduceAdd, Int.reduceSub, Int.reduceMul, Int.reduceNeg, Int.reduceToNat, Int.reduceNatCast, reduceCtorEq, eq_self, hw', hkj, hww, hwn, bys_one, bys_len, hp0]
        refine ⟨by omega, ?_⟩
        rw [show (bys b).take b.length = bys b from take_len _ _ (bys_len _), drop_bys]
        have hb3 : ∀ c ∈ b.drop p, c < 256 := fun c hc => hb c (List.mem_of_mem_drop hc)
        have hSl := unpackL_lt (b.drop p) m w (by omega)
        have hSn := unpackL_len (b.drop p) m w
        have hu := unpack_does (b.drop p) m w false (by simp; omega) hb3 (by omega) (by omega) H
        unfold unpackA at hu
        generalize unpackL (b.drop p) m w = S at *
        by_cases hue : unpackE (b.drop p) m w = 0
        · rw [hue] at hu ⊢
          refine KCall.ok hu ?_
          simp (implicitDefEqProofs := false) only [↓reduceIte, go_sem, oread, owrite, Nat.reduceAdd, Nat.reduceSub, Nat.reduceMul, Nat.reduceLT, Nat.reduceLeDiff, Nat.reduceEqDiff, Nat.reduceBEq, Int.reduceLE, Int.reduceLT, Int.reduceEq, Int.reduceNe, Int.reduceAdd, Int.reduceSub, Int.reduceMul, Int.reduceNeg, Int.reduceToNat, Int.reduceNatCast, reduceCtorEq, eq_self]
          refine KCall.ok (width_does S false H (by omega) hSl) ?_
          by_cases hwd : widthP S = w
          · have hwd' : (((widthP S : Nat) : Int) = (w : Int)) = True := eq_true (by omega)
            simp (implicitDefEqProofs := false) only [↓reduceIte, go_sem, oread, owrite, Nat.reduceAdd, Nat.reduceSub, Nat.reduceMul, Nat.reduceLT, Nat.reduceLeDiff, Nat.reduceEqDiff, Nat.reduceBEq, Int.reduceLE, Int.reduceLT, Int.reduceEq, Int.reduceNe, Int.reduceAdd, Int.reduceSub, Int.reduceMul, Int.reduceNeg, Int.reduceToNat, Int.reduceNatCast, reduceCtorEq, eq_self, hww, hwd']
            refine KCall.ok (zag_does first hglt H) ?_
            simp (implicitDefEqProofs := false) only [↓reduceIte, go_sem, oread, owrite, Nat.reduceAdd, Nat.reduceSub, Nat.reduceMul, Nat.reduceLT, Nat.reduceLeDiff, Nat.reduceEqDiff, Nat.reduceBEq, Int.reduceLE, Int.reduceLT, Int.reduceEq, Int.reduceNe, Int.reduceAdd, Int.reduceSub, Int.reduceMul, Int.reduceNeg, Int.reduceToNat, Int.reduceNatCast, reduceCtorEq, eq_self, us_len, hSn]
            refine awp_for (fun i s H' => H' = H ++ [.arr 26 3 i ((sumL (zagP first) S (i + 1)).map Val.enc)] ∧ s 12 = .sl H.length i 0 (i + 1) ∧ s 80 = .d (.list false (us S)) ∧ s 81 = iA m ∧ s 82 = iA i) m (by omega) (Weak.refl _ _) ?_ ?_ ?_
            · refine ⟨?_, ?_⟩
              · simp (implicitDefEqProofs := false) only [↓reduceIte, go_sem, oread, owrite, Nat.reduceAdd, Nat.reduceSub, Nat.reduceMul, Nat.reduceLT, Nat.reduceLeDiff, Nat.reduceEqDiff, Nat.reduceBEq, Int.reduceLE, Int.reduceLT, Int.reduceEq, Int.reduceNe, Int.reduceAdd, Int.reduceSub, Int.reduceMul, Int.reduceNeg, Int.reduceToNat, Int.reduceNatCast, reduceCtorEq, eq_self]
                rfl
              · simp (implicitDefEqProofs := false) only [↓reduceIte, go_sem, oread, owrite, Nat.reduceAdd, Nat.reduceSub, Nat.reduceMul, Nat.reduceLT, Nat.reduceLeDiff, Nat.reduceEqDiff, Nat.reduceBEq, Int.reduceLE, Int.reduceLT, Int.reduceEq, Int.reduceNe, Int.reduceAdd, Int.reduceSub, Int.reduceMul, Int.reduceNeg, Int.reduceToNat, Int.reduceNatCast, reduceCtorEq, eq_self]
            · rintro i s H' hi hw2 ⟨rfl, t12, t80, t81, t82⟩
              have hx := us_get S i (by omega)
              have hgd : S.getD i 0 = S[i]'(by omega) := by simp [List.getD, show i < S.length by omega]
              have hsx := hSl _ (List.getElem_mem (show i < S.length by omega))
              have hsu : sumL (zagP first) S (i + 1 + 1) = sumL (zagP first) S (i + 1) ++ [num10 (IntKind.i64.wrap (sumN (zagP first) S i + zagP (S[i]'(by omega))))] := by rw [sumL_succ, ← hgd]; rfl
              have hlst := sumL_get (zagP first) S (show i < i + 1 by omega)
              have hln := sumL_len (zagP first) S (i + 1)
              generalize S[i]'(by omega) = x at hx hsx hsu
              rw [hsu]
              generalize sumN (zagP first) S i = y at *
              generalize sumL (zagP first) S (i + 1) = L at *
              simp (implicitDefEqProofs := false) only [↓reduceIte, go_sem, oread, owrite, Nat.reduceAdd, Nat.reduceSub, Nat.reduceMul, Nat.reduceLT, Nat.reduceLeDiff, Nat.reduceEqDiff, Nat.reduceBEq, Int.reduceLE, Int.reduceLT, Int.reduceEq, Int.reduceNe, Int.reduceAdd, Int.reduceSub, Int.reduceMul, Int.reduceNeg, Int.reduceToNat, Int.reduceNatCast, reduceCtorEq, eq_self, t12, t80, t81, t82, hi, hx]
              have hii : ((i : Int) < (i : Int) + 1) = True := eq_true (by omega)
              refine awp_drawK 11 K.mixed (by kernel_rfl) (by kernel_rfl) ?_
              simp (implicitDefEqProofs := false) only [↓reduceIte, go_sem, oread, owrite, Nat.reduceAdd, Nat.reduceSub, Nat.reduceMul, Nat.reduceLT, Nat.reduceLeDiff, Nat.reduceEqDiff, Nat.reduceBEq, Int.reduceLE, Int.reduceLT, Int.reduceEq, Int.reduceNe, Int.reduceAdd, Int.reduceSub, Int.reduceMul, Int.reduceNeg, Int.reduceToNat, Int.reduceNatCast, reduceCtorEq, eq_self, t12, hlst, hln, hii, Val.enc, num10]
              refine KCall.ok (zag_does x hsx _) ?_
              have hsn : L.map Val.enc ++ [[D.v (.int .i64 1), D.v (.int .i64 (IntKind.i64.wrap (y + zagP x))), D.v (.string ⟨#[]⟩)]] = (L ++ [num10 (IntKind.i64.wrap (y + zagP x))]).map Val.enc := by simp [Val.enc, num10, noS]
              simp (implicitDefEqProofs := false) only [↓reduceIte, go_sem, oread, owrite, Nat.reduceAdd, Nat.reduceSub, Nat.reduceMul, Nat.reduceLT, Nat.reduceLeDiff, Nat.reduceEqDiff, Nat.reduceBEq, Int.reduceLE, Int.reduceLT, Int.reduceEq, Int.reduceNe, Int.reduceAdd, Int.reduceSub, Int.reduceMul, Int.reduceNeg, Int.reduceToNat, Int.reduceNatCast, reduceCtorEq, eq_self, List.length_map, hln, hsn]
              refine ⟨by omega, by omega, ?_⟩
              simp (implicitDefEqProofs := false) only [↓reduceIte, go_sem, oread, owrite, Nat.reduceAdd, Nat.reduceSub, Nat.reduceMul, Nat.reduceLT, Nat.reduceLeDiff, Nat.reduceEqDiff, Nat.reduceBEq, Int.reduceLE, Int.reduceLT, Int.reduceEq, Int.reduceNe, Int.reduceAdd, Int.reduceSub, Int.reduceMul, Int.reduceNeg, Int.reduceToNat, Int.reduceNatCast, reduceCtorEq, eq_self, t82]
              refine Rnd.same ⟨?_, ?_⟩
              · simp (implicitDefEqProofs := false) only [↓reduceIte, go_sem, oread, owrite, Nat.reduceAdd, Nat.reduceSub, Nat.reduceMul, Nat.reduceLT, Nat.reduceLeDiff, Nat.reduceEqDiff, Nat.reduceBEq, Int.reduceLE, Int.reduceLT, Int.reduceEq, Int.reduceNe, Int.reduceAdd, Int.reduceSub, Int.reduceMul, Int.reduceNeg, Int.reduceToNat, Int.reduceNatCast, reduceCtorEq, eq_self]
              · simp (implicitDefEqProofs := false) only [↓reduceIte, go_sem, oread, owrite, Nat.reduceAdd, Nat.reduceSub, Nat.reduceMul, Nat.reduceLT, Nat.reduceLeDiff, Nat.reduceEqDiff, Nat.reduceBEq, Int.reduceLE, Int.reduceLT, Int.reduceEq, Int.reduceNe, Int.reduceAdd, Int.reduceSub, Int.reduceMul, Int.reduceNeg, Int.reduceToNat, Int.reduceNatCast, reduceCtorEq, eq_self, t80, t81, t82, hw2]
            · rintro s H' ⟨rfl, t12, t80, t81, t82⟩
              simp (implicitDefEqProofs := false) only [↓reduceIte, go_sem, oread, owrite, Nat.reduceAdd, Nat.reduceSub, Nat.reduceMul, Nat.reduceLT, Nat.reduceLeDiff, Nat.reduceEqDiff, Nat.reduceBEq, Int.reduceLE, Int.reduceLT, Int.reduceEq, Int.reduceNe, Int.reduceAdd, Int.reduceSub, Int.reduceMul, Int.reduceNeg, Int.reduceToNat, Int.reduceNatCast, reduceCtorEq, eq_self, t12, t81, t82]
              refine AEnd.ret ?_
              simp (implicitDefEqProofs := false) only [↓reduceIte, go_sem, oread, owrite, Nat.reduceAdd, Nat.reduceSub, Nat.reduceMul, Nat.reduceLT, Nat.reduceLeDiff, Nat.reduceEqDiff, Nat.reduceBEq, Int.reduceLE, Int.reduceLT, Int.reduceEq, Int.reduceNe, Int.reduceAdd, Int.reduceSub, Int.reduceMul, Int.reduceNeg, Int.reduceToNat, Int.reduceNatCast, reduceCtorEq, eq_self]
              rw [show ((sumL (zagP first) S (m + 1)).map Val.enc).take (m + 1) = (sumL (zagP first) S (m + 1)).map Val.enc from take_len _ _ (by rw [List.length_map, sumL_len])]
              simp [hw, hwd, valsA]
          · have hwd' : (((widthP S : Nat) : Int) = (w : Int)) = False := eq_false (by omega)
            simp (implicitDefEqProofs := false) only [↓reduceIte, go_sem, oread, owrite, Nat.reduceAdd, Nat.reduceSub, Nat.reduceMul, Nat.reduceLT, Nat.reduceLeDiff, Nat.reduceEqDiff, Nat.reduceBEq, Int.reduceLE, Int.reduceLT, Int.reduceEq, Int.reduceNe, Int.reduceAdd, Int.reduceSub, Int.reduceMul, Int.reduceNeg, Int.reduceToNat, Int.reduceNatCast, reduceCtorEq, eq_self, hww, hwd']
            refine AEnd.ret0 ?_
            simp (implicitDefEqProofs := false) only [↓reduceIte, go_sem, oread, owrite, Nat.reduceAdd, Nat.reduceSub, Nat.reduceMul, Nat.reduceLT, Nat.reduceLeDiff, Nat.reduceEqDiff, Nat.reduceBEq, Int.reduceLE, Int.reduceLT, Int.reduceEq, Int.reduceNe, Int.reduceAdd, Int.reduceSub, Int.reduceMul, Int.reduceNeg, Int.reduceToNat, Int.reduceNatCast, reduceCtorEq, eq_self]
            simp [hw, hwd, valsA]
        · rw [if_neg hue] at hu
          refine KCall.ok hu ?_
          simp (implicitDefEqProofs := false) only [↓reduceIte, go_sem, oread, owrite, Nat.reduceAdd, Nat.reduceSub, Nat.reduceMul, Nat.reduceLT, Nat.reduceLeDiff, Nat.reduceEqDiff, Nat.reduceBEq, Int.reduceLE, Int.reduceLT, Int.reduceEq, Int.reduceNe, Int.reduceAdd, Int.reduceSub, Int.reduceMul, Int.reduceNeg, Int.reduceToNat, Int.reduceNatCast, reduceCtorEq, eq_self, hue]
          refine AEnd.ret0 ?_
          simp (implicitDefEqProofs := false) only [↓reduceIte, go_sem, oread, owrite, Nat.reduceAdd, Nat.reduceSub, Nat.reduceMul, Nat.reduceLT, Nat.reduceLeDiff, Nat.reduceEqDiff, Nat.reduceBEq, Int.reduceLE, Int.reduceLT, Int.reduceEq, Int.reduceNe, Int.reduceAdd, Int.reduceSub, Int.reduceMul, Int.reduceNeg, Int.reduceToNat, Int.reduceNatCast, reduceCtorEq, eq_self]
          simp [hw, hue, valsA]
    · simp (implicitDefEqProofs := false) only [↓reduceIte, go_sem, oread, owrite, Nat.reduceAdd, Nat.reduceSub, Nat.reduceMul, Nat.reduceLT, Nat.reduceLeDiff, Nat.reduceEqDiff, Nat.reduceBEq, Int.reduceLE, Int.reduceLT, Int.reduceEq, Int.reduceNe, Int.reduceAdd, Int.reduceSub, Int.reduceMul, Int.reduceNeg, Int.reduceToNat, Int.reduceNatCast, reduceCtorEq, eq_self, he]
      refine AEnd.ret0 ?_
      simp (implicitDefEqProofs := false) only [↓reduceIte, go_sem, oread, owrite, Nat.reduceAdd, Nat.reduceSub, Nat.reduceMul, Nat.reduceLT, Nat.reduceLeDiff, Nat.reduceEqDiff, Nat.reduceBEq, Int.reduceLE, Int.reduceLT, Int.reduceEq, Int.reduceNe, Int.reduceAdd, Int.reduceSub, Int.reduceMul, Int.reduceNeg, Int.reduceToNat, Int.reduceNatCast, reduceCtorEq, eq_self]
      simp [he, valsA]
  · simp (implicitDefEqProofs := false) only [↓reduceIte, go_sem, oread, owrite, Nat.reduceAdd, Nat.reduceSub, Nat.reduceMul, Nat.reduceLT, Nat.reduceLeDiff, Nat.reduceEqDiff, Nat.reduceBEq, Int.reduceLE, Int.reduceLT, Int.reduceEq, Int.reduceNe, Int.reduceAdd, Int.reduceSub, Int.reduceMul, Int.reduceNeg, Int.reduceToNat, Int.reduceNatCast, reduceCtorEq, eq_self, he]
    refine AEnd.ret0 ?_
    simp (implicitDefEqProofs := false) only [↓reduceIte, go_sem, oread, owrite, Nat.reduceAdd, Nat.reduceSub, Nat.reduceMul, Nat.reduceLT, Nat.reduceLeDiff, Nat.reduceEqDiff, Nat.reduceBEq, Int.reduceLE, Int.reduceLT, Int.reduceEq, Int.reduceNe, Int.reduceAdd, Int.reduceSub, Int.reduceMul, Int.reduceNeg, Int.reduceToNat, Int.reduceNatCast, reduceCtorEq, eq_self]
    simp [he, valsA]
end Go.Proofs.Ytcdnbefcccdaeaa
namespace Go.Proofs.Ytcdnbefcccdaeaa
open Go.Proofs.YtcdnbefcccdaeaaAw Go.RowKit
set_option linter.unusedVariables false
set_option linter.unusedSimpArgs false
/-! ### Numbers -/
theorem numP_put : ∀ (k acc n : Nat) (r : List Nat), k ≤ 9 → acc + n * 128 ^ (9 - k) < 18446744073709551616 → (9 ≤ k ∨ n ≠ 0) → numP (k + 1) acc (putP n ++ r) = (.ok (acc + n * 128 ^ (9 - k)), r) := by
  intro k
  induction k with
  | zero =>
    intro acc n r hk h hn
    have : n ≤ 1 := by
      rcases Nat.lt_or_ge n 2 with h' | h'
      · omega
      · have : 2 * 128 ^ 9 ≤ n * 128 ^ 9 := Nat.mul_le_mul_right _ h'
        simp only [Nat.sub_zero] at h
        omega
    rw [putP_small (by omega)]
    have hb : ¬ ((0 = 0 ∧ 1 < n) ∨ (0 < 9 ∧ n = 0)) := by omega
    rw [List.singleton_append]
    unfold numP
    rw [if_neg hb, if_pos (show n < 128 by omega), Nat.mod_eq_of_lt (show n < 128 by omega)]
  | succ k ih =>
    intro acc n r hk h hn
    by_cases hlt : n < 128
    · rw [putP_small hlt]
      have hb : ¬ ((k + 1 = 0 ∧ 1 < n) ∨ (k + 1 < 9 ∧ n = 0)) := by omega
      rw [List.singleton_append]
      unfold numP
      rw [if_neg hb, if_pos hlt, Nat.mod_eq_of_lt hlt]
    · rw [putP_big hlt]
      have hb : ¬ ((k + 1 = 0 ∧ 1 < n % 128 + 128) ∨ (k + 1 < 9 ∧ n % 128 + 128 = 0)) := by omega
      have hc : (n % 128 + 128) % 128 = n % 128 := by omega
      rw [List.cons_append]
      unfold numP
      rw [if_neg hb, if_neg (show ¬ n % 128 + 128 < 128 by omega), hc]
      have e : 9 - k = (9 - (k + 1)) + 1 := by omega
      have hp : n / 128 * 128 ^ (9 - k) = n / 128 * 128 * 128 ^ (9 - (k + 1)) := by rw [e, Nat.pow_succ, Nat.mul_comm (128 ^ _) 128, Nat.mul_assoc]
      have hs : acc + n % 128 * 128 ^ (9 - (k + 1)) + n / 128 * 128 ^ (9 - k) = acc + n * 128 ^ (9 - (k + 1)) := by
        rw [hp, Nat.add_assoc, ← Nat.add_mul]
        congr 2
        omega
      rw [ih _ _ r (by omega) (by rw [hs]; exact h) (.inr (by omega)), hs]
theorem getP_put (n : Nat) (h : n < 18446744073709551616) (r : List Nat) : getP (putP n ++ r) = (n, (putP n).length, 0) := by
  have := numP_put 9 0 n r (Nat.le_refl _) (by simpa using h) (.inl (Nat.le_refl _))
  unfold getP
  rw [this]
  simp
theorem numP_canon : ∀ (k acc : Nat) (b r : List Nat) (N : Nat), (∀ c ∈ b, c < 256) → k ≤ 9 → numP (k + 1) acc b = (.ok N, r) → ∃ n, b = putP n ++ r ∧ N = acc + n * 128 ^ (9 - k) ∧ (9 ≤ k ∨ n ≠ 0) := by
  intro k
  induction k with
  | zero =>
    intro acc b r N hb hk h
    cases b with
    | nil => simp [numP] at h
    | cons c b =>
      simp only [numP] at h
      split at h
      · simp at h
      · split at h
        · rename_i h1 h2
          simp only [Prod.mk.injEq, Except.ok.injEq] at h
          obtain ⟨rfl, rfl⟩ := h
          refine ⟨c, by rw [putP_small h2]; rfl, by rw [Nat.mod_eq_of_lt h2], .inr (by omega)⟩
        · simp at h
  | succ k ih =>
    intro acc b r N hb hk h
    cases b with
    | nil => simp [numP] at h
    | cons c b =>
      unfold numP at h
      split at h
      · simp at h
      · split at h
        · rename_i h1 h2
          simp only [Prod.mk.injEq, Except.ok.injEq] at h
          obtain ⟨rfl, rfl⟩ := h
          refine ⟨c, by rw [putP_small h2]; rfl, by rw [Nat.mod_eq_of_lt h2], ?_⟩
          omega
        · rename_i h1 h2
          obtain ⟨m, rfl, hN, hm⟩ := ih _ b r N (fun x hx => hb x (by simp [hx])) (by omega) h
          have hc := hb c (by simp)
          have hm0 : m ≠ 0 := by omega
          refine ⟨c % 128 + 128 * m, ?_, ?_, .inr (by omega)⟩
          · rw [putP_big (n := c % 128 + 128 * m) (by omega), show (c % 128 + 128 * m) % 128 + 128 = c by omega, show (c % 128 + 128 * m) / 128 = m by omega]; rfl
          · rw [hN, show 9 - k = (9 - (k + 1)) + 1 by omega, Nat.pow_succ, Nat.add_mul, Nat.add_assoc]
            congr 2
            rw [Nat.mul_comm (128 ^ _) 128, ← Nat.mul_assoc, Nat.mul_comm m 128]
theorem numP_err : ∀ (k acc : Nat) (b r : List Nat) (e : Int), numP k acc b = (.error e, r) → e ≠ 0
  | 0, _, _, _, _, h => by simp only [numP, Prod.mk.injEq, Except.error.injEq] at h; omega
  | _ + 1, _, [], _, _, h => by simp only [numP, Prod.mk.injEq, Except.error.injEq] at h; omega
  | k + 1, acc, c :: b, r, e, h => by
    unfold numP at h
    split at h
    · simp only [Prod.mk.injEq, Except.error.injEq] at h; omega
    · split at h
      · simp at h
      · exact numP_err k _ b r e h
theorem getP_canon {b : List Nat} {n k : Nat} (hb : ∀ c ∈ b, c < 256) (h : getP b = (n, k, 0)) : k = (putP n).length ∧ b = putP n ++ b.drop k := by
  unfold getP at h
  split at h
  · rename_i N r hn
    obtain ⟨m, rfl, hN, _⟩ := numP_canon 9 0 b r N hb (Nat.le_refl _) hn
    simp only [Prod.mk.injEq] at h
    obtain ⟨rfl, rfl, _⟩ := h
    have : N = m := by simpa using hN
    subst this
    refine ⟨by simp, by simp⟩
  · rename_i e r hn
    simp only [Prod.mk.injEq] at h
    exact absurd h.2.2 (numP_err _ _ _ _ _ hn)
/-! ### Bits -/
theorem byteOf_bit : ∀ (l : List Bool) (j : Nat), (byteOf l).testBit j = l.getD j false
  | [], j => by simp [byteOf]
  | b :: r, 0 => by
    rw [Nat.testBit_zero]
    simp only [byteOf, List.getD_cons_zero]
    cases b <;> simp <;> omega
  | b :: r, j + 1 => by
    rw [Nat.testBit_succ]
    have : (byteOf (b :: r)) / 2 = byteOf r := by simp only [byteOf]; cases b <;> simp <;> omega
    rw [this, byteOf_bit r j, List.getD_cons_succ]
theorem bitsN_byteOf (l : List Bool) : bitsN (byteOf l) l.length = l := by
  apply List.ext_getElem
  · rw [bitsN_len]
  · intro i h1 h2
    simp only [bitsN, List.getElem_map, List.getElem_range, byteOf_bit]
    simp [List.getD, h2]
theorem byteOf_bitsN (n w : Nat) (h : n < 2 ^ w) : byteOf (bitsN n w) = n := by
  apply Nat.eq_of_testBit_eq
  intro j
  rw [byteOf_bit]
  by_cases hj : j < w
  · simp [List.getD, bitsN, hj]
  · have : n.testBit j = false := Nat.testBit_lt_two_pow (Nat.lt_of_lt_of_le h (Nat.pow_le_pow_right (by decide) (by omega)))
    simp [List.getD, bitsN, hj, this]
theorem byteOf_pad (l : List Bool) : ∀ m : Nat, byteOf (l ++ List.replicate m false) = byteOf l := by
  intro m
  apply Nat.eq_of_testBit_eq
  intro j
  rw [byteOf_bit, byteOf_bit]
  simp only [List.getD]
  by_cases hj : j < l.length
  · rw [List.getElem?_append_left hj]
  · rw [List.getElem?_append_right (by omega), List.getElem?_eq_none (by omega : l.length ≤ j), List.getElem?_replicate]
    split <;> rfl
theorem byteOf_zero : ∀ l : List Bool, byteOf l = 0 → l = List.replicate l.length false
  | [], _ => rfl
  | b :: r, h => by
    have hb : b = false := by
      cases b
      · rfl
      · simp only [byteOf, Bool.toNat_true] at h; omega
    have hr : byteOf r = 0 := by simp only [byteOf] at h; omega
    rw [List.length_cons, List.replicate_succ, hb, ← byteOf_zero r hr]
/-- The bits of bytes of bits are these and some that are none. -/
theorem bitsB_pack (L : List Bool) : bitsB (packB L) = L ++ List.replicate (8 * ((L.length + 7) / 8) - L.length) false := by
  have hlen : (bitsB (packB L)).length = 8 * ((L.length + 7) / 8) := by rw [bitsB_len, packB_len]
  apply List.ext_getElem
  · rw [hlen, List.length_append, List.length_replicate]; omega
  · intro i h1 h2
    rw [hlen] at h1
    have hq : i / 8 < (L.length + 7) / 8 := by omega
    have hp : (packB L)[i / 8]? = some (byteAt L (i / 8)) := by simp [packB, hq]
    have h3 := bitsB_get (packB L) i _ hp
    rw [List.getElem?_eq_getElem (by rw [hlen]; exact h1)] at h3
    rw [Option.some.inj h3]
    unfold byteAt
    rw [byteOf_bit]
    have h8 : i % 8 < 8 := Nat.mod_lt _ (by decide)
    simp only [List.getD]
    rw [List.getElem?_take_of_lt h8, List.getElem?_drop, show 8 * (i / 8) + i % 8 = i by omega]
    by_cases hi : i < L.length
    · rw [List.getElem_append_left hi, List.getElem?_eq_getElem hi]; rfl
    · rw [List.getElem_append_right (by omega), List.getElem?_eq_none (by omega : L.length ≤ i)]
      simp
theorem bitsL_at : ∀ (S : List Nat) (w k : Nat) (x : Nat), S[k]? = some x → ((bitsL S w).drop (k * w)).take w = bitsN x w
  | [], w, k, x, h => by simp at h
  | y :: S, w, 0, x, h => by
    obtain rfl : y = x := by simpa using h
    have e : bitsL (y :: S) w = bitsN y w ++ bitsL S w := rfl
    rw [e, Nat.zero_mul, List.drop_zero, List.take_append_of_le_length (by rw [bitsN_len]; exact Nat.le_refl _), List.take_of_length_le (by rw [bitsN_len]; exact Nat.le_refl _)]
  | y :: S, w, k + 1, x, h => by
    have e : bitsL (y :: S) w = bitsN y w ++ bitsL S w := rfl
    rw [e, Nat.add_mul, Nat.one_mul, Nat.add_comm, ← List.drop_drop, List.drop_left' (bitsN_len y w)]
    exact bitsL_at S w k x h
/-- What is packed is unpacked. -/
theorem unpack_pack (S : List Nat) (w : Nat) (h : ∀ n ∈ S, n < 2 ^ w) : unpackL (packP S w) S.length w = S ∧ unpackE (packP S w) S.length w = 0 := by
  have hL := bitsL_len S w
  have hB := bitsB_pack (bitsL S w)
  have hpl : (packP S w).length = ((bitsL S w).length + 7) / 8 := packB_len _
  constructor
  · apply List.ext_getElem
    · rw [unpackL_len]
    · intro k h1 h2
      have hx := List.getElem?_eq_getElem h2
      have hlt := h _ (List.getElem_mem h2)
      simp only [unpackL, List.getElem_map, List.getElem_range, partP]
      unfold packP
      rw [hB]
      have hk : k * w + w ≤ (bitsL S w).length := by rw [hL, ← Nat.succ_mul]; exact Nat.mul_le_mul_right _ h2
      rw [List.drop_append_of_le_length (by omega), List.take_append_of_le_length (by rw [List.length_drop]; omega), bitsL_at S w k _ hx, byteOf_bitsN _ _ hlt]
  · unfold unpackE
    rw [if_neg (by omega), if_neg (by omega)]
    unfold packP
    rw [hB, List.drop_append_of_le_length (by omega), List.drop_of_length_le (by omega), byteOf_pad]
    rfl
theorem bitsN_at (b : List Nat) (i c : Nat) (h : b[i]? = some c) : ((bitsB b).drop (8 * i)).take 8 = bitsN c 8 := by
  have := bitsL_at b 8 i c h
  rw [Nat.mul_comm]
  exact this
/-- What is unpacked is packed as these very bytes. -/
theorem pack_unpack (b : List Nat) (n w : Nat) (hb : ∀ c ∈ b, c < 256) (h : unpackE b n w = 0) : packP (unpackL b n w) w = b := by
  unfold unpackE at h
  split at h
  · simp at h
  rename_i h1
  split at h
  · simp at h
  rename_i h2
  split at h
  · rename_i h3
    have hz := byteOf_zero _ h3
    have hlen := bitsB_len b
    have hU : ∀ m, m ≤ n → bitsL (unpackL b m w) w = (bitsB b).take (m * w) := by
      intro m
      induction m with
      | zero => intro _; simp [unpackL, bitsL]
      | succ m ih =>
        intro hm
        have hmw : (m + 1) * w ≤ n * w := Nat.mul_le_mul_right _ hm
        rw [unpackL_succ, bitsL_snoc, ih (by omega), Nat.succ_mul, List.take_add]
        congr 1
        unfold partP
        have hl : (((bitsB b).drop (m * w)).take w).length = w := by
          rw [Nat.succ_mul] at hmw
          rw [List.length_take, List.length_drop]; omega
        have := bitsN_byteOf (((bitsB b).drop (m * w)).take w)
        rw [hl] at this
        exact this
    have hB : bitsB b = bitsL (unpackL b n w) w ++ List.replicate ((bitsB b).drop (n * w)).length false := by
      rw [hU n (Nat.le_refl _), ← hz, List.take_append_drop]
    have hLl : (bitsL (unpackL b n w) w).length = n * w := by rw [bitsL_len, unpackL_len]
    apply List.ext_getElem
    · rw [packP, packB_len, hLl]; omega
    · intro i h4 h5
      have hx := List.getElem?_eq_getElem h5
      have hlt := hb _ (List.getElem_mem h5)
      have e8 := bitsN_at b i _ hx
      rw [hB] at e8
      simp only [packP, packB, List.getElem_map, List.getElem_range, byteAt]
      rw [← byteOf_bitsN b[i] 8 (by omega), ← e8]
      rw [List.drop_append, List.take_append, List.drop_replicate, List.take_replicate, byteOf_pad]
  · simp at h
end Go.Proofs.Ytcdnbefcccdaeaa
namespace Go.Proofs.Ytcdnbefcccdaeaa
open Go.Proofs.YtcdnbefcccdaeaaAw Go.RowKit
set_option linter.unusedVariables false
set_option linter.unusedSimpArgs false
theorem zag_zig (n : Int) (h : I64 n) : zagP (zigP n) = n := by
  obtain ⟨h1, h2⟩ := h
  unfold zigP zagP
  by_cases h0 : 0 ≤ n
  · rw [if_pos h0, if_neg (by omega)]; omega
  · rw [if_neg h0, if_pos (by omega)]; omega
theorem zagP_rng (n : Nat) (h : n < 18446744073709551616) : I64 (zagP n) := by
  unfold zagP I64
  split <;> omega
theorem zig_zag (n : Nat) (h : n < 18446744073709551616) : zigP (zagP n) = n := by
  unfold zagP zigP
  split
  · rw [if_neg (by omega)]; omega
  · rw [if_pos (by omega)]; omega
theorem wrap64_q (n : Int) : ∃ q : Int, IntKind.i64.wrap n = n + q * 18446744073709551616 := by
  have h1 := Int.emod_add_mul_ediv n 18446744073709551616
  simp only [IntKind.wrap, IntKind.signed, IntKind.bits]
  simp only [show ((2 : Int) ^ 64) = 18446744073709551616 from rfl, show ((2 : Int) ^ (64 - 1)) = 9223372036854775808 from rfl]
  by_cases h : n % 18446744073709551616 ≥ 9223372036854775808
  · refine ⟨-(n / 18446744073709551616) - 1, ?_⟩
    simp only [h, decide_true, Bool.true_and, if_true]
    omega
  · refine ⟨-(n / 18446744073709551616), ?_⟩
    simp only [h, decide_false, Bool.and_false, Bool.false_eq_true, if_false]
    omega
theorem wrap_sub (a z : Int) (h : I64 z) : IntKind.i64.wrap (IntKind.i64.wrap (a + z) - a) = z := by
  obtain ⟨q, hq⟩ := wrap64_q (a + z)
  obtain ⟨p, hp⟩ := wrap64_q (IntKind.i64.wrap (a + z) - a)
  have hr := wrap64_rng (IntKind.i64.wrap (a + z) - a)
  obtain ⟨h1, h2⟩ := h
  omega
theorem wrap_add (a b : Int) (h : I64 b) : IntKind.i64.wrap (a + IntKind.i64.wrap (b - a)) = b := by
  obtain ⟨q, hq⟩ := wrap64_q (b - a)
  obtain ⟨p, hp⟩ := wrap64_q (a + IntKind.i64.wrap (b - a))
  have hr := wrap64_rng (a + IntKind.i64.wrap (b - a))
  obtain ⟨h1, h2⟩ := h
  omega
theorem wrap_I64 (n : Int) : I64 (IntKind.i64.wrap n) := wrap64_rng n
/-! ### Sums of steps -/
theorem sumN_I64 (x : Int) (hx : I64 x) (S : List Nat) : ∀ k, I64 (sumN x S k)
  | 0 => hx
  | k + 1 => wrap_I64 _
theorem sumN_steps (l : List Val) (v : Val) (h0 : l[0]? = some v) (hok : ∀ v ∈ l, I64 v.i) : ∀ k (y : Val), l[k]? = some y → sumN v.i (stepsP l) k = y.i := by
  intro k
  induction k with
  | zero => intro y hy; rw [h0] at hy; cases hy; rfl
  | succ k ih =>
    intro y hy
    have hlt := (List.getElem?_eq_some_iff.1 hy).1
    have hx := List.getElem?_eq_getElem (show k < l.length by omega)
    have hy2 : l[k + 1] = y := (List.getElem?_eq_some_iff.1 hy).2
    have hs := stepsP_get l k hlt
    have hgd : (stepsP l).getD k 0 = diffP l[k] l[k + 1] := by simp [List.getD, hs]
    simp only [sumN]
    rw [ih _ hx, hgd, hy2]
    unfold diffP
    rw [zag_zig _ (wrap_I64 _), wrap_add _ _ (hok y (List.mem_of_getElem? hy))]
theorem sumL_steps (l : List Val) (v : Val) (h0 : l[0]? = some v) (hn : ∀ v ∈ l, v = num10 v.i) (hok : ∀ v ∈ l, I64 v.i) : sumL v.i (stepsP l) l.length = l := by
  apply List.ext_getElem
  · rw [sumL_len]
  · intro k h1 h2
    have hy := List.getElem?_eq_getElem h2
    simp only [sumL, List.getElem_map, List.getElem_range]
    rw [sumN_steps l v h0 hok k _ hy]
    exact (hn _ (List.getElem_mem h2)).symm
theorem steps_sumL (x : Int) (hx : I64 x) (S : List Nat) (hS : ∀ n ∈ S, n < 18446744073709551616) : stepsP (sumL x S (S.length + 1)) = S := by
  apply List.ext_getElem
  · rw [stepsP_len, sumL_len]; rfl
  · intro k h1 h2
    have h3 := stepsP_get (sumL x S (S.length + 1)) k (by rw [sumL_len]; omega)
    rw [List.getElem?_eq_getElem h1] at h3
    rw [Option.some.inj h3]
    simp only [sumL, List.getElem_map, List.getElem_range, diffP, num10]
    have hgd : S.getD k 0 = S[k] := by simp [List.getD, h2]
    have hlt := hS _ (List.getElem_mem h2)
    simp only [sumN, hgd]
    rw [wrap_sub _ _ (zagP_rng _ hlt), zig_zag _ hlt]
/-! ### Round trips -/
theorem bytesD_cons (v : Val) (r : List Val) : bytesD (v :: r) = putP (zigP v.i) ++ (putP (widthP (stepsP (v :: r))) ++ packP (stepsP (v :: r)) (widthP (stepsP (v :: r)))) := by
  rw [← List.append_assoc]; rfl
theorem of_bytes (l : List Val) (hl : l ≠ []) (hm : l.length ≤ 4096) (hn : ∀ v ∈ l, v = num10 v.i) (hok : ∀ v ∈ l, I64 v.i) : ofR (bytesD l) l.length = (some l, 0) := by
  cases l with
  | nil => exact absurd rfl hl
  | cons v r =>
    have hlen : (v :: r).length = r.length + 1 := rfl
    have hv := hok v (by simp)
    have hz := zigP_lt hv.1 hv.2
    have hss := stepsP_lt (v :: r)
    have hw := widthP_le hss
    have hfit := widthP_fits (l := stepsP (v :: r))
    have hsl := stepsP_len (v :: r)
    have hsum := sumL_steps (v :: r) v rfl hn hok
    unfold ofR
    rw [if_neg (by omega), if_neg (by omega)]
    unfold ofB
    rw [bytesD_cons, getP_put _ hz, List.drop_left]
    simp only
    rw [getP_put _ (by omega), ← List.append_assoc, ← List.length_append, List.drop_left]
    simp only
    have hu := unpack_pack (stepsP (v :: r)) (widthP (stepsP (v :: r))) hfit
    rw [hsl] at hu
    rw [Int.toNat_natCast, hu.1, hu.2, zag_zig _ hv, hsum]
    simp [show ¬ 64 < widthP (stepsP (v :: r)) by omega]
theorem bytes_of (b : List Nat) (n : Int) (k : List Val) (hb : ∀ c ∈ b, c < 256) (h : ofR b n = (some k, 0)) : bytesD k = b ∧ (k.length : Int) = n ∧ k ≠ [] ∧ n ≤ 4096 ∧ (∀ v ∈ k, v = num10 v.i) ∧ ∀ v ∈ k, I64 v.i := by
  unfold ofR at h
  by_cases h1 : n < 0 ∨ 4096 < n
  · rw [if_pos h1] at h; simp at h
  rw [if_neg h1] at h
  by_cases h2 : n = 0
  · rw [if_pos h2] at h; simp at h
  rw [if_neg h2] at h
  obtain ⟨m, hm⟩ : ∃ m : Nat, n = ((m + 1 : Nat) : Int) := ⟨n.toNat - 1, by omega⟩
  have hmt : n.toNat = m + 1 := by omega
  unfold ofB at h
  rw [hmt, show m + 1 - 1 = m from rfl] at h
  have hlt1 := getP_lt b
  rcases hg : getP b with ⟨first, k1, e1⟩
  rw [hg] at h hlt1
  simp only at h hlt1
  by_cases he : e1 = 0
  · subst he
    simp only [ne_eq, not_true_eq_false, if_false] at h
    obtain ⟨hk1, hb1⟩ := getP_canon hb hg
    have hb2 : ∀ c ∈ b.drop k1, c < 256 := fun c hc => hb c (List.mem_of_mem_drop hc)
    rcases hg2 : getP (b.drop k1) with ⟨w, j, e2⟩
    rw [hg2] at h
    simp only at h
    by_cases he2 : e2 = 0
    · subst he2
      simp only [not_true_eq_false, if_false] at h
      obtain ⟨hj, hb3⟩ := getP_canon hb2 hg2
      rw [List.drop_drop] at hb3
      by_cases hw : 64 < w
      · rw [if_pos hw] at h; simp at h
      rw [if_neg hw] at h
      by_cases hu : unpackE (b.drop (k1 + j)) m w = 0
      · rw [if_neg (by simp [hu])] at h
        have hpk := pack_unpack (b.drop (k1 + j)) m w (fun c hc => hb c (List.mem_of_mem_drop hc)) hu
        have hSl := unpackL_lt (b.drop (k1 + j)) m w (by omega)
        have hSn := unpackL_len (b.drop (k1 + j)) m w
        generalize unpackL (b.drop (k1 + j)) m w = S at *
        by_cases hwd : widthP S = w
        · rw [if_neg (by simp [hwd])] at h
          have hk : k = sumL (zagP first) S (m + 1) := by
            have := (Prod.mk.inj h).1
            exact (Option.some.inj this).symm
          have hsteps := steps_sumL (zagP first) (zagP_rng _ hlt1) S hSl
          rw [hSn] at hsteps
          have hnum : ∀ v ∈ k, v = num10 v.i ∧ I64 v.i := by
            intro v hv
            rw [hk] at hv
            obtain ⟨i, _, rfl⟩ := List.mem_map.1 hv
            exact ⟨rfl, sumN_I64 _ (zagP_rng _ hlt1) S i⟩
          refine ⟨?_, by rw [hk, sumL_len, hm], by rw [hk]; intro e; have := congrArg List.length e; rw [sumL_len] at this; simp at this, by omega, fun v hv => (hnum v hv).1, fun v hv => (hnum v hv).2⟩
          obtain ⟨r, hr⟩ : ∃ r, sumL (zagP first) S (m + 1) = num10 (zagP first) :: r := ⟨_, by simp only [sumL, List.range_succ_eq_map, List.map_cons]; rfl⟩
          rw [hk, hr, bytesD_cons, ← hr, hsteps, hwd, hpk]
          simp only [num10]
          rw [zig_zag _ hlt1, ← hb3, ← hb1]
        · rw [if_pos hwd] at h; simp at h
      · rw [if_pos hu] at h
        simp at h
    · rw [if_pos he2] at h; simp at h
  · rw [if_pos he] at h; simp at h
end Go.Proofs.Ytcdnbefcccdaeaa

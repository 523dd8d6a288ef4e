/- Functions that defer a call; deferred functions that recover. -/
import Derived.Test.YtcdnbefcccdaeaaAwJ
import Derived.Recover
namespace Go.Proofs.YtcdnbefcccdaeaaAw
open Go.RowKit
set_option linter.unusedVariables false
set_option linter.unusedSimpArgs false
def mPan (v : Value) : FrameMode := .panicking [{ v := v, recovered := false }]
def mRec (v : Value) : FrameMode := .panicking [{ v := v, recovered := true }]
/-- What recover answers in a mode, and the mode afterwards. -/
inductive Mode : FrameMode → Value → FrameMode → Prop
  | ret : Mode .returning .nilIface .returning
  | pan (v : Value) : Mode (mPan v) v (mRec v)
/-- The contract of a deferred function: it ends well, and leaves its caller in such a mode. -/
def DoesD (P : Program) (f : FuncId) (args : List AV) (H : AHeap) (u : FrameMode) (H' : AHeap) (u' : FrameMode) : Prop :=
  ∀ φ N w vals, Rel H φ N w → RAs H φ N w args vals → (callFunc f vals).run P w = .ok (.enter f vals) w ∧
    CallsD P f vals u w fun e u1 w' => (∃ v, e = .returned v) ∧ u1 = u' ∧ ∃ φ' N', Rel H' φ' N' w' ∧ Since H φ N w H' φ' N' w'

theorem RAs.init {H : AHeap} {φ : Phi} {N : Addr → Prop} {w : World} {args : List AV} {vals : Array Value} (h : RAs H φ N w args vals) (n : Nat) : TRel H φ N w (ainit args) { tmps := vals ++ Array.replicate (n - vals.size) undef, defers := [] } := by
  intro t
  simp only [ainit]
  by_cases ht : t < args.length
  · have ht' : t < vals.size := by rw [← h.1]; exact ht
    have := h.2 t ht ht'
    have e1 : args.getD t .top = args[t] := by simp [List.getD, ht]
    have e2 : (vals ++ Array.replicate (n - vals.size) undef).getD t undef = vals[t] := by
      rw [Array.getD_eq_getD_getElem?, Array.getElem?_append_left ht']; simp [ht']
    rw [e1, e2]
    exact this
  · have e1 : args.getD t .top = .top := by simp [List.getD, List.getElem?_eq_none (Nat.le_of_not_lt ht)]
    rw [e1]
    exact .top _
theorem RAs.since {H H' : AHeap} {φ φ' : Phi} {N N' : Addr → Prop} {w w' : World} {args : List AV} {vals : Array Value} (h : RAs H φ N w args vals) (hR : Rel H φ N w) (hS : Since H φ N w H' φ' N' w') : RAs H' φ' N' w' args vals :=
  ⟨h.1, fun i h1 h2 => (h.2 i h1 h2).since hR hS⟩

theorem DoesD.of_awp {P : Program} {hint : Nat → Bool} {f : FuncId} {fn : Func} {id : Nat} {o0 o1 : Oper} {rest : Code} {d0 d1 : Tmp} (hf : P.funcs[f]? = some fn) (hn : (fn.name == "runtime.NumGoroutine") = false) (hb : fn.body = some (.seq (.region id #[o0, o1] false) rest))
    (h0 : ∃ ats, o0.op = .call { callee := .builtin .recover, args := #[], argTypes := ats }) (g0 : o0.guard = none) (e0 : o0.dst = some d0) (h1 : o1.op = .assign (.tmp d0)) (g1 : o1.guard = none) (e1 : o1.dst = some d1) (hl : d0 < fn.ntmps) (hr : fn.results = #[])
    {args : List AV} {H H' : AHeap} {u u' : FrameMode} {v : Value} (ha : args.length ≤ fn.ntmps) (hm : Mode u v u')
    (h : awp P hint fn.ntmps H rest (fun e s H1 => (match e with | .normal | .ret => True | _ => False) ∧ ∃ s', Weak H s H1 s' H') (aput fn.ntmps (aput fn.ntmps (ainit args) (some d0) (aconst v)) (some d1) (aconst v)) H) : DoesD P f args H u H' u' := by
  intro φ N w vals hR hA
  refine ⟨enter_run hf hn (by rw [hb]; rfl) vals w, callsD_of_wpS hf hb fun c0 cs hc0 => wpS_seq (wpS_region ?_)⟩
  have hI : Inv H φ N w fn.ntmps [] (aput fn.ntmps (aput fn.ntmps (ainit args) (some d0) (aconst v)) (some d1) (aconst v)) H φ N (({ tmps := vals ++ Array.replicate (fn.ntmps - vals.size) undef, defers := [] } : Act).put (some d0) v |>.put (some d1) v) w := by
    have h : Inv H φ N w fn.ntmps [] (ainit args) H φ N { tmps := vals ++ Array.replicate (fn.ntmps - vals.size) undef, defers := [] } w :=
      ⟨hR, hA.init _, Since.refl, by simp; have := hA.1; omega, rfl⟩
    exact (h.put hR Since.refl (aconst_ok v) (some d0)).put hR Since.refl (aconst_ok v) (some d1)
  have hrec : ∃ cs', (match recoverD (c0 :: cs) with | some (x, cs') => (x, cs') | none => (Value.nilIface, c0 :: cs)) = (v, cs') ∧ cs' = { c0 with mode := u' } :: cs := by
    subst hc0
    generalize hu : c0.mode = u at hm
    cases hm with
    | ret => exact ⟨c0 :: cs, by simp [recoverD, hu], by rw [← hu]⟩
    | pan v => exact ⟨_, by simp [recoverD, hu, mPan]; rfl, rfl⟩
  obtain ⟨cs', hrec, hcs⟩ := hrec
  have hwp := awp_ok hR rest _ hI h
  let R : Ending → FrameMode → World → Prop := fun e u1 w' => (∃ v, e = .returned v) ∧ u1 = u' ∧ ∃ φ' N', Rel H' φ' N' w' ∧ Since H φ N w H' φ' N' w'
  have hS : Code.wpS P rest (bodyPostS P fn c0 cs R) ((({ tmps := vals ++ Array.replicate (fn.ntmps - vals.size) undef, defers := [] } : Act).put (some d0) v).put (some d1) v) cs' w := by
    refine wpS_of_wp (wp_mono hwp ?_)
    rintro e a' w' ⟨ax, s', H1, φ1, N1, rfl, ⟨hq, s'', hW⟩, hI1⟩
    obtain ⟨φ2, N2, hI2⟩ := hW.ok hR hI1
    have fin : a'.defers = [] ∧ ∃ u1, cs' = { c0 with mode := u1 } :: cs ∧ ∃ v, (results fn a'.tmps).run P w' = .ok v w' ∧ R (.returned v) u1 w' :=
      ⟨hI2.defers, u', hcs, _, run_results [] (by rw [hr]; rfl) (by simp) _ _, ⟨_, rfl⟩, rfl, φ2, N2, hI2.rel, hI2.since⟩
    cases ax with
    | normal => exact fin
    | ret => exact fin
    | exit i => exact hq.elim
    | panic v => exact hq.elim
  have tail : wpOpsS P #[o0, o1] (Exit.thenS (Code.wpS P rest (bodyPostS P fn c0 cs R)) (bodyPostS P fn c0 cs R)) [1]
      (({ tmps := vals ++ Array.replicate (fn.ntmps - vals.size) undef, defers := [] } : Act).put (some d0) v) cs' w := by
    have hev : (({ tmps := vals ++ Array.replicate (fn.ntmps - vals.size) undef, defers := [] } : Act).put (some d0) v).eval (.tmp d0) = v := by
      have : d0 < vals.size + (fn.ntmps - vals.size) := Nat.lt_of_lt_of_le hl (by omega)
      simp [Act.eval, Act.put, this]
    have hx : (execOp (({ tmps := vals ++ Array.replicate (fn.ntmps - vals.size) undef, defers := [] } : Act).put (some d0) v).eval o1).run P w = .ok (.value v) w := by
      simp only [execOp, h1, hev]; rfl
    have hw : Region.wanted o1 (yielded #[o0, o1] (({ tmps := vals ++ Array.replicate (fn.ntmps - vals.size) undef, defers := [] } : Act).put (some d0) v).tmps) = true := by simp [Region.wanted, g1]
    simp only [wpOpsS, List.getElem?_toArray, List.getElem?_cons_succ, List.getElem?_cons_zero, hw, if_true, hx, Oper.upon, e1]
    exact hS
  obtain ⟨ats, h0⟩ := h0
  have hx : (execOp (({ tmps := vals ++ Array.replicate (fn.ntmps - vals.size) undef, defers := [] } : Act)).eval o0).run P w = .ok .recover w := by
    simp only [execOp, h0, resolve, Deferred.ofValue, invoke]
    rfl
  have hw : Region.wanted o0 (yielded #[o0, o1] (({ tmps := vals ++ Array.replicate (fn.ntmps - vals.size) undef, defers := [] } : Act)).tmps) = true := by simp [Region.wanted, g0]
  show wpOpsS P #[o0, o1] _ [0, 1] _ _ _
  unfold wpOpsS
  simp only [List.getElem?_toArray, List.getElem?_cons_zero, hw, if_true, hx, e0]
  revert hrec
  cases recoverD (c0 :: cs) with
  | none =>
    intro hrec
    have e1 : Value.nilIface = v := congrArg Prod.fst hrec
    have e2 : c0 :: cs = cs' := congrArg Prod.snd hrec
    simp only [e1, e2]
    exact tail
  | some p =>
    intro hrec
    have e1 : p.1 = v := congrArg Prod.fst hrec
    have e2 : p.2 = cs' := congrArg Prod.snd hrec
    simp only [e1, e2]
    exact tail

/-- What is left of a function where its body has ended and its deferred call is still to come. -/
def AEndD (P : Program) (rs : List ResultVar) (H0 : AHeap) (res : ARes) (H' : AHeap) (g : FuncId) (dargs : List AV) : Post := fun e s H =>
  match e with
  | .normal | .ret => ∃ H1, DoesD P g dargs H .returning H1 .returning ∧ AEndC P rs H0 res H' .ret s H1
  | .panic v => ∃ H1, DoesD P g dargs H (mPan v) H1 (mRec v) ∧ AEndC P rs H0 res H' .ret s H1
  | _ => False
theorem finC {P : Program} {fn : Func} {rs : List ResultVar} (hr : fn.results.toList = rs) {H : AHeap} {φ : Phi} {N : Addr → Prop} {w : World} (hR : Rel H φ N w) {res : ARes} {H' : AHeap} {n : Nat} {ds : List Deferred} {s' : Nat → AV} {H1 : AHeap} {φ1 : Phi} {N1 : Addr → Prop} {a' : Act} {w' : World}
    (hI1 : Inv H φ N w n ds s' H1 φ1 N1 a' w') (h : AEndC P rs H res H' .ret s' H1) : ∃ v, (results fn a'.tmps).run P w' = .ok v w' ∧ ∃ φ' N', Rel H' φ' N' w' ∧ Since H φ N w H' φ' N' w' ∧ REnd H' φ' N' w' res (.returned v) := by
  obtain ⟨avs, s'', hav, hW, rfl⟩ := h
  obtain ⟨us, hus, hl, hru⟩ := resAll_ok hI1.rel hI1.tmps hav
  have hI2 : Inv H φ N w us.length [] (fun t => avs.getD t .top) H1 φ1 N1 { tmps := us.toArray, defers := [] } w' := by
    refine ⟨hI1.rel, fun t => ?_, hI1.since, by simp, rfl⟩
    by_cases ht : t < avs.length
    · have e1 : avs.getD t .top = avs[t] := by simp [List.getD, ht]
      have e2 : (us.toArray : Array Value).getD t undef = us[t]'(by omega) := by
        rw [Array.getD_eq_getD_getElem?]; simp [show t < us.length by omega]
      simp only [e1, e2]
      exact hru t ht (by omega)
    · have e1 : avs.getD t .top = .top := by simp [List.getD, List.getElem?_eq_none (Nat.le_of_not_lt ht)]
      simp only [e1]
      exact .top _
  obtain ⟨φ2, N2, hI3⟩ := hW.ok hR hI2
  refine ⟨_, results_run (by rw [hr]; exact hus), φ2, N2, hI3.rel, hI3.since, ?_⟩
  have at_ : ∀ t, RA H' φ2 N2 w' (s'' t) ((us.toArray : Array Value).getD t undef) := hI3.tmps
  show RA H' φ2 N2 w' (ares (List.range avs.length) s'') _
  match us, hl with
  | [], hl =>
    have : avs = [] := List.eq_nil_of_length_eq_zero hl
    subst this
    exact .tup _ _ rfl fun i h1 => by simp at h1
  | [u], hl =>
    have : avs.length = 1 := hl
    rw [this]
    exact at_ 0
  | u :: v :: l, hl =>
    have e : ares (List.range avs.length) s'' = .tup ((List.range avs.length).map s'') := ares_many _ (by simp [hl]) s''
    rw [e]
    refine .tup _ _ (by simp [hl]) fun i h1 h2 => ?_
    have := at_ i
    rw [Array.getD_eq_getD_getElem?] at this
    simp only [List.size_toArray] at h2
    rw [List.getElem?_toArray, List.getElem?_eq_getElem h2] at this
    simpa using this
/-- The contract of a function that defers one call, out of its body. -/
theorem Does.of_awpD {P : Program} {hint : Nat → Bool} {f : FuncId} {fn : Func} {pre rest : Code} {id : Nat} {o : Oper} {c : Call} {f0 : Operand} (hf : P.funcs[f]? = some fn) (hn : (fn.name == "runtime.NumGoroutine") = false) (hb : fn.body = some (.seq pre (.seq (.region id #[o] false) rest)))
    (rs : List ResultVar) (hr : fn.results.toList = rs) (ho : o.op = .defer c) (hc : c.callee = .value f0) (hg : o.guard = none) (hd : o.dst = none)
    {args : List AV} {H : AHeap} {res : ARes} {H' : AHeap} (ha : args.length ≤ fn.ntmps)
    (h : awp P hint fn.ntmps H pre (fun e s H1 => match e with
      | .normal => ob (asF (aeval s f0)) fun g => awp P hint fn.ntmps H1 rest (AEndD P rs H res H' g.1 (c.args.toList.map (aeval s) ++ g.2)) s H1
      | _ => False) (ainit args) H) : Does P f args H res H' := by
  intro φ N w vals hR hA
  refine .inl ⟨enter_run hf hn (by rw [hb]; rfl) vals w, calls_of_wp_defers hf hb ?_⟩
  have hI : Inv H φ N w fn.ntmps [] (ainit args) H φ N { tmps := vals ++ Array.replicate (fn.ntmps - vals.size) undef, defers := [] } w :=
    ⟨hR, hA.init _, Since.refl, by simp; have := hA.1; omega, rfl⟩
  refine wp_seq (wp_mono (awp_ok hR pre _ hI h) ?_)
  rintro e a1 w1 ⟨ax, s1, H1, φ1, N1, rfl, hq, hI1⟩
  cases ax with
  | normal =>
    cases hfv : asF (aeval s1 f0) with
    | none => simp only [hfv] at hq; exact hq.elim
    | some gc =>
    obtain ⟨g, caps⟩ := gc
    simp only [hfv, ob_some] at hq
    have hf0 : aeval s1 f0 = .fn g caps := by
      revert hfv
      cases aeval s1 f0 <;> intro h <;> cases h
      rfl
    have hfv' := aeval_ok hI1.tmps f0
    rw [hf0] at hfv'
    generalize hfe : a1.eval f0 = fv at hfv'
    cases hfv' with
    | fn _ _ vs hl hh =>
    have hargs : RAs H1 φ1 N1 w1 (c.args.toList.map (aeval s1) ++ caps) (c.args.map a1.eval ++ vs) := by
      refine ⟨by simp [hl], fun i h1 h2 => ?_⟩
      by_cases hi : i < c.args.size
      · rw [List.getElem_append_left (by simpa using hi), Array.getElem_append_left (by simpa using hi)]
        simp only [List.getElem_map, Array.getElem_map, Array.getElem_toList]
        exact aeval_ok hI1.tmps _
      · rw [List.getElem_append_right (by simpa using hi), Array.getElem_append_right (by simpa using hi)]
        simp only [List.length_map, Array.length_toList, Array.size_map]
        exact hh _ (by simp at h1; omega) (by simp at h2; omega)
    let d : Deferred := { target := .fn (.func g) vs, args := c.args.map a1.eval }
    have hrun : (execOp a1.eval o).run P w1 = .ok (.defer d) w1 := by
      simp [execOp, ho, resolve, hc, hfe, Deferred.ofValue, d]
    have hI1' : Inv H1 φ1 N1 w1 fn.ntmps [d] s1 H1 φ1 N1 { a1 with defers := [d] } w1 := ⟨hI1.rel, hI1.tmps, Since.refl, hI1.size, rfl⟩
    refine wp_seq (wp_region ?_)
    have hwpR := awp_ok hI1.rel rest _ hI1' hq
    have hw : Region.wanted o (yielded #[o] a1.tmps) = true := by simp [Region.wanted, hg]
    show wpOps P #[o] _ [0] a1 w1
    simp only [wpOps, List.getElem?_toArray, List.getElem?_cons_zero, hw, if_true]
    refine .inl ?_
    unfold Oper.wp
    rw [hrun, Oper.upon_defer, hd, hI1.defers]
    show (Code.wp P rest _ { a1 with defers := [d] } w1)
    refine wp_mono hwpR ?_
    rintro e a2 w2 ⟨ax, s2, H2, φ2, N2, rfl, hq2, hI2⟩
    have hargs2 := hargs.since hI1.rel hI2.since
    have run : ∀ u u' H3, u ≠ .run → settle u' = .returning → DoesD P g (c.args.toList.map (aeval s1) ++ caps) H2 u H3 u' → AEndC P rs H res H' .ret s2 H3 →
        Leaves P fn a2.tmps (fun e w' => ∃ φ' N', Rel H' φ' N' w' ∧ Since H φ N w H' φ' N' w' ∧ REnd H' φ' N' w' res e) a2.defers u w2 := by
      intro u u' H3 hu hs hD hE
      obtain ⟨hcall, hC⟩ := hD φ2 N2 w2 _ hI2.rel hargs2
      rw [hI2.defers]
      refine leaves_cons hu (by simpa [invoke] using hcall) (CallsD.mono hC ?_)
      rintro e u1 w3 ⟨⟨v, rfl⟩, rfl, φ3, N3, hR3, hS3⟩
      simp only [hs]
      exact finC hr hR (ds := [d]) (a' := a2) (n := fn.ntmps) ⟨hR3, fun t => (hI2.tmps t).since hI2.rel hS3, hI1.since.trans (hI2.since.trans hS3), hI2.size, hI2.defers⟩ hE
    cases ax with
    | normal =>
      obtain ⟨H3, hD, hE⟩ := hq2
      exact run .returning .returning H3 (by simp) rfl hD hE
    | ret =>
      obtain ⟨H3, hD, hE⟩ := hq2
      exact run .returning .returning H3 (by simp) rfl hD hE
    | exit i => exact hq2.elim
    | panic v =>
      obtain ⟨H3, hD, hE⟩ := hq2
      exact run (mPan v) (mRec v) H3 (by simp [mPan]) rfl hD hE
  | exit i => exact hq.elim
  | ret => exact hq.elim
  | panic v => exact hq.elim
end Go.Proofs.YtcdnbefcccdaeaaAw

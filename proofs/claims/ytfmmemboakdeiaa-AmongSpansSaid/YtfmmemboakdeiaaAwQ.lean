/- Functions of which a result lies in memory. -/
import Derived.Test.YtfmmemboakdeiaaAwE
namespace Go.Proofs.YtfmmemboakdeiaaAw
open Go.RowKit
set_option linter.unusedVariables false
set_option linter.unusedSimpArgs false
def resAV (P : Program) (H : AHeap) (s : Nat → AV) : ResultVar → Option AV
  | .tmp t => some (s t)
  | .cell a t => (agB P t).bind fun b => if b = true then (TI P t).bind fun z => (aread H z.2.1 (s a)).map .agg else as1 (aread H 1 (s a))
def resAll (P : Program) (H : AHeap) (s : Nat → AV) : List ResultVar → Option (List AV)
  | [] => some []
  | r :: rs => (resAV P H s r).bind fun x => (resAll P H s rs).map (x :: ·)
def AEndC (P : Program) (rs : List ResultVar) (H0 : AHeap) (res : ARes) (H' : AHeap) : Post := fun e s H =>
  match e with
  | .normal | .ret => ∃ avs s', resAll P H s rs = some avs ∧ Weak H0 (fun t => avs.getD t .top) H s' H' ∧ res = .ok (ares (List.range avs.length) s')
  | .panic v => ∃ s', Weak H0 s H s' H' ∧ res = .panic v
  | _ => False
section
variable {P : Program} {H : AHeap} {φ : Phi} {N : Addr → Prop} {w : World} {s : Nat → AV} {a : Act}
theorem loadVar_agg (hR : Rel H φ N w) {x : AV} {v : Value} (hx : RA H φ N w x v) {t : TypeId} (hg : agB P t = some true) {z : Value} {k b : Nat} (hi : TI P t = some (z, k, b)) {cs : List AV} (h : aread H k x = some cs) :
    ∃ ad u, v = .pointer (some ad) ∧ (loadVar t ad).run P w = .ok u w ∧ RA H φ N w (.agg cs) u := by
  obtain ⟨hl, ad, hv, hh⟩ := aread_ok hR hx h
  let f : Nat → Value := fun t => if ht : t < cs.length then (hh t ht).choose else undef
  have hf : ∀ t (ht : t < cs.length), w.cell? (ad.add t) = some (f t) ∧ RA H φ N w (cs[t]) (f t) := fun t ht => by
    simp only [f, ht, dif_pos]; exact (hh t ht).choose_spec
  have hrun := run_loadCells (P := P) w ad k f fun j hj => (hf j (by omega)).1
  refine ⟨ad, .agg ((List.range k).map f).toArray, hv, ?_, .agg _ _ (by simp [hl]) fun i h1 h2 => ?_⟩
  · simp only [loadVar, Sem.run_bind, agB.run hg, Result.andThen_ok, if_true, TI.sizeOf hi, hrun, Sem.run_pure]
  · simp only [List.getElem_toArray, List.getElem_map, List.getElem_range]
    exact (hf i h1).2
theorem loadVar_one (hR : Rel H φ N w) {x : AV} {v : Value} (hx : RA H φ N w x v) {t : TypeId} (hg : agB P t = some false) {c : AV} (h : aread H 1 x = some [c]) :
    ∃ ad u, v = .pointer (some ad) ∧ (loadVar t ad).run P w = .ok u w ∧ RA H φ N w c u := by
  obtain ⟨hl, ad, hv, hh⟩ := aread_ok hR hx h
  obtain ⟨u, hu, hr⟩ := hh 0 (by simp)
  have hu' : w.cell? ad = some u := by simpa [Addr.add] using hu
  exact ⟨ad, u, hv, by simp only [loadVar, Sem.run_bind, agB.run hg, Result.andThen_ok, Bool.false_eq_true, if_false, run_load, hu'], hr⟩
theorem resAV_ok (hR : Rel H φ N w) (hT : TRel H φ N w s a) {r : ResultVar} {x : AV} (h : resAV P H s r = some x) :
    ∃ u, (match r with | .tmp t => pure (a.tmps.getD t undef) | .cell b t => do loadVar t (← asAddr (a.tmps.getD b undef)) : Sem Value).run P w = .ok u w ∧ RA H φ N w x u := by
  cases r with
  | tmp t => cases h; exact ⟨_, rfl, hT t⟩
  | cell b t =>
    simp only [resAV] at h
    obtain ⟨g, hg, h⟩ := Option.bind_eq_some_iff.1 h
    cases g with
    | true =>
      rw [if_pos rfl] at h
      obtain ⟨⟨z, k, bb⟩, hz, h⟩ := Option.bind_eq_some_iff.1 h
      obtain ⟨cs, hc, rfl⟩ := Option.map_eq_some_iff.1 h
      obtain ⟨ad, u, hv, hrun, hu⟩ := loadVar_agg hR (hT b) hg hz hc
      exact ⟨u, by simp only [hv, Sem.run_bind, asAddr, Sem.run_pure, Result.andThen_ok, hrun], hu⟩
    | false =>
      rw [if_neg (by simp)] at h
      have hc : aread H 1 (s b) = some [x] := by
        revert h
        cases aread H 1 (s b) with
        | none => intro h; cases h
        | some l => rcases l with _ | ⟨c, _ | ⟨d, l⟩⟩ <;> intro h <;> cases h; rfl
      obtain ⟨ad, u, hv, hrun, hu⟩ := loadVar_one hR (hT b) hg hc
      exact ⟨u, by simp only [hv, Sem.run_bind, asAddr, Sem.run_pure, Result.andThen_ok, hrun], hu⟩
theorem resAll_ok (hR : Rel H φ N w) (hT : TRel H φ N w s a) : ∀ {rs : List ResultVar} {xs : List AV}, resAll P H s rs = some xs →
    ∃ us : List Value, (rs.mapM fun r => (match r with | .tmp t => pure (a.tmps.getD t undef) | .cell b t => do loadVar t (← asAddr (a.tmps.getD b undef)) : Sem Value)).run P w = .ok us w ∧ xs.length = us.length ∧ ∀ i (h1 : i < xs.length) (h2 : i < us.length), RA H φ N w (xs[i]) (us[i])
  | [], xs, h => by cases h; exact ⟨[], rfl, rfl, fun i h1 => by simp at h1⟩
  | r :: rs, xs, h => by
    simp only [resAll] at h
    obtain ⟨x, hx, h⟩ := Option.bind_eq_some_iff.1 h
    obtain ⟨ys, hy, rfl⟩ := Option.map_eq_some_iff.1 h
    obtain ⟨u, hu, ru⟩ := resAV_ok hR hT hx
    obtain ⟨us, hus, hl, rus⟩ := resAll_ok hR hT hy
    refine ⟨u :: us, ?_, by simp [hl], fun i h1 h2 => ?_⟩
    · rw [List.mapM_cons, Sem.run_bind, hu]
      simp only [Result.andThen_ok, Sem.run_bind, hus, Sem.run_pure]
    · cases i with
      | zero => exact ru
      | succ i => simpa using rus i (by simpa using h1) (by simpa using h2)
theorem results_run {fn : Func} {us : List Value} {tmps : Array Value} (h : (fn.results.toList.mapM fun r => (match r with | .tmp t => pure (tmps.getD t undef) | .cell b t => do loadVar t (← asAddr (tmps.getD b undef)) : Sem Value)).run P w = .ok us w) :
    (results fn tmps).run P w = .ok (match us with | [u] => u | l => .tuple l.toArray) w := by
  unfold results
  rw [Sem.run_bind, Array.mapM_eq_mapM_toList, Sem.run_map]
  refine (congrArg (fun r => (Result.andThen r fun a w' => Result.ok (List.toArray a) w').andThen fun vs w' => Sem.run P (pure (if h : vs.size = 1 then vs[0] else .tuple vs)) w') (Eq.trans ?_ h)).trans ?_
  · congr 1
  · simp only [Result.andThen_ok, Sem.run_pure]
    match us with
    | [] => rfl
    | [u] => rfl
    | u :: v :: l => simp
theorem ares_many (l : List Tmp) (h : l.length ≠ 1) (s : Nat → AV) : ares l s = .tup (l.map s) := by
  rcases l with _ | ⟨a, _ | ⟨b, l⟩⟩
  · rfl
  · exact absurd rfl h
  · rfl
/-- The contract of a function out of its body, where results may lie in memory. -/
theorem Does.of_awpC {hint : Nat → Bool} {f : FuncId} {fn : Func} {body : Code} (hf : P.funcs[f]? = some fn) (hn : (fn.name == "runtime.NumGoroutine") = false) (hb : fn.body = some body) (rs : List ResultVar) (hr : fn.results.toList = rs)
    {args : List AV} {H : AHeap} {res : ARes} {H' : AHeap} (ha : args.length ≤ fn.ntmps) (h : awp P hint fn.ntmps H body (AEndC P rs H res H') (ainit args) H) : Does P f args H res H' := by
  intro φ N w vals hR hA
  refine .inl ⟨enter_run hf hn (by rw [hb]; rfl) vals w, calls_of_wp hf hb ?_⟩
  have hI : Inv H φ N w fn.ntmps [] (ainit args) H φ N { tmps := vals ++ Array.replicate (fn.ntmps - vals.size) undef, defers := [] } w := by
    refine ⟨hR, fun t => ?_, Since.refl, by simp; have := hA.1; omega, rfl⟩
    simp only [ainit]
    by_cases ht : t < args.length
    · have ht' : t < vals.size := by rw [← hA.1]; exact ht
      have := hA.2 t ht ht'
      have e1 : args.getD t .top = args[t] := by simp [List.getD, ht]
      have e2 : (vals ++ Array.replicate (fn.ntmps - vals.size) undef).getD t undef = vals[t] := by
        rw [Array.getD_eq_getD_getElem?, Array.getElem?_append_left ht']; simp [ht']
      rw [e1, e2]
      exact this
    · have e1 : args.getD t .top = .top := by simp [List.getD, List.getElem?_eq_none (Nat.le_of_not_lt ht)]
      rw [e1]
      exact .top _
  refine wp_mono (awp_ok hR body _ hI h) ?_
  rintro e a' w' ⟨ax, s', H1, φ1, N1, rfl, hq, hI1⟩
  have fin : (∃ avs s'', resAll P H1 s' rs = some avs ∧ Weak H (fun t => avs.getD t .top) H1 s'' H' ∧ res = .ok (ares (List.range avs.length) s'')) → a'.defers = [] ∧ ∃ v, (results fn a'.tmps).run P w' = .ok v w' ∧ ∃ φ' N', Rel H' φ' N' w' ∧ Since H φ N w H' φ' N' w' ∧ REnd H' φ' N' w' res (.returned v) := by
    rintro ⟨avs, s'', hav, hW, rfl⟩
    obtain ⟨us, hus, hl, hru⟩ := resAll_ok hI1.rel hI1.tmps hav
    have hI2 : Inv H φ N w us.length [] (fun t => avs.getD t .top) H1 φ1 N1 { tmps := us.toArray, defers := [] } w' := by
      refine ⟨hI1.rel, fun t => ?_, hI1.since, by simp, rfl⟩
      by_cases ht : t < avs.length
      · have e1 : avs.getD t .top = avs[t] := by simp [List.getD, ht]
        have e2 : (us.toArray : Array Value).getD t undef = us[t]'(by omega) := by
          rw [Array.getD_eq_getD_getElem?]; simp [show t < us.length by omega]
        simp only [e1, e2]
        exact hru t ht (by omega)
      · have e1 : avs.getD t .top = .top := by simp [List.getD, List.getElem?_eq_none (Nat.le_of_not_lt ht)]
        simp only [e1]
        exact .top _
    obtain ⟨φ2, N2, hI3⟩ := hW.ok hR hI2
    refine ⟨hI1.defers, _, results_run (by rw [hr]; exact hus), φ2, N2, hI3.rel, hI3.since, ?_⟩
    have at_ : ∀ t, RA H' φ2 N2 w' (s'' t) ((us.toArray : Array Value).getD t undef) := hI3.tmps
    show RA H' φ2 N2 w' (ares (List.range avs.length) s'') _
    match us, hl with
    | [], hl =>
      have : avs = [] := List.eq_nil_of_length_eq_zero hl
      subst this
      exact .tup _ _ rfl fun i h1 => by simp at h1
    | [u], hl =>
      have : avs.length = 1 := hl
      rw [this]
      exact at_ 0
    | u :: v :: l, hl =>
      have e : ares (List.range avs.length) s'' = .tup ((List.range avs.length).map s'') := by
        exact ares_many _ (by simp [hl]) s''
      rw [e]
      refine .tup _ _ (by simp [hl]) fun i h1 h2 => ?_
      have := at_ i
      rw [Array.getD_eq_getD_getElem?] at this
      simp only [List.size_toArray] at h2
      rw [List.getElem?_toArray, List.getElem?_eq_getElem h2] at this
      simpa using this
  cases ax with
  | normal => exact fin hq
  | ret => exact fin hq
  | exit i => exact hq.elim
  | panic v =>
    obtain ⟨s'', hW, rfl⟩ := hq
    obtain ⟨φ2, N2, hI2⟩ := hW.ok hR hI1
    exact ⟨hI2.defers, φ2, N2, hI2.rel, hI2.since, rfl⟩
theorem AEndC.ret {rs : List ResultVar} {H T : AHeap} {s : Nat → AV} {r : AV} (h : ob (resAll P (H ++ T) s rs) fun avs => r = ares (List.range avs.length) fun t => frz (H ++ T) H.length (avs.getD t .top)) : AEndC P rs H (.ok r) H .ret s (H ++ T) := by
  cases e : resAll P (H ++ T) s rs with
  | none => rw [e] at h; exact h.elim
  | some avs =>
    rw [e] at h
    exact ⟨avs, _, e, Weak.drop H T _, by rw [show r = _ from h]⟩
end
end Go.Proofs.YtfmmemboakdeiaaAw

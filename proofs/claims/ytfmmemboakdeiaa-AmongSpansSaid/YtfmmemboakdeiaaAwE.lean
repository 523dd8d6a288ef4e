/- Structs held against structs. -/
import Derived.Test.YtfmmemboakdeiaaAwD
import Derived.Laws.StructEq
namespace Go.Proofs.YtfmmemboakdeiaaAw
def fproj (f : Field) : Bool × TypeId × Nat := (f.name != "_", f.type, f.offset)
def eqP (d : Nat) (xs ys : Array Value) : List (Bool × TypeId × Nat) → Sem Bool
  | [] => pure true
  | (true, t, off) :: fs => do
      let a ← part t xs off
      let b ← part t ys off
      let r ← Op.equalIn d t a b
      if (!r) = true then pure false else eqP d xs ys fs
  | (false, _, _) :: fs => eqP d xs ys fs
theorem eqP_eq (d : Nat) (xs ys : Array Value) : ∀ fs : List Field, Op.eqFields d xs ys fs = eqP d xs ys (fs.map fproj)
  | [] => rfl
  | f :: fs => by
    simp only [Op.eqFields, List.map_cons, fproj]
    rw [eqP_eq d xs ys fs]
    by_cases h : f.name = "_"
    · simp [h, eqP]
    · have hb : (f.name != "_") = true := by simp [h]
      rw [hb, if_pos h]; rfl
theorem PureBin.eqS {P : Program} {t : TypeId} {xs ys : Array Value} {fs : List (Bool × TypeId × Nat)} {r : Bool} (h1 : P.eqGuardType P.depth t = false) (h2 : P.underlying t = some (.struct (P.fieldsOf t))) (h3 : P.stoodInHeld t = false)
    (h4 : (P.fieldsOf t).toList.map fproj = fs) (h5 : ∀ w, (eqP 9999 xs ys fs).run P w = .ok r w) : PureBin P .eql t (.agg xs) (.agg ys) (.bool r) ∧ PureBin P .neq t (.agg xs) (.agg ys) (.bool !r) := by
  refine ⟨fun x y w => ?_, fun x y w => ?_⟩
  · rw [Sem.run_bind, run_eqGuard_agg _ _ _ _ _ _ _ h1]
    simp only [Result.andThen_ok, run_eql_struct]
    rw [run_equalIn_struct w 9999 t _ _ h2 h3, eqP_eq, h4, h5]
    rfl
  · rw [Sem.run_bind, run_eqGuard_agg _ _ _ _ _ _ _ h1]
    simp only [Result.andThen_ok, run_neq_struct]
    rw [run_equalIn_struct w 9999 t _ _ h2 h3, eqP_eq, h4, h5]
    rfl
theorem PureBin.inj {P : Program} {op : BinOp} {t : TypeId} {u v r r' : Value} (h : PureBin P op t u v r) (h' : PureBin P op t u v r') : r = r' := by
  have h1 := h (.const .nilIface) (.const .nilIface) default
  rw [h' (.const .nilIface) (.const .nilIface) default] at h1
  cases h1; rfl
theorem binK_agg {P : Program} {op : BinOp} {t : TypeId} {xs ys : Array Value} {r : Value} (h : PureBin P op t (.agg xs) (.agg ys) r) (K : Value → Prop) : binK P op t (.agg xs) (.agg ys) K = K r := by
  have : binK P op t (.agg xs) (.agg ys) K = ∃ r, PureBin P op t (.agg xs) (.agg ys) r ∧ K r := by unfold binK; rfl
  rw [this]
  exact propext ⟨fun ⟨r', h', k⟩ => by rw [h.inj h']; exact k, fun k => ⟨r, h, k⟩⟩
section
variable {P : Program} {w : World} {d : Nat} {t : TypeId} {off : Nat} {xs ys : Array Value} {fs : List (Bool × TypeId × Nat)} {r : Bool}
theorem part_one (hg : agB P t = some false) {v : Value} (h : xs[off]? = some v) : (part t xs off).run P w = .ok v w := by
  unfold part
  rw [Sem.run_bind, agB.run hg]
  simp [h]
theorem part_agg (hg : agB P t = some true) {z : Value} {k b : Nat} (hz : TI P t = some (z, k, b)) : (part t xs off).run P w = .ok (.agg (xs.extract off (off + k))) w := by
  unfold part
  rw [Sem.run_bind, agB.run hg]
  simp [TI.sizeOf hz]
theorem eqP_step {a b : Value} {q : Bool} (ha : (part t xs off).run P w = .ok a w) (hb : (part t ys off).run P w = .ok b w) (he : (Op.equalIn d t a b).run P w = .ok q w) (hr : (eqP d xs ys fs).run P w = .ok r w) : (eqP d xs ys ((true, t, off) :: fs)).run P w = .ok (q && r) w := by
  simp only [eqP, Sem.run_bind, ha, hb, he, Result.andThen_ok]
  cases q
  · simp
  · simpa using hr
theorem eqP_nil : (eqP d xs ys []).run P w = .ok true w := rfl
theorem eqP_int {k : IntKind} {a b : Int} (hu : UK P t = some k) (hg : agB P t = some false) (ha : xs[off]? = some (.int k a)) (hb : ys[off]? = some (.int k b)) (hr : (eqP (d + 1) xs ys fs).run P w = .ok r w) : (eqP (d + 1) xs ys ((true, t, off) :: fs)).run P w = .ok ((a == b) && r) w :=
  eqP_step (part_one hg ha) (part_one hg hb) (run_equalIn_int w d t k k a b (UK.get hu)) hr
theorem eqP_str {a b : ByteArray} (hu : P.underlying t = some .string) (hg : agB P t = some false) (ha : xs[off]? = some (.string a)) (hb : ys[off]? = some (.string b)) (hr : (eqP (d + 1) xs ys fs).run P w = .ok r w) : (eqP (d + 1) xs ys ((true, t, off) :: fs)).run P w = .ok ((a.toList == b.toList) && r) w :=
  eqP_step (part_one hg ha) (part_one hg hb) (run_equalIn_string w d t a b hu) hr
theorem eqP_bool {a b : Bool} (hu : P.underlying t = some .bool) (hg : agB P t = some false) (ha : xs[off]? = some (.bool a)) (hb : ys[off]? = some (.bool b)) (hr : (eqP (d + 1) xs ys fs).run P w = .ok r w) : (eqP (d + 1) xs ys ((true, t, off) :: fs)).run P w = .ok ((a == b) && r) w :=
  eqP_step (part_one hg ha) (part_one hg hb) (run_equalIn_bool' w d t a b hu) hr
theorem eqP_struct {z : Value} {k b : Nat} {gs : List (Bool × TypeId × Nat)} {q : Bool} (hg : agB P t = some true) (hz : TI P t = some (z, k, b)) (h2 : P.underlying t = some (.struct (P.fieldsOf t))) (h3 : P.stoodInHeld t = false) (h4 : (P.fieldsOf t).toList.map fproj = gs)
    (hq : (eqP d (xs.extract off (off + k)) (ys.extract off (off + k)) gs).run P w = .ok q w) (hr : (eqP (d + 1) xs ys fs).run P w = .ok r w) : (eqP (d + 1) xs ys ((true, t, off) :: fs)).run P w = .ok (q && r) w := by
  refine eqP_step (part_agg hg hz) (part_agg hg hz) ?_ hr
  rw [run_equalIn_struct w d t _ _ h2 h3, eqP_eq, h4]
  exact hq
end
end Go.Proofs.YtfmmemboakdeiaaAw

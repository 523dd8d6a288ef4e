/- Loops and regions, as they most often stand. -/
import Derived.Test.YtfmmemboakdeiaaAwS
namespace Go.Proofs.YtfmmemboakdeiaaAw
open Go.RowKit
set_option linter.unusedVariables false
section
variable {P : Program} {hint : Nat → Bool} {s : Nat → AV} {H : AHeap}
theorem and7 {A B C D E F G G' : Prop} (g : G → G') : (A ∧ B ∧ C ∧ D ∧ E ∧ F ∧ G) → (A ∧ B ∧ C ∧ D ∧ E ∧ F ∧ G') := fun ⟨a, b, c, d, e, f, h⟩ => ⟨a, b, c, d, e, f, g h⟩
theorem and6 {A B C D E G G' : Prop} (g : G → G') : (A ∧ B ∧ C ∧ D ∧ E ∧ G) → (A ∧ B ∧ C ∧ D ∧ E ∧ G') := fun ⟨a, b, c, d, e, h⟩ => ⟨a, b, c, d, e, g h⟩
theorem binK_mono {op : BinOp} {t : TypeId} {u v : Value} {K K' : Value → Prop} (hk : ∀ r, K r → K' r) (h : binK P op t u v K) : binK P op t u v K' := by
  unfold binK at h ⊢
  repeat' (split at h)
  all_goals first | exact h.elim | exact hk _ h | exact ⟨h.1, hk _ h.2⟩ | exact ⟨h.1, h.2.1, hk _ h.2.2⟩ | (obtain ⟨r, h1, h2⟩ := h; first | exact ⟨r, h1, hk _ h2⟩ | (simp_all; done))
  all_goals exact ⟨_, h.choose_spec.1, hk _ h.choose_spec.2⟩
theorem unK_mono {op : UnOp} {u : Value} {K K' : Value → Prop} (hk : ∀ r, K r → K' r) (h : unK op u K) : unK op u K' := by
  cases op <;> cases u <;> first | exact h.elim | exact hk _ h | exact ⟨h.1, hk _ h.2⟩
theorem abuiltin_mono {b : Builtin} {args : List Operand} {tys : List TypeId} {K K' : AV → AHeap → Prop} (hk : ∀ r H, K r H → K' r H) (h : abuiltin P s H b args tys K) : abuiltin P s H b args tys K' := by
  unfold abuiltin at h ⊢
  repeat' (split at h)
  all_goals first | exact h.elim | exact hk _ _ h | exact ⟨h.1, hk _ _ h.2⟩ | exact ⟨h.1, h.2.1, hk _ _ h.2.2⟩ | exact ⟨h.1, h.2.1, h.2.2.1, hk _ _ h.2.2.2⟩ | exact and6 (hk _ _) h | exact and7 (hk _ _) h | (simp_all; done)
theorem aslice_mono {k : Nat} {lo : Option Int} {hi : Nat → Option Int} {x : AV} {K K' : AV → AHeap → Prop} (hk : ∀ r H, K r H → K' r H) (h : aslice H k lo hi K x) : aslice H k lo hi K' x := by
  cases x with
  | d u =>
    cases u with
    | v _ => exact h.elim
    | list nn es =>
      simp only [aslice] at h ⊢
      refine ⟨h.1, ?_⟩
      replace h := h.2
      cases lo with
      | none => exact h
      | some l =>
        cases hq : hi es.length with
        | none => rw [hq] at h; exact h
        | some m => rw [hq] at h; exact ⟨h.1, h.2.1, h.2.2.1, hk _ _ h.2.2.2⟩
  | sl id ver off len =>
    simp only [aslice] at h ⊢
    cases ho : H[id]? with
    | none => rw [ho] at h; exact h.elim
    | some o =>
      rw [ho] at h
      cases lo with
      | none => exact h.elim
      | some l =>
        cases hq : hi len with
        | none => rw [hq] at h; exact h.elim
        | some m => rw [hq] at h; exact ⟨h.1, h.2.1, h.2.2.1, h.2.2.2.1, h.2.2.2.2.1, hk _ _ h.2.2.2.2.2⟩
  | _ => exact h.elim
theorem aslice3_mono {k : Nat} {lo hi mx : Option Int} {x : AV} {K K' : AV → AHeap → Prop} (hk : ∀ r H, K r H → K' r H) (h : aslice3 H k lo hi mx K x) : aslice3 H k lo hi mx K' x := by
  cases x with
  | d u =>
    cases u with
    | v _ => exact h.elim
    | list nn es => cases lo <;> cases hi <;> cases mx <;> first | exact h.2.elim | exact ⟨h.1, h.2.1, h.2.2.1, h.2.2.2.1, h.2.2.2.2.1, hk _ _ h.2.2.2.2.2⟩
  | _ => exact h.elim
theorem aassert_mono {t : TypeId} {ok : Bool} {v : Option Value} {K K' : AV → AHeap → Prop} (hk : ∀ r H, K r H → K' r H) (h : aassert P t ok H K v) : aassert P t ok H K' v := by
  unfold aassert at h ⊢
  cases e : assertR P t ok v with
  | none => rw [e] at h; exact h.2.elim
  | some r => rw [e] at h; exact ⟨h.1, hk _ _ h.2⟩
theorem aop_mono {hi : Bool} {op : Op} {K K' : AV → AHeap → Prop} (hk : ∀ r H, K r H → K' r H) (h : aop P s H hi op K) : aop P s H hi op K' := by
  unfold aop at h ⊢
  repeat' (split at h)
  all_goals first | exact h.elim | exact hk _ _ h | exact ⟨h.1, hk _ _ h.2⟩ | exact ⟨h.1, h.2.1, hk _ _ h.2.2⟩ | exact ⟨h.1, h.2.1, h.2.2.1, hk _ _ h.2.2.2⟩ | exact and7 (hk _ _) h | exact binK_mono (fun r => hk _ _) h | exact unK_mono (fun r => hk _ _) h | exact abuiltin_mono hk h | exact aslice_mono hk h | exact aslice3_mono hk h | exact aassert_mono hk h | skip
  all_goals first | (rw [if_neg (by assumption)]; exact ⟨h.1, by first | (rw [if_pos (by assumption)]; exact hk _ _ h.2) | (rw [if_neg (by assumption)]; exact hk _ _ h.2)⟩) | (simp_all; done)
theorem astep_mono {o : Oper} {K K' : AV → AHeap → Prop} {KP KP' : Value → AHeap → Prop} (hk : ∀ r H, K r H → K' r H) (hp : ∀ r H, KP r H → KP' r H) (h : astep P hint s H o K KP) : astep P hint s H o K' KP' := by
  unfold astep at h ⊢
  split at h
  · split at h
    · exact hp _ _ h
    · exact h.elim
  · split at h
    · split at h
      · obtain ⟨res, H', hd, h⟩ := h
        refine ⟨res, H', hd, ?_⟩
        cases res with
        | ok r => exact hk _ _ h
        | panic v => exact hp _ _ h
      · exact h.elim
    · exact abuiltin_mono hk h
    · exact h.elim
  · exact aop_mono hk h
theorem awpOp_mono {n : Nat} {ops : Array Oper} {Q Q' : Post} {o : Oper} {K K' : (Nat → AV) → AHeap → Prop} (hq : ∀ v s H, Q (.panic v) s H → Q' (.panic v) s H) (hk : ∀ s H, K s H → K' s H) (h : awpOp P hint n ops Q o K s H) : awpOp P hint n ops Q' o K' s H := by
  unfold awpOp at h ⊢
  split at h
  · exact astep_mono (fun r H => hk _ _) (fun v H => hq _ _ _) h
  · split at h
    · split at h
      · rw [if_pos (by assumption)]
        exact astep_mono (fun r H => hk _ _) (fun v H => hq _ _ _) h
      · rw [if_neg (by assumption)]
        exact hk _ _ h
    · exact h.elim
theorem awpList_mono {n : Nat} {ops : Array Oper} {Q Q' : Post} (hq : ∀ e s H, Q e s H → Q' e s H) : ∀ (l : List Oper) (s : Nat → AV) (H : AHeap), awpList P hint n ops Q l s H → awpList P hint n ops Q' l s H
  | [], s, H, h => hq _ _ _ h
  | o :: rest, s, H, h => awpOp_mono (fun v => hq _) (fun s H => awpList_mono hq rest s H) h
theorem awpAny_mono {n : Nat} {ops : Array Oper} {Q Q' : Post} (hq : ∀ e s H, Q e s H → Q' e s H) : ∀ (fuel : Nat) (l : Array Bool) (s : Nat → AV) (H : AHeap), awpAny P hint n ops Q fuel l s H → awpAny P hint n ops Q' fuel l s H
  | 0, l, s, H, h => ⟨h.1, hq _ _ _ h.2⟩
  | fuel + 1, l, s, H, h => by
    refine ⟨fun hr => hq _ _ _ (h.1 hr), fun i hi => ?_⟩
    have := h.2 i hi
    split at this
    · exact awpAny_mono hq fuel _ _ _ this
    · exact awpOp_mono (fun v => hq _) (fun s H => awpAny_mono hq fuel _ s H) this
theorem awp_mono {n : Nat} {H0 : AHeap} : ∀ (c : Code) {Q Q' : Post} (hq : ∀ e s H, Q e s H → Q' e s H) (s : Nat → AV) (H : AHeap), awp P hint n H0 c Q s H → awp P hint n H0 c Q' s H := by
  intro c
  induction c with
  | skip => exact fun hq s H h => hq _ _ _ h
  | label l => exact fun hq s H h => hq _ _ _ h
  | scope x ih => exact fun hq s H h => ih hq s H h
  | region id ops draw =>
    intro Q Q' hq s H h
    cases draw with
    | false => exact awpList_mono hq _ _ _ h
    | true => exact ⟨h.1, awpAny_mono hq _ _ _ _ h.2⟩
  | seq x y ihx ihy =>
    intro Q Q' hq s H h
    refine ihx (fun e s H h => ?_) s H h
    cases e with
    | normal =>
      have h : if hintAt hint y = true then ∃ s'' H'', Weak H0 s H s'' H'' ∧ awp P hint n H0 y Q s'' H'' else awp P hint n H0 y Q s H := h
      show if hintAt hint y = true then ∃ s'' H'', Weak H0 s H s'' H'' ∧ awp P hint n H0 y Q' s'' H'' else awp P hint n H0 y Q' s H
      split at h
      · rw [if_pos (by assumption)]
        obtain ⟨s'', H'', hW, h⟩ := h
        exact ⟨s'', H'', hW, ihy hq s'' H'' h⟩
      · rw [if_neg (by assumption)]
        exact ihy hq s H h
    | _ => exact hq _ _ _ h
  | cond c x y ihx ihy =>
    intro Q Q' hq s H h
    unfold awp at h ⊢
    split at h
    · split at h
      · rw [if_pos (by assumption)]; exact ihx hq s H h
      · rw [if_neg (by assumption)]; exact ihy hq s H h
    · exact h.elim
  | block id x ih =>
    intro Q Q' hq s H h
    refine ih (fun e s H h => ?_) s H h
    cases e with
    | exit i =>
      show if i = id then Q' .normal s H else Q' (.exit i) s H
      have h : if i = id then Q .normal s H else Q (.exit i) s H := h
      split at h
      · rw [if_pos (by assumption)]; exact hq _ _ _ h
      · rw [if_neg (by assumption)]; exact hq _ _ _ h
    | _ => exact hq _ _ _ h
  | loop x ih =>
    intro Q Q' hq s H h
    obtain ⟨I, m, h1, h2⟩ := h
    refine ⟨I, m, h1, fun m s H hI => ih (fun e s H h => ?_) s H (h2 m s H hI)⟩
    cases e with
    | normal => exact h
    | _ => exact hq _ _ _ h
  | exit id => exact fun hq s H h => hq _ _ _ h
  | ret => exact fun hq s H h => hq _ _ _ h
  | _ => intros; rename_i h; exact h.elim
end
section
variable (P : Program) (hint : Nat → Bool) (n : Nat) (H0 : AHeap)
/-- Behind a loop's test. -/
def KTest (c : Operand) (b : Bool) (R : (Nat → AV) → AHeap → Prop) : Post := fun e s H => match e with | .normal => aeval s c = .d (.v (.bool b)) ∧ R s H | _ => False
theorem KTest_normal (c : Operand) (b : Bool) (R : (Nat → AV) → AHeap → Prop) (s : Nat → AV) (H : AHeap) : KTest c b R .normal s H = (aeval s c = .d (.v (.bool b)) ∧ R s H) := rfl
/-- Behind a loop's body: its end, or what leaves it. -/
def KBody (pR : Code) (b b' : Nat) (R : (Nat → AV) → AHeap → Prop) (Q : Post) : Post := fun e s H => match e with
  | .normal => KSeq P hint n H0 pR (KLoop R (KBlock b Q)) .normal s H
  | .exit i => if i = b' then KSeq P hint n H0 pR (KLoop R (KBlock b Q)) .normal s H else KBlock b Q (.exit i) s H
  | e => Q e s H
theorem KBody_normal (pR : Code) (b b' : Nat) (R : (Nat → AV) → AHeap → Prop) (Q : Post) (s : Nat → AV) (H : AHeap) : KBody P hint n H0 pR b b' R Q .normal s H = KSeq P hint n H0 pR (KLoop R (KBlock b Q)) .normal s H := rfl
theorem KBody_exit (pR : Code) (b b' : Nat) (R : (Nat → AV) → AHeap → Prop) (Q : Post) (i : Nat) (s : Nat → AV) (H : AHeap) : KBody P hint n H0 pR b b' R Q (.exit i) s H = if i = b' then KSeq P hint n H0 pR (KLoop R (KBlock b Q)) .normal s H else KBlock b Q (.exit i) s H := rfl
theorem KBody_ret (pR : Code) (b b' : Nat) (R : (Nat → AV) → AHeap → Prop) (Q : Post) (s : Nat → AV) (H : AHeap) : KBody P hint n H0 pR b b' R Q .ret s H = Q .ret s H := rfl
theorem KBody_panic (pR : Code) (b b' : Nat) (R : (Nat → AV) → AHeap → Prop) (Q : Post) (v : Value) (s : Nat → AV) (H : AHeap) : KBody P hint n H0 pR b b' R Q (.panic v) s H = Q (.panic v) s H := rfl
end
attribute [go_sem] KTest_normal KBody_normal KBody_exit KBody_ret KBody_panic
/-! ### A test -/
def acond (x : Option Bool) (A B : Prop) : Prop := match x with | some true => A | some false => B | none => False
theorem acond_true (A B : Prop) : acond (some true) A B = A := rfl
theorem acond_false (A B : Prop) : acond (some false) A B = B := rfl
theorem acond_congr {x y : Option Bool} {A B : Prop} (h : nf x = y) : acond x A B = acond y A B := by rw [← h]; rfl
theorem awp_test {P : Program} {hint : Nat → Bool} {n : Nat} {H0 : AHeap} (c : Operand) (x y : Code) (Q : Post) (s : Nat → AV) (H : AHeap) : awp P hint n H0 (.cond c x y) Q s H = acond (asB (aeval s c)) (awp P hint n H0 x Q s H) (awp P hint n H0 y Q s H) := by
  rw [awp_cond]
  generalize aeval s c = v
  cases v with
  | d u =>
    cases u with
    | v z => cases z <;> first | rfl | (rename_i b; cases b <;> rfl)
    | list _ _ => rfl
  | _ => rfl
theorem awp_T {x : Option Bool} {A B : Prop} (hc : x = some true) (h : A) : acond x A B := by rw [hc]; exact h
theorem awp_F {x : Option Bool} {A B : Prop} (hc : x = some false) (h : B) : acond x A B := by rw [hc]; exact h
/-- Both ways of a test that is not decided. -/
theorem acond_split {b : Bool} {A B : Prop} (h1 : b = true → A) (h2 : b = false → B) : acond (some b) A B := by cases b; exact h2 rfl; exact h1 rfl
attribute [go_sem] acond_true acond_false
def asArr : Option AObj → Option (TypeId × Nat × Nat × List (List D))
  | some (.arr e k ver es) => some (e, k, ver, es)
  | _ => none
theorem asArr_arr (e : TypeId) (k ver : Nat) (es : List (List D)) : asArr (some (.arr e k ver es)) = some (e, k, ver, es) := rfl
theorem appTo_any (H : AHeap) (e : TypeId) (k b : Nat) (news : List (List D)) (K : AV → AHeap → Prop) (id ver len : Nat) : appTo H e k b news K (.sl id ver 0 len) = ob (asArr H[id]?) fun a =>
    (a.1 = e ∧ a.2.1 = k ∧ a.2.2.1 = ver ∧ a.2.2.2.length = len) ∧ (a.2.2.2.length + news.length) * b ≤ 140737488355328 ∧ a.2.2.2.length + news.length ≤ 9223372036854775807 ∧
        K (.sl id (ver + 1) 0 (a.2.2.2.length + news.length)) (H.set id (.arr e k (ver + 1) (a.2.2.2 ++ news))) := by
  simp only [appTo]
  rcases H[id]? with _ | o
  · rfl
  · cases o <;> rfl
theorem all_arr' (l : List Value) (n : Nat) (h : l.length = n) : l.toArray.all Value.oneCell' 0 n = l.all Value.oneCell' := by subst h; simp
attribute [go_sem] all_arr' Int.cast_ofNat_Int
theorem bk_eql_bool {P : Program} {t : TypeId} (a b : Bool) (K : Value → Prop) (h : P.underlying t = some .bool) : binK P .eql t (.bool a) (.bool b) K = K (.bool (a == b)) := by
  have hp : PureBin P .eql t (.bool a) (.bool b) (.bool (a == b)) := fun x y w => by
    have he : (Op.equal t (.bool a) (.bool b)).run P w = .ok (a == b) w := run_equalIn_bool w 9999 t a b h
    simp only [binOp]
    simp [eqGuard, he]
  have : binK P .eql t (.bool a) (.bool b) K = ∃ r, PureBin P .eql t (.bool a) (.bool b) r ∧ K r := by unfold binK; rfl
  rw [this]
  refine propext ⟨fun ⟨r, hr, k⟩ => ?_, fun k => ⟨_, hp, k⟩⟩
  have h1 := hr (.const .nilIface) (.const .nilIface) default
  rw [hp (.const .nilIface) (.const .nilIface) default] at h1
  cases h1; exact k
theorem bk_neq_bool {P : Program} {t : TypeId} (a b : Bool) (K : Value → Prop) (h : P.underlying t = some .bool) : binK P .neq t (.bool a) (.bool b) K = K (.bool (a != b)) := by
  have hp : PureBin P .neq t (.bool a) (.bool b) (.bool (a != b)) := fun x y w => by
    have he : (Op.equal t (.bool a) (.bool b)).run P w = .ok (a == b) w := run_equalIn_bool w 9999 t a b h
    simp only [binOp]
    simp [eqGuard, he]
    cases a <;> cases b <;> rfl
  have : binK P .neq t (.bool a) (.bool b) K = ∃ r, PureBin P .neq t (.bool a) (.bool b) r ∧ K r := by unfold binK; rfl
  rw [this]
  refine propext ⟨fun ⟨r, hr, k⟩ => ?_, fun k => ⟨_, hp, k⟩⟩
  have h1 := hr (.const .nilIface) (.const .nilIface) default
  rw [hp (.const .nilIface) (.const .nilIface) default] at h1
  cases h1; exact k
theorem bk_neq_float {P : Program} {t : TypeId} (k : FloatKind) (a b : Nat) (K : Value → Prop) : binK P .neq t (.float k a) (.float k b) K = K (.bool (k.format.order a b != some .eq)) := by
  have hp : PureBin P .neq t (.float k a) (.float k b) (.bool (k.format.order a b != some .eq)) := fun x y w => by
    simp [eqGuard, binOp, Op.floatCmp]
  have : binK P .neq t (.float k a) (.float k b) K = ∃ r, PureBin P .neq t (.float k a) (.float k b) r ∧ K r := by unfold binK; rfl
  rw [this]
  refine propext ⟨fun ⟨r, hr, k⟩ => ?_, fun k => ⟨_, hp, k⟩⟩
  have h1 := hr (.const .nilIface) (.const .nilIface) default
  rw [hp (.const .nilIface) (.const .nilIface) default] at h1
  cases h1; exact k
theorem isAny.get {P : Program} {t : TypeId} (h : isAny P t = true) : ∃ ms, P.underlying t = some (.interface ms) ∧ ms.isEmpty = true := by
  unfold isAny at h
  split at h
  · rename_i ms hm; exact ⟨ms, hm, h⟩
  · cases h
theorem eqI_nil {P : Program} {t : TypeId} {ms : Array (String × TypeId)} (hu : P.underlying t = some (.interface ms)) (d : Nat) (w : World) : (Op.equalIn (d + 1) t .nilIface .nilIface).run P w = .ok true w := by simp [Op.equalIn, run_underlying hu]
theorem eqI_iface {P : Program} {t : TypeId} {ms : Array (String × TypeId)} (hu : P.underlying t = some (.interface ms)) (d : Nat) (w : World) (t' : TypeId) (u : Value) : (Op.equalIn (d + 1) t (.iface t' u) .nilIface).run P w = .ok false w := by simp [Op.equalIn, run_underlying hu]
theorem eqG_nil {P : Program} {t : TypeId} {ms : Array (String × TypeId)} (hu : P.underlying t = some (.interface ms)) (hm : ms.isEmpty = true) (d : Nat) (w : World) : (Op.eqGuardIn (d + 1) t .nilIface .nilIface).run P w = .ok false w := by simp [Op.eqGuardIn, run_underlying hu]; simpa using hm
theorem pb_neq_nil {P : Program} {t : TypeId} (h : isAny P t = true) : PureBin P .neq t .nilIface .nilIface (.bool false) := by
  obtain ⟨ms, hu, hm⟩ := isAny.get h
  intro x y w
  have he : (Op.equal t .nilIface .nilIface).run P w = .ok true w := eqI_nil hu 9999 w
  have hg : (Op.eqGuardIn Op.maxDepth t .nilIface .nilIface).run P w = .ok false w := eqG_nil hu hm 9999 w
  have hq : (eqGuard .neq t x y .nilIface .nilIface).run P w = .ok () w := by
    cases x <;> cases y <;> simp [eqGuard, hg]
  rw [Sem.run_bind, hq]
  simp only [Result.andThen_ok, binOp]
  simp [he]
theorem pb_neq_iface {P : Program} {t : TypeId} (h : isAny P t = true) (t' : TypeId) (u : Value) : PureBin P .neq t (.iface t' u) .nilIface (.bool true) := by
  obtain ⟨ms, hu, hm⟩ := isAny.get h
  intro x y w
  have he : (Op.equal t (.iface t' u) .nilIface).run P w = .ok false w := eqI_iface hu 9999 w t' u
  simp only [binOp]
  simp [eqGuard, he]
theorem pbK {P : Program} {op : BinOp} {t : TypeId} {u v r : Value} (h : PureBin P op t u v r) (hf : ∀ K, binK P op t u v K = ∃ r, PureBin P op t u v r ∧ K r) (K : Value → Prop) : binK P op t u v K = K r := by
  rw [hf]
  refine propext ⟨fun ⟨r', h', k⟩ => ?_, fun k => ⟨r, h, k⟩⟩
  have h1 := h' (.const .nilIface) (.const .nilIface) default
  rw [h (.const .nilIface) (.const .nilIface) default] at h1
  cases h1; exact k
theorem bk_neq_nil {P : Program} {t : TypeId} (K : Value → Prop) (h : isAny P t = true) : binK P .neq t .nilIface .nilIface K = K (.bool false) := pbK (pb_neq_nil h) (fun _ => rfl) K
theorem bk_neq_iface {P : Program} {t : TypeId} (t' : TypeId) (u : Value) (K : Value → Prop) (h : isAny P t = true) : binK P .neq t (.iface t' u) .nilIface K = K (.bool true) := pbK (pb_neq_iface h t' u) (fun _ => rfl) K
attribute [go_sem] bk_eql_bool bk_neq_bool bk_neq_float bk_neq_nil bk_neq_iface
theorem isNilV_nil (P : Program) (t : TypeId) : isNilV P t (.d (.v (.slice none 0 0))) = (SE P t).isSome := rfl
theorem isNilV_ptr (P : Program) (t : TypeId) : isNilV P t (.d (.v (.pointer none))) = isPtrT P t := rfl
theorem isNilV_list (P : Program) (t : TypeId) (nn : Bool) (es : List (List D)) : isNilV P t (.d (.list nn es)) = false := rfl
theorem isNilV_sl (P : Program) (t : TypeId) (a b c d : Nat) : isNilV P t (.sl a b c d) = false := rfl
theorem isNilV_p (P : Program) (t : TypeId) (a b c d : Nat) : isNilV P t (.ptr a b c d) = false := rfl
theorem isNilV_ip (P : Program) (t : TypeId) (cs : List D) : isNilV P t (.iptr cs) = false := rfl
theorem known_list (P : Program) (H : AHeap) (t : TypeId) (nn : Bool) (es : List (List D)) : known P H t (.d (.list nn es)) = ((SE P t).isSome && (nn || !es.isEmpty)) := rfl
theorem known_ptr (P : Program) (H : AHeap) (t : TypeId) (id ver i j : Nat) : known P H t (.ptr id ver i j) = (isPtrT P t && (match H[id]? with | some o => o.ver == ver | none => false)) := rfl
theorem known_iptr (P : Program) (H : AHeap) (t : TypeId) (cs : List D) : known P H t (.iptr cs) = isPtrT P t := rfl
theorem known_v (P : Program) (H : AHeap) (t : TypeId) (x : Value) : known P H t (.d (.v x)) = false := by cases x <;> rfl
theorem known_sl (P : Program) (H : AHeap) (t : TypeId) (id ver off len : Nat) : known P H t (.sl id ver off len) = ((SE P t).isSome && (0 < len && (match H[id]? with | some o => o.ver == ver | none => false))) := rfl
theorem nilCmp_eql (P : Program) (H : AHeap) (t : TypeId) (x y : AV) : nilCmp P H .eql t x y = ((isNilV P t y && known P H t x) || (isNilV P t x && known P H t y)) := by simp [nilCmp]
theorem nilCmp_neq (P : Program) (H : AHeap) (t : TypeId) (x y : AV) : nilCmp P H .neq t x y = ((isNilV P t y && known P H t x) || (isNilV P t x && known P H t y)) := by simp [nilCmp]
theorem isNeq_eql : isNeq .eql = false := rfl
theorem isNeq_neq : isNeq .neq = true := rfl
attribute [go_sem] isNilV_nil isNilV_ptr isNilV_list isNilV_sl isNilV_p isNilV_ip known_list known_ptr known_iptr known_v known_sl nilCmp_eql nilCmp_neq isNeq_eql isNeq_neq Option.isSome_some Option.isSome_none Bool.or_false Bool.false_or Bool.or_true Bool.true_or List.isEmpty_cons
theorem cast_one : ((1 : Nat) : Int) = 1 := rfl
theorem cast_zero : ((0 : Nat) : Int) = 0 := rfl
theorem beq_decide_int (a b : Int) : (a == b) = decide (a = b) := by by_cases h : a = b <;> simp [h]
theorem bne_decide_int (a b : Int) : (a != b) = !decide (a = b) := by by_cases h : a = b <;> simp [h]
attribute [go_sem] Int.natCast_add cast_one cast_zero beq_decide_int bne_decide_int List.all_map
theorem len_lt_len (H : AHeap) (k m : Nat) : (H.length + k < H.length + m) = (k < m) := by simp
theorem len_lt0 (H : AHeap) (m : Nat) : (H.length < H.length + m) = (0 < m) := by simp
theorem len_lt1 (H : AHeap) (m : Nat) : (H.length + m < H.length) = False := by simp
theorem below_arr (m : Nat) (e : TypeId) (k ver : Nat) (es : List (List D)) : (AObj.arr e k ver es).below m = true := rfl
theorem below_box (m : Nat) (e : TypeId) (k ver n : Nat) (cs : List AV) : (AObj.box e k ver n cs).below m = cs.all (below1 m) := rfl
theorem below_mp (m : Nat) (kk : IntKind) (es : List (Int × AV)) : (AObj.mp kk es).below m = es.all fun e => below1 m e.2 := rfl
theorem below_dead (m v : Nat) : (AObj.dead v).below m = true := rfl
theorem below1_d (m : Nat) (x : D) : below1 m (.d x) = true := rfl
theorem below1_top (m : Nat) : below1 m .top = true := rfl
theorem below1_cap0 (m : Nat) : below1 m .cap0 = true := rfl
theorem below1_iptr (m : Nat) (cs : List D) : below1 m (.iptr cs) = true := rfl
theorem below1_ptr (m id v i j : Nat) : below1 m (.ptr id v i j) = decide (id < m) := rfl
theorem below1_sl (m id v i j : Nat) : below1 m (.sl id v i j) = decide (id < m) := rfl
theorem below1_mp (m id : Nat) : below1 m (.mp id) = decide (id < m) := rfl
theorem below1_fn (m : Nat) (f : FuncId) (cs : List AV) : below1 m (.fn f cs) = cs.all (below0 m) := rfl
theorem below0_d (m : Nat) (x : D) : below0 m (.d x) = true := rfl
theorem below0_ptr (m id v i j : Nat) : below0 m (.ptr id v i j) = decide (id < m) := rfl
theorem below0_sl (m id v i j : Nat) : below0 m (.sl id v i j) = decide (id < m) := rfl
theorem below0_mp (m id : Nat) : below0 m (.mp id) = decide (id < m) := rfl
theorem frz_fn (H : AHeap) (m : Nat) (f : FuncId) (cs : List AV) : frz H m (.fn f cs) = .fn f (cs.map (frz0 H m)) := rfl
theorem frz_iptr (H : AHeap) (m : Nat) (cs : List D) : frz H m (.iptr cs) = .iptr cs := rfl
theorem frz_cap0 (H : AHeap) (m : Nat) : frz H m .cap0 = .cap0 := rfl
theorem frz_mp (H : AHeap) (m id : Nat) : frz H m (.mp id) = if id < m then .mp id else .top := rfl
theorem frz0_mp (H : AHeap) (m id : Nat) : frz0 H m (.mp id) = if id < m then .mp id else .top := rfl
theorem frz0_iptr (H : AHeap) (m : Nat) (cs : List D) : frz0 H m (.iptr cs) = .iptr cs := rfl
theorem frz0_cap0 (H : AHeap) (m : Nat) : frz0 H m .cap0 = .cap0 := rfl
theorem frz1_fn (H : AHeap) (m : Nat) (f : FuncId) (cs : List AV) : frz1 H m (.fn f cs) = .fn f (cs.map (frz0 H m)) := rfl
theorem frz1_cap0 (H : AHeap) (m : Nat) : frz1 H m .cap0 = .cap0 := rfl
attribute [go_sem] below_arr below_box below_mp below_dead below1_d below1_top below1_cap0 below1_iptr below1_ptr below1_sl below1_mp below1_fn below0_d below0_ptr below0_sl below0_mp frz_fn frz_iptr frz_cap0 frz_mp frz0_mp frz0_iptr frz0_cap0 frz1_fn frz1_cap0
  len_lt_len len_lt0 len_lt1 Nat.lt_irrefl decide_eq_true_eq
theorem aelem_sl (H : AHeap) (k : Nat) (i : Int) (id ver off len : Nat) : aelem H k i (.sl id ver off len) = if 0 ≤ i ∧ i < len then (H[id]?).bind fun ob => if ob.ver = ver ∧ ob.k = k then some (.ptr id ver (off + i.toNat) 0) else none else none := rfl
theorem asrc_sl (H : AHeap) (id ver off len : Nat) : asrc H (.sl id ver off len) = (asArr H[id]?).bind fun a => if a.2.2.1 = ver then some ((a.2.2.2.drop off).take len) else none := by
  simp only [asrc]
  rcases H[id]? with _ | o
  · rfl
  · cases o <;> rfl
theorem asrc_nil (H : AHeap) : asrc H (.d (.v (.slice none 0 0))) = some [] := rfl
theorem asrc_cap0 (H : AHeap) : asrc H .cap0 = some [] := rfl
attribute [go_sem] aelem_sl asrc_sl asrc_nil asrc_cap0
attribute [go_sem] asArr_arr appTo_any
section
variable {P : Program} {hint : Nat → Bool} {n : Nat} {H0 : AHeap}
/-- A loop of m rounds with its test ahead: round k goes from I k to I (k + 1), or leaves. -/
theorem awp_for {b b' : Nat} {cR pR body : Code} {c : Operand} (I : Nat → (Nat → AV) → AHeap → Prop) (m : Nat) {Q : Post} {s s' : Nat → AV} {H H' : AHeap} (hm : m ≤ 9223372036854775807) (hW : Weak H0 s H s' H') (h0 : I 0 s' H')
    (step : ∀ k s H, k < m → IntKind.i64.wrap ((k : Int) + 1) = (k : Int) + 1 → I k s H → awp P hint n H0 cR (KTest c true fun s H => awp P hint n H0 body (KBody P hint n H0 pR b b' (fun s' H' => ∃ s'' H'', Weak H0 s' H' s'' H'' ∧ I (k + 1) s'' H'') Q) s H) s H)
    (done : ∀ s H, I m s H → awp P hint n H0 cR (KTest c false fun s H => Q .normal s H) s H) :
    awp P hint n H0 (.loop (.seq cR (.seq (.cond c .skip (.exit b)) (.seq (.block b' body) pR)))) (KBlock b Q) s H := by
  refine awp_loop P hint n H0 (fun k s H => k ≤ m ∧ I k s H) (fun k => m - k) 0 hW ⟨Nat.zero_le _, h0⟩ ?_
  rintro k s H ⟨hk, hI⟩
  rw [awp_seq]
  by_cases hlt : k < m
  · refine awp_mono cR (fun e s H h => ?_) s H (step k s H hlt (wrap64_in _ (by omega) (by omega)) hI)
    cases e with
    | normal =>
      obtain ⟨hc, h⟩ := h
      simp only [KSeq_normal, awp_seq]
      rw [awp_cond, hc]
      simp only [if_true, awp_skip, KSeq_normal, awp_seq, awp_block]
      refine awp_mono body (fun e s H h => ?_) s H h
      have fin : KSeq P hint n H0 pR (KLoop (fun s' H' => ∃ s'' H'', Weak H0 s' H' s'' H'' ∧ I (k + 1) s'' H'') (KBlock b Q)) .normal s H →
          KSeq P hint n H0 pR (KLoop (fun s' H' => ∃ s'' H'' y, Weak H0 s' H' s'' H'' ∧ (y ≤ m ∧ I y s'' H'') ∧ m - y < m - k) (KBlock b Q)) .normal s H := by
        have mon : ∀ s H, awp P hint n H0 pR (KLoop (fun s' H' => ∃ s'' H'', Weak H0 s' H' s'' H'' ∧ I (k + 1) s'' H'') (KBlock b Q)) s H →
            awp P hint n H0 pR (KLoop (fun s' H' => ∃ s'' H'' y, Weak H0 s' H' s'' H'' ∧ (y ≤ m ∧ I y s'' H'') ∧ m - y < m - k) (KBlock b Q)) s H := by
          refine fun s H => awp_mono pR (fun e s H h => ?_) s H
          cases e with
          | normal =>
            obtain ⟨s'', H'', h1, h2⟩ := h
            exact ⟨s'', H'', k + 1, h1, ⟨hlt, h2⟩, by omega⟩
          | _ => exact h
        rw [KSeq_normal, KSeq_normal]
        cases hintAt hint pR with
        | true => exact fun ⟨s2, H2, h1, h2⟩ => ⟨s2, H2, h1, mon _ _ h2⟩
        | false => exact mon s H
      cases e with
      | normal => exact fin h
      | exit i =>
        rw [KBody_exit] at h
        rw [KBlock_exit]
        by_cases hi : i = b'
        · rw [if_pos hi] at h ⊢; exact fin h
        · rw [if_neg hi] at h ⊢; exact h
      | ret => exact h
      | panic v => exact h
    | _ => exact h.elim
  · obtain rfl : k = m := by omega
    refine awp_mono cR (fun e s H h => ?_) s H (done s H hI)
    cases e with
    | normal =>
      obtain ⟨hc, h⟩ := h
      simp only [KSeq_normal, awp_seq]
      rw [awp_cond, hc]
      simp only [Bool.false_eq_true, if_false, awp_exit, KSeq_exit]
      show KBlock b Q (.exit b) s H
      rw [KBlock_exit, if_pos rfl]
      exact h
    | _ => exact h.elim
theorem awp_assoc (x y z : Code) (Q : Post) (s : Nat → AV) (H : AHeap) : awp P hint n H0 (.seq (.seq x y) z) Q s H = awp P hint n H0 (.seq x (.seq y z)) Q s H := by
  simp only [awp_seq]
  congr 1
  funext e s H
  cases e <;> rfl
theorem awp_loop_congr {x y : Code} (h : ∀ Q s H, awp P hint n H0 x Q s H = awp P hint n H0 y Q s H) (Q : Post) (s : Nat → AV) (H : AHeap) : awp P hint n H0 (.loop x) Q s H = awp P hint n H0 (.loop y) Q s H := by
  unfold awp
  simp only [h]
/-- The same for a loop that is written with its three parts. -/
theorem awp_for3 {b b' : Nat} {cR pR body : Code} {c : Operand} (I : Nat → (Nat → AV) → AHeap → Prop) (m : Nat) {Q : Post} {s s' : Nat → AV} {H H' : AHeap} (hm : m ≤ 9223372036854775807) (hW : Weak H0 s H s' H') (h0 : I 0 s' H')
    (step : ∀ k s H, k < m → IntKind.i64.wrap ((k : Int) + 1) = (k : Int) + 1 → I k s H → awp P hint n H0 cR (KTest c true fun s H => awp P hint n H0 body (KBody P hint n H0 pR b b' (fun s' H' => ∃ s'' H'', Weak H0 s' H' s'' H'' ∧ I (k + 1) s'' H'') Q) s H) s H)
    (done : ∀ s H, I m s H → awp P hint n H0 cR (KTest c false fun s H => Q .normal s H) s H) :
    awp P hint n H0 (.loop (.seq (.seq cR (.cond c .skip (.exit b))) (.seq (.block b' body) pR))) (KBlock b Q) s H := by
  rw [awp_loop_congr fun Q s H => awp_assoc cR (.cond c .skip (.exit b)) (.seq (.block b' body) pR) Q s H]
  exact awp_for I m hm hW h0 step done
theorem Weak.cut (objs T : AHeap) (m : Nat) (hm : objs.length = m) (s : Nat → AV) (h : objs.all (AObj.below (H0.length + m)) = true) : Weak H0 s (H0 ++ (objs ++ T)) (fun t => frz (H0 ++ (objs ++ T)) (H0.length + m) (s t)) (H0 ++ objs) := by
  subst hm
  have := Weak.trunc (H0 := H0) s (H0 ++ (objs ++ T)) (H0.length + objs.length) (by omega) (by simp) ?_
  · rwa [show (H0 ++ (objs ++ T)).take (H0.length + objs.length) = H0 ++ objs from by rw [← List.append_assoc, ← List.length_append, List.take_left]] at this
  · intro i o hi ho
    rcases Nat.lt_or_ge i H0.length with h1 | h1
    · exact .inl (by rwa [List.getElem?_append_left h1] at ho)
    · right
      rw [List.getElem?_append_right h1, List.getElem?_append_left (by omega)] at ho
      rw [List.all_eq_true] at h
      exact h o (List.mem_of_getElem? ho)
/-- A round's end: what lies behind the first objects is forgotten. -/
theorem Rnd.cut {I : (Nat → AV) → AHeap → Prop} {s : Nat → AV} {H : AHeap} (objs T : AHeap) (m : Nat) (hm : objs.length = m) (e : H = H0 ++ (objs ++ T)) (h : objs.all (AObj.below (H0.length + m)) = true)
    (hi : I (fun t => frz H (H0.length + m) (s t)) (H0 ++ objs)) : ∃ s'' H'', Weak H0 s H s'' H'' ∧ I s'' H'' := by
  subst e
  exact ⟨_, _, Weak.cut objs T m hm s h, hi⟩
/-- A round's end: nothing is forgotten. -/
theorem Rnd.same {I : (Nat → AV) → AHeap → Prop} {s : Nat → AV} {H : AHeap} (h : I s H) : ∃ s'' H'', Weak H0 s H s'' H'' ∧ I s'' H'' := ⟨s, H, .refl _ _, h⟩
end

/-! ### Arguments of which less is asked -/
mutual
inductive Sub : AV → AV → Prop
  | refl (x : AV) : Sub x x
  | top (x : AV) : Sub x .top
  | nil : Sub (.d (.v (.slice none 0 0))) (.d (.list false []))
  | cap0 : Sub .cap0 (.d (.list false []))
  | nn (es : List (List D)) : Sub (.d (.list true es)) (.d (.list false es))
  | agg {cs cs' : List AV} (h : SubL cs cs') : Sub (.agg cs) (.agg cs')
  | sem {x y : D} (h : ∀ N w v, RD N w x v → RD N w y v) : Sub (.d x) (.d y)
inductive SubL : List AV → List AV → Prop
  | nil : SubL [] []
  | cons {x y : AV} {xs ys : List AV} (h : Sub x y) (t : SubL xs ys) : SubL (x :: xs) (y :: ys)
end
theorem SubL.len : ∀ {cs cs' : List AV}, SubL cs cs' → cs.length = cs'.length
  | _, _, .nil => rfl
  | _, _, .cons _ t => by simp [SubL.len t]
mutual
theorem Sub.ra {H : AHeap} {φ : Phi} {N : Addr → Prop} {w : World} : ∀ {x y : AV} {v : Value}, Sub x y → RA H φ N w x v → RA H φ N w y v
  | _, _, _, .refl _, h => h
  | _, _, _, .top _, _ => .top _
  | _, _, v, .nil, h => by rw [h.closed]; exact .d (.nil _ _ fun _ => rfl)
  | _, _, _, .cap0, h => by cases h with | cap0 A => exact .d (.nil _ _ fun _ => rfl)
  | _, _, _, .nn es, h => by
    cases h with
    | d h =>
      cases h with
      | list nn es ad cap k c hc hk h hd => exact .d (.list false es ad cap k c hc hk h hd)
  | _, _, _, .sem hs, h => by
    cases h with
    | d h => exact .d (hs _ _ _ h)
  | _, _, _, .agg hs, h => by
    cases h with
    | agg cs vs hl hh => exact .agg _ vs (hs.len.symm.trans hl) fun i h1 h2 => SubL.ra hs i (by rw [hs.len]; exact h1) h1 (hh i (by rw [hs.len]; exact h1) h2)
theorem SubL.ra {H : AHeap} {φ : Phi} {N : Addr → Prop} {w : World} : ∀ {cs cs' : List AV}, SubL cs cs' → ∀ (i : Nat) (h1 : i < cs.length) (h2 : i < cs'.length) {v : Value}, RA H φ N w (cs[i]) v → RA H φ N w (cs'[i]) v
  | _, _, .nil, i, h1, _, _, _ => by simp at h1
  | _, _, .cons h t, 0, _, _, _, g => Sub.ra h g
  | _, _, .cons h t, i + 1, h1, h2, v, g => by
    simp only [List.getElem_cons_succ] at g ⊢
    exact SubL.ra t i _ _ g
end
theorem Does.sub {P : Program} {f : FuncId} {args args' : List AV} {H H' : AHeap} {res : ARes} (hs : SubL args args') (h : Does P f args' H res H') : Does P f args H res H' :=
  fun φ N w vals hR hA => h φ N w vals hR ⟨hs.len.symm.trans hA.1, fun i h1 h2 => hs.ra i (by rw [hs.len]; exact h1) h1 (hA.2 i (by rw [hs.len]; exact h1) h2)⟩
theorem KCall.sub {P : Program} {f : FuncId} {args args' : List AV} {H H' : AHeap} {K : AV → AHeap → Prop} {KP : Value → AHeap → Prop} {r : AV} (hs : SubL args args') (h : Does P f args' H (.ok r) H') (hk : K r H') : KCall P f args H K KP := KCall.ok (h.sub hs) hk
attribute [go_sem] awp_test
attribute [congr] ob_congr oalt_congr aite_congr ob2_congr acond_congr
/-! What simp looks into: never code, continuations, or slots that nobody asks for. -/
section
variable {P : Program} {hint : Nat → Bool} {n : Nat} {H0 H H' : AHeap} {s : Nat → AV} {Q : Post} {ops : Array Oper}
@[congr] theorem cg_awp {c : Code} (h : nf H = H') : awp P hint n H0 c Q s H = awp P hint n H0 c Q s H' := by rw [← h]; rfl
@[congr] theorem cg_list {l : List Oper} (h : nf H = H') : awpList P hint n ops Q l s H = awpList P hint n ops Q l s H' := by rw [← h]; rfl
@[congr] theorem cg_step {o : Oper} {K : AV → AHeap → Prop} {KP : Value → AHeap → Prop} (h : nf H = H') : astep P hint s H o K KP = astep P hint s H' o K KP := by rw [← h]; rfl
@[congr] theorem cg_KOp {rest : List Oper} {d : Option Tmp} {r r' : AV} (g : nf r = r') (h : nf H = H') : KOp P hint n ops Q rest s d r H = KOp P hint n ops Q rest s d r' H' := by rw [← g, ← h]; rfl
@[congr] theorem cg_KPan {v : Value} (h : nf H = H') : KPan Q s v H = KPan Q s v H' := by rw [← h]; rfl
@[congr] theorem cg_KSeq {c : Code} {e : AX} (h : nf H = H') : KSeq P hint n H0 c Q e s H = KSeq P hint n H0 c Q e s H' := by rw [← h]; rfl
@[congr] theorem cg_KBlock {i : Nat} {e : AX} (h : nf H = H') : KBlock i Q e s H = KBlock i Q e s H' := by rw [← h]; rfl
@[congr] theorem cg_KLoop {R : (Nat → AV) → AHeap → Prop} {e : AX} (h : nf H = H') : KLoop R Q e s H = KLoop R Q e s H' := by rw [← h]; rfl
@[congr] theorem cg_KTest {c : Operand} {b : Bool} {R : (Nat → AV) → AHeap → Prop} {e : AX} (h : nf H = H') : KTest c b R e s H = KTest c b R e s H' := by rw [← h]; rfl
@[congr] theorem cg_KBody {pR : Code} {b b' : Nat} {R : (Nat → AV) → AHeap → Prop} {e : AX} (h : nf H = H') : KBody P hint n H0 pR b b' R Q e s H = KBody P hint n H0 pR b b' R Q e s H' := by rw [← h]; rfl
@[congr] theorem cg_KCall {f : FuncId} {args args' : List AV} {K : AV → AHeap → Prop} {KP : Value → AHeap → Prop} (g : nf args = args') (h : nf H = H') : KCall P f args H K KP = KCall P f args' H' K KP := by rw [← g, ← h]; rfl
@[congr] theorem cg_KVal {K : AV → AHeap → Prop} {r r' : Value} (g : nf r = r') (h : nf H = H') : KVal K H r = KVal K H' r' := by rw [← g, ← h]; rfl
@[congr] theorem cg_AEnd {rs : List Tmp} {res : ARes} {H1 : AHeap} {e : AX} (h : nf H = H') : AEnd rs H0 res H1 e s H = AEnd rs H0 res H1 e s H' := by rw [← h]; rfl
@[congr] theorem cg_aput {d : Option Tmp} {v : AV} {t t' : Nat} (h : nf t = t') : aput n s d v t = aput n s d v t' := by rw [← h]; rfl
theorem awpList_mk (l : List Oper) : awpList P hint n ops Q l.toArray.toList s H = awpList P hint n ops Q l s H := rfl
@[congr] theorem cg_binK {op : BinOp} {t : TypeId} {u u' v v' : Value} {K : Value → Prop} (g : nf u = u') (h : nf v = v') : binK P op t u v K = binK P op t u' v' K := by rw [← g, ← h]; rfl
@[congr] theorem cg_unK {op : UnOp} {u u' : Value} {K : Value → Prop} (g : nf u = u') : unK op u K = unK op u' K := by rw [← g]; rfl
@[congr] theorem cg_aslice {k : Nat} {lo lo' : Option Int} {hi hi' : Nat → Option Int} {K : AV → AHeap → Prop} {x x' : AV} (f : nf lo = lo') (g : nf x = x') (h : nf H = H') (e : ∀ n, hi n = hi' n) : aslice H k lo hi K x = aslice H' k lo' hi' K x' := by rw [← f, ← g, ← h, funext e]; rfl
@[congr] theorem cg_aslice3 {k : Nat} {lo lo' hi hi' mx mx' : Option Int} {K : AV → AHeap → Prop} {x x' : AV} (f : nf lo = lo') (f2 : nf hi = hi') (f3 : nf mx = mx') (g : nf x = x') (h : nf H = H') : aslice3 H k lo hi mx K x = aslice3 H' k lo' hi' mx' K x' := by rw [← f, ← f2, ← f3, ← g, ← h]; rfl
@[congr] theorem cg_aassert {t : TypeId} {ok : Bool} {K : AV → AHeap → Prop} {v v' : Option Value} (g : nf v = v') (h : nf H = H') : aassert P t ok H K v = aassert P t ok H' K v' := by rw [← g, ← h]; rfl
@[congr] theorem cg_appTo {e : TypeId} {k b : Nat} {news news' : List (List D)} {K : AV → AHeap → Prop} {x x' : AV} (f : nf news = news') (g : nf x = x') (h : nf H = H') : appTo H e k b news K x = appTo H' e k b news' K x' := by rw [← f, ← g, ← h]; rfl
end
attribute [go_sem] awpList_mk
end Go.Proofs.YtfmmemboakdeiaaAw

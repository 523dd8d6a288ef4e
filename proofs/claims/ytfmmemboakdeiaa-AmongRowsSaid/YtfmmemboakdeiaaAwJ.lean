/- What a function leaves may be frozen afterwards. -/
import Derived.Test.YtfmmemboakdeiaaAwF
import Derived.Test.YtfmmemboakdeiaaAwG
namespace Go.Proofs.YtfmmemboakdeiaaAw
open Go.RowKit
set_option linter.unusedVariables false
theorem CallsV.mono {P : Program} {f : FuncId} {vals : Array Value} {w : World} {R R' : Ending → World → Prop} (h : CallsV P f vals w R) (hR : ∀ e w', R e w' → R' e w') : CallsV P f vals w R' := by
  rcases h with ⟨h1, h2⟩ | ⟨v, w', h1, h2⟩
  · exact .inl ⟨h1, h2.mono hR⟩
  · exact .inr ⟨v, w', h1, hR _ _ h2⟩
def sOne (r : AV) : Nat → AV := fun t => if t = 0 then r else .top
/-- A result may be weakened: forgotten, frozen. -/
theorem Does.weak {P : Program} {f : FuncId} {args : List AV} {H H1 H2 : AHeap} {r : AV} {s' : Nat → AV} (h : Does P f args H (.ok r) H1) (hW : Weak H (sOne r) H1 s' H2) : Does P f args H (.ok (s' 0)) H2 := by
  intro φ N w vals hR hA
  refine (h φ N w vals hR hA).mono ?_
  rintro e w' ⟨φ1, N1, hR1, hS1, hE⟩
  cases e with
  | returned v =>
    have hI : Inv H φ N w 1 [] (sOne r) H1 φ1 N1 { tmps := #[v], defers := [] } w' := by
      refine ⟨hR1, fun t => ?_, hS1, rfl, rfl⟩
      unfold sOne
      by_cases ht : t = 0
      · subst ht; exact hE
      · rw [if_neg ht]; exact .top _
    obtain ⟨φ2, N2, hI2⟩ := hW.ok hR hI
    exact ⟨φ2, N2, hI2.rel, hI2.since, hI2.tmps 0⟩
  | panicked _ => exact hE.elim
  | outgrown => exact hE.elim
theorem Does.drop {P : Program} {f : FuncId} {args : List AV} {H T : AHeap} {r : AV} (h : Does P f args H (.ok r) (H ++ T)) : Does P f args H (.ok (frz (H ++ T) H.length r)) H := h.weak (Weak.drop H T _)
theorem frz_new (H : AHeap) (e : TypeId) (k v n : Nat) (es : List (List D)) (h : es.length = n) : frz (H ++ [.arr e k v es]) H.length (.sl H.length v 0 n) = .d (.list false es) := by
  rw [frz_sl, frz0_sl, if_neg (Nat.lt_irrefl _), get_snoc_self]
  simp only [if_true, List.drop_zero]
  rw [take_len _ _ h]
/-- A new array that is left may be taken for a list that never changes. -/
theorem Does.list {P : Program} {f : FuncId} {args : List AV} {H : AHeap} {e : TypeId} {k v n : Nat} {es : List (List D)} (h : Does P f args H (.ok (.sl H.length v 0 n)) (H ++ [.arr e k v es])) (hn : es.length = n) : Does P f args H (.ok (.d (.list false es))) H := by
  have := h.drop
  rwa [frz_new _ _ _ _ _ _ hn] at this
theorem AEnd.ret' {rs : List Tmp} {H H' T : AHeap} {s : Nat → AV} {r : AV} (e : H' = H ++ T) (h : r = ares rs fun t => frz H' H.length (s t)) : AEnd rs H (.ok r) H .ret s H' := by subst e; exact AEnd.ret h
theorem Does.imp {P : Program} {f : FuncId} {args : List AV} {H H' : AHeap} {r r' : AV} (h : Does P f args H (.ok r) H') (hr : ∀ φ N w v, RA H' φ N w r v → RA H' φ N w r' v) : Does P f args H (.ok r') H' := by
  have := h.weak (s' := sOne r') (.imp _ _ _ fun φ N w u v hv => ?_)
  · exact this
  · unfold sOne at hv ⊢
    by_cases hu : u = 0
    · rw [if_pos hu] at hv ⊢; exact hr _ _ _ _ hv
    · rw [if_neg hu] at hv ⊢; exact hv
theorem RA.tupSub {H : AHeap} {φ : Phi} {N : Addr → Prop} {w : World} {cs cs' : List AV} {v : Value} (hs : SubL cs cs') (h : RA H φ N w (.tup cs) v) : RA H φ N w (.tup cs') v := by
  cases h with
  | tup cs vs hl hh => exact .tup _ vs (hs.len.symm.trans hl) fun i h1 h2 => hs.ra i (by rw [hs.len]; exact h1) h1 (hh i (by rw [hs.len]; exact h1) h2)
theorem Does.sub1 {P : Program} {f : FuncId} {args : List AV} {H H' : AHeap} {r r' : AV} (h : Does P f args H (.ok r) H') (hs : Sub r r') : Does P f args H (.ok r') H' := h.imp fun _ _ _ _ hv => hs.ra hv
theorem Does.subT {P : Program} {f : FuncId} {args : List AV} {H H' : AHeap} {cs cs' : List AV} (h : Does P f args H (.ok (.tup cs)) H') (hs : SubL cs cs') : Does P f args H (.ok (.tup cs')) H' := h.imp fun _ _ _ _ hv => hv.tupSub hs
/-- An empty list is nil, or it is not. -/
theorem RA.empty {H : AHeap} {φ : Phi} {N : Addr → Prop} {w : World} {v : Value} (h : RA H φ N w (.d (.list false [])) v) : RA H φ N w (.d (.v (.slice none 0 0))) v ∨ RA H φ N w (.d (.list true [])) v := by
  cases h with
  | d h =>
    cases h with
    | nil A c hA =>
      cases A with
      | none => rw [hA rfl]; exact .inl (.d (.v _ rfl))
      | some ad => exact .inr (.d (RD.list true [] ad c 0 (fun _ _ => undef) (Nat.zero_le _) (fun e he => by simp at he) (fun i j hi => by simp at hi) (fun i hi => by simp at hi)))
    | list _ _ ad cap k c hc hk hh hd => exact .inr (.d (RD.list true [] ad cap k c hc hk hh hd))
theorem Does.splitNil {P : Program} {f : FuncId} {H H' : AHeap} {res : ARes} (pre post : List AV) (h1 : Does P f (pre ++ .d (.v (.slice none 0 0)) :: post) H res H') (h2 : Does P f (pre ++ .d (.list true []) :: post) H res H') : Does P f (pre ++ .d (.list false []) :: post) H res H' := by
  intro φ N w vals hR hA
  have hlt : pre.length < vals.size := by rw [← hA.1]; simp
  have h0 := hA.2 pre.length (by simp) hlt
  simp only [List.getElem_append_right (Nat.le_refl _), Nat.sub_self, List.getElem_cons_zero] at h0
  have go : ∀ x, RA H φ N w x (vals[pre.length]) → RAs H φ N w (pre ++ x :: post) vals := fun x hx => by
    refine ⟨by rw [← hA.1]; simp, fun i g1 g2 => ?_⟩
    have h3 := hA.2 i (by simpa using g1) g2
    by_cases hi : i = pre.length
    · subst hi
      simp only [List.getElem_append_right (Nat.le_refl _), Nat.sub_self, List.getElem_cons_zero]
      exact hx
    · rcases Nat.lt_or_ge i pre.length with hlt2 | hge
      · rw [List.getElem_append_left hlt2] at h3 ⊢; exact h3
      · rw [List.getElem_append_right hge] at h3 ⊢
        obtain ⟨j, hj⟩ : ∃ j, i - pre.length = j + 1 := ⟨i - pre.length - 1, by omega⟩
        simp only [hj, List.getElem_cons_succ] at h3 ⊢
        exact h3
  rcases RA.empty h0 with h | h
  · exact h1 φ N w vals hR (go _ h)
  · exact h2 φ N w vals hR (go _ h)
theorem nilEq_run {P : Program} (d : Nat) (t e : TypeId) (h : P.underlying t = some (.slice e)) (w : World) : (Op.equalIn (d + 1) t (.slice none 0 0) (.slice none 0 0)).run P w = .ok true w := by simp [Op.equalIn, run_underlying h]
theorem nilEq_pure {P : Program} {t e : TypeId} (hu : P.underlying t = some (.slice e)) : PureBin P .eql t (.slice none 0 0) (.slice none 0 0) (.bool true) := fun x y w => by
  have hg : (eqGuard .eql t x y (.slice none 0 0) (.slice none 0 0)).run P w = .ok () w := by simp [eqGuard]
  have he : (Op.equal t (.slice none 0 0) (.slice none 0 0)).run P w = .ok true w := nilEq_run 9999 t e hu w
  rw [Sem.run_bind, hg]
  simp only [Result.andThen_ok, Go.binOp]
  simp [he]
/-- Nil held against nil. -/
theorem nilEq_bin {P : Program} {t e : TypeId} (hu : P.underlying t = some (.slice e)) (K : Value → Prop) : binK P .eql t (.slice none 0 0) (.slice none 0 0) K = K (.bool true) := by
  have h := nilEq_pure hu
  have : binK P .eql t (.slice none 0 0) (.slice none 0 0) K = ∃ r, PureBin P .eql t (.slice none 0 0) (.slice none 0 0) r ∧ K r := by unfold binK; rfl
  rw [this]
  exact propext ⟨fun ⟨r', h', k⟩ => by rw [h.inj h']; exact k, fun k => ⟨_, h, k⟩⟩
/-! ### A cut between two parts -/
def KMid (I : (Nat → AV) → AHeap → Prop) : Post := fun e s H => match e with | .normal => I s H | _ => False
theorem KMid_normal (I : (Nat → AV) → AHeap → Prop) (s : Nat → AV) (H : AHeap) : KMid I .normal s H = I s H := rfl
attribute [go_sem] KMid_normal
section
variable {P : Program} {hint : Nat → Bool} {n : Nat} {H0 : AHeap} {Q : Post} {s : Nat → AV} {H : AHeap}
theorem awp_cut {x y : Code} (I : (Nat → AV) → AHeap → Prop) (hh : hintAt hint y = false) (h1 : awp P hint n H0 x (KMid I) s H) (h2 : ∀ s H, I s H → awp P hint n H0 y Q s H) : awp P hint n H0 x (KSeq P hint n H0 y Q) s H := by
  refine awp_mono x (fun e s H h => ?_) s H h1
  cases e with
  | normal => rw [KSeq_normal, hh, aite_false]; exact h2 s H h
  | _ => exact h.elim
theorem acond_cut {x x' y : Code} {b : Bool} (I : (Nat → AV) → AHeap → Prop) (hh : hintAt hint y = false) (h1 : acond (some b) (awp P hint n H0 x (KMid I) s H) (awp P hint n H0 x' (KMid I) s H)) (h2 : ∀ s H, I s H → awp P hint n H0 y Q s H) :
    acond (some b) (awp P hint n H0 x (KSeq P hint n H0 y Q) s H) (awp P hint n H0 x' (KSeq P hint n H0 y Q) s H) := by
  cases b
  · exact awp_cut I hh h1 h2
  · exact awp_cut I hh h1 h2
theorem awp_cutB {x y : Code} {b : Nat} (I : (Nat → AV) → AHeap → Prop) (hh : hintAt hint y = false) (h1 : awp P hint n H0 x (KBlock b (KMid I)) s H) (h2 : ∀ s H, I s H → awp P hint n H0 y Q s H) : awp P hint n H0 x (KBlock b (KSeq P hint n H0 y Q)) s H := by
  refine awp_mono x (fun e s H h => ?_) s H h1
  cases e with
  | normal => show KSeq P hint n H0 y Q .normal s H; rw [KSeq_normal, hh, aite_false]; exact h2 s H h
  | exit i =>
    rw [KBlock_exit] at h ⊢
    by_cases hi : i = b
    · rw [if_pos hi] at h ⊢; rw [KSeq_normal, hh, aite_false]; exact h2 s H h
    · rw [if_neg hi] at h; exact h.elim
  | _ => exact h.elim
end
end Go.Proofs.YtfmmemboakdeiaaAw

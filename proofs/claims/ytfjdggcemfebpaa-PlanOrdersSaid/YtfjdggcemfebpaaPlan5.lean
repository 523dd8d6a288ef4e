/- plan.Orders: the whole. -/
import Derived.Test.YtfjdggcemfebpaaPlan4
namespace Go.Proofs.Ytfjdggcemfebpaa
open Go.Proofs.YtfjdggcemfebpaaAw Go.RowKit
set_option linter.unusedVariables false
set_option linter.unusedSimpArgs false
set_option maxRecDepth 10000 in
theorem planOrders0_neg (n : Int) (hn : n < 0) (H : AHeap) : Does Try.prog 8 [iA n] H (.ok (.d (.v (.slice none 0 0)))) H := by
  refine Does.of_awp (hint := (fun _ => false)) Try.func8 (by kernel_rfl) rfl [2] (by kernel_rfl) (by decide) (by simp [Try.ntmps8]) ?_
  rw [Try.ntmps8]
  simp (implicitDefEqProofs := false) only [↓reduceIte, go_sem, oread, owrite, Nat.reduceAdd, Nat.reduceSub, Nat.reduceMul, Nat.reduceLT, Nat.reduceLeDiff, Nat.reduceEqDiff, Nat.reduceBEq, Int.reduceLE, Int.reduceLT, Int.reduceEq, Int.reduceNe, Int.reduceAdd, Int.reduceSub, Int.reduceMul, Int.reduceNeg, Int.reduceToNat, Int.reduceNatCast, reduceCtorEq, eq_self, hn]
  refine AEnd.ret ?_
  simp (implicitDefEqProofs := false) only [↓reduceIte, go_sem, oread, owrite, Nat.reduceAdd, Nat.reduceSub, Nat.reduceMul, Nat.reduceLT, Nat.reduceLeDiff, Nat.reduceEqDiff, Nat.reduceBEq, Int.reduceLE, Int.reduceLT, Int.reduceEq, Int.reduceNe, Int.reduceAdd, Int.reduceSub, Int.reduceMul, Int.reduceNeg, Int.reduceToNat, Int.reduceNatCast, reduceCtorEq, eq_self]
set_option maxRecDepth 10000 in
theorem planOrders0_big (n : Nat) (hn : 4 < n) (hm : n ≤ 1000) (H : AHeap) : Does Try.prog 8 [iA n] H (.ok (.d (.list true ([upto n].map encO)))) H := by
  have c1 : ((n : Int) < 0) = False := eq_false (by omega)
  have c2 : ((4 : Int) < (n : Int)) = True := eq_true (by omega)
  refine Does.of_awp (hint := (fun _ => false)) Try.func8 (by kernel_rfl) rfl [2] (by kernel_rfl) (by decide) (by simp [Try.ntmps8]) ?_
  rw [Try.ntmps8]
  simp (implicitDefEqProofs := false) only [↓reduceIte, go_sem, oread, owrite, Nat.reduceAdd, Nat.reduceSub, Nat.reduceMul, Nat.reduceLT, Nat.reduceLeDiff, Nat.reduceEqDiff, Nat.reduceBEq, Int.reduceLE, Int.reduceLT, Int.reduceEq, Int.reduceNe, Int.reduceAdd, Int.reduceSub, Int.reduceMul, Int.reduceNeg, Int.reduceToNat, Int.reduceNatCast, reduceCtorEq, eq_self, c1, c2, eq_true hn]
  refine KCall.ok (rising_does n (by omega) _) ?_
  simp (implicitDefEqProofs := false) only [↓reduceIte, go_sem, oread, owrite, Nat.reduceAdd, Nat.reduceSub, Nat.reduceMul, Nat.reduceLT, Nat.reduceLeDiff, Nat.reduceEqDiff, Nat.reduceBEq, Int.reduceLE, Int.reduceLT, Int.reduceEq, Int.reduceNe, Int.reduceAdd, Int.reduceSub, Int.reduceMul, Int.reduceNeg, Int.reduceToNat, Int.reduceNatCast, reduceCtorEq, eq_self]
  refine AEnd.ret ?_
  simp (implicitDefEqProofs := false) only [↓reduceIte, go_sem, oread, owrite, Nat.reduceAdd, Nat.reduceSub, Nat.reduceMul, Nat.reduceLT, Nat.reduceLeDiff, Nat.reduceEqDiff, Nat.reduceBEq, Int.reduceLE, Int.reduceLT, Int.reduceEq, Int.reduceNe, Int.reduceAdd, Int.reduceSub, Int.reduceMul, Int.reduceNeg, Int.reduceToNat, Int.reduceNatCast, reduceCtorEq, eq_self, encO]
set_option maxRecDepth 10000 in
set_option maxHeartbeats 1000000 in
theorem planOrders0_mid (n : Nat) (hn : 0 < n) (hn4 : n ≤ 4) (H : AHeap) : Does Try.prog 8 [iA n] H (.ok (.d (.list false ((ordersR n).map encO)))) H := by
  have c1 : ((n : Int) < 0) = False := eq_false (by omega)
  have c2 : ((4 : Int) < (n : Int)) = False := eq_false (by omega)
  have c3 : (4 < n) = False := eq_false (by omega)
  have hr := root_does n hn hn4 H []
  rw [dfs_eq n hn4] at hr
  generalize ordersR n = S at hr ⊢
  refine Does.of_awp (hint := (fun t => t == 1000008)) Try.func8 (by kernel_rfl) rfl [2] (by kernel_rfl) (by decide) (by simp [Try.ntmps8]) ?_
  rw [Try.ntmps8]
  simp (implicitDefEqProofs := false) only [↓reduceIte, go_sem, oread, owrite, Nat.reduceAdd, Nat.reduceSub, Nat.reduceMul, Nat.reduceLT, Nat.reduceLeDiff, Nat.reduceEqDiff, Nat.reduceBEq, Int.reduceLE, Int.reduceLT, Int.reduceEq, Int.reduceNe, Int.reduceAdd, Int.reduceSub, Int.reduceMul, Int.reduceNeg, Int.reduceToNat, Int.reduceNatCast, reduceCtorEq, eq_self, c1, c2, c3]
  refine ⟨_, _, Weak.virtBox _ (H ++ [.box 3 1 0 1 [iA n], .box 24 1 0 1 [.d (.v (.slice none 0 0))], .box 45 1 0 1 [.fn 21 [.ptr H.length 0 0 0, .ptr (H.length + 1) 0 0 0, .ptr (H.length + 2) 0 0 0]]]) (H.length + 1) 24 1 0 1 [.d (.v (.slice none 0 0))] 0 (.d (.v (.slice none 0 0))) 27 1 (by decide) (by simp [app_get]) rfl rfl, ?_⟩
  simp (implicitDefEqProofs := false) only [↓reduceIte, go_sem, oread, owrite, Nat.reduceAdd, Nat.reduceSub, Nat.reduceMul, Nat.reduceLT, Nat.reduceLeDiff, Nat.reduceEqDiff, Nat.reduceBEq, Int.reduceLE, Int.reduceLT, Int.reduceEq, Int.reduceNe, Int.reduceAdd, Int.reduceSub, Int.reduceMul, Int.reduceNeg, Int.reduceToNat, Int.reduceNatCast, reduceCtorEq, eq_self]
  refine KCall.ok (r := .tup []) (H' := ordE H n S []) (by exact hr) ?_
  simp (implicitDefEqProofs := false) only [↓reduceIte, go_sem, oread, owrite, Nat.reduceAdd, Nat.reduceSub, Nat.reduceMul, Nat.reduceLT, Nat.reduceLeDiff, Nat.reduceEqDiff, Nat.reduceBEq, Int.reduceLE, Int.reduceLT, Int.reduceEq, Int.reduceNe, Int.reduceAdd, Int.reduceSub, Int.reduceMul, Int.reduceNeg, Int.reduceToNat, Int.reduceNatCast, reduceCtorEq, eq_self, ordE, ordH]
  refine AEnd.ret ?_
  simp (implicitDefEqProofs := false) only [↓reduceIte, go_sem, oread, owrite, Nat.reduceAdd, Nat.reduceSub, Nat.reduceMul, Nat.reduceLT, Nat.reduceLeDiff, Nat.reduceEqDiff, Nat.reduceBEq, Int.reduceLE, Int.reduceLT, Int.reduceEq, Int.reduceNe, Int.reduceAdd, Int.reduceSub, Int.reduceMul, Int.reduceNeg, Int.reduceToNat, Int.reduceNatCast, reduceCtorEq, eq_self, take_len]
theorem Does.nilElem {P : Program} {f : FuncId} {args : List AV} {H H' : AHeap} {b : Bool} (h : Does P f args H (.ok (.d (.list b [[.v (.slice none 0 0)]]))) H') : Does P f args H (.ok (.d (.list b [[.list false []]]))) H' := by
  intro φ N w vals hR hA
  have go : ∀ e' w', (∃ φ' N', Rel H' φ' N' w' ∧ Since H φ N w H' φ' N' w' ∧ REnd H' φ' N' w' (.ok (.d (.list b [[.v (.slice none 0 0)]]))) e') → ∃ φ' N', Rel H' φ' N' w' ∧ Since H φ N w H' φ' N' w' ∧ REnd H' φ' N' w' (.ok (.d (.list b [[.list false []]]))) e' := by
    rintro e' w' ⟨φ', N', hR', hS', hE⟩
    refine ⟨φ', N', hR', hS', ?_⟩
    cases e' with
    | returned v =>
      have hE : RA H' φ' N' w' (.d (.list b [[.v (.slice none 0 0)]])) v := hE
      show RA H' φ' N' w' (.d (.list b [[.list false []]])) v
      cases hE with
      | d hd =>
        cases hd with
        | list nn es ad cap k c hc hk hcell hd =>
          refine .d (.list b [[.list false []]] ad cap k c hc (fun e he => ?_) (fun i j hi hj => hcell i j hi hj) fun i hi j hj => ?_)
          · have := hk [.v (.slice none 0 0)] (by simp)
            simp at he
            subst he
            simpa using this
          · have hi0 : i = 0 := by simp at hi; omega
            subst hi0
            have hj0 : j = 0 := by simp at hj; omega
            subst hj0
            have := hd 0 (by simp) 0 (by simp)
            simp only [List.getElem_cons_zero] at this ⊢
            generalize c 0 0 = u at this ⊢
            cases this with
            | v _ hx => exact .nil none 0 fun _ => rfl
    | panicked ps => exact hE
    | _ => exact hE
  rcases h φ N w vals hR hA with ⟨h5, h6⟩ | ⟨v, w', h5, h6⟩
  · exact .inl ⟨h5, h6.mono go⟩
  · exact .inr ⟨v, w', h5, go _ _ h6⟩
set_option maxRecDepth 10000 in
set_option maxHeartbeats 1000000 in
theorem root0_does (H : AHeap) : Does Try.prog 21 [.d (.v (.slice none 0 0)), .ptr H.length 0 0 0, .ptr (H.length + 1) 0 0 0, .ptr (H.length + 2) 0 0 0] (ordE H 0 [] []) (.ok (.tup []))
    (H ++ [.box 3 1 0 1 [iA 0], .box 24 1 0 1 [.sl (H.length + 3) 1 0 1], .box 45 1 0 1 [.fn 21 [.ptr H.length 0 0 0, .ptr (H.length + 1) 0 0 0, .ptr (H.length + 2) 0 0 0]], .arr 27 1 1 [[.v (.slice none 0 0)]]]) := by
  refine Does.of_awp (hint := (fun _ => false)) Try.func21 (by kernel_rfl) rfl [] (by kernel_rfl) (by decide) (by simp [Try.ntmps21]) ?_
  rw [Try.ntmps21]
  simp (implicitDefEqProofs := false) only [↓reduceIte, go_sem, oread, owrite, Nat.reduceAdd, Nat.reduceSub, Nat.reduceMul, Nat.reduceLT, Nat.reduceLeDiff, Nat.reduceEqDiff, Nat.reduceBEq, Int.reduceLE, Int.reduceLT, Int.reduceEq, Int.reduceNe, Int.reduceAdd, Int.reduceSub, Int.reduceMul, Int.reduceNeg, Int.reduceToNat, Int.reduceNatCast, reduceCtorEq, eq_self, ordE, ordH, List.map_nil]
  refine awp_drawK 4 K.mixed (by kernel_rfl) (by kernel_rfl) ?_
  simp (implicitDefEqProofs := false) only [↓reduceIte, go_sem, oread, owrite, Nat.reduceAdd, Nat.reduceSub, Nat.reduceMul, Nat.reduceLT, Nat.reduceLeDiff, Nat.reduceEqDiff, Nat.reduceBEq, Int.reduceLE, Int.reduceLT, Int.reduceEq, Int.reduceNe, Int.reduceAdd, Int.reduceSub, Int.reduceMul, Int.reduceNeg, Int.reduceToNat, Int.reduceNatCast, reduceCtorEq, eq_self]
  refine KCall.ok (cloneNil_does _) ?_
  simp (implicitDefEqProofs := false) only [↓reduceIte, go_sem, oread, owrite, Nat.reduceAdd, Nat.reduceSub, Nat.reduceMul, Nat.reduceLT, Nat.reduceLeDiff, Nat.reduceEqDiff, Nat.reduceBEq, Int.reduceLE, Int.reduceLT, Int.reduceEq, Int.reduceNe, Int.reduceAdd, Int.reduceSub, Int.reduceMul, Int.reduceNeg, Int.reduceToNat, Int.reduceNatCast, reduceCtorEq, eq_self]
  exact ⟨_, Weak.refl _ _, rfl⟩
set_option maxRecDepth 10000 in
set_option maxHeartbeats 1000000 in
theorem planOrders0_zero (H : AHeap) : Does Try.prog 8 [iA 0] H (.ok (.d (.list false ((ordersR 0).map encO)))) H := by
  refine Does.nilElem ?_
  have hr := root0_does H
  refine Does.of_awp (hint := (fun t => t == 1000008)) Try.func8 (by kernel_rfl) rfl [2] (by kernel_rfl) (by decide) (by simp [Try.ntmps8]) ?_
  rw [Try.ntmps8]
  simp (implicitDefEqProofs := false) only [↓reduceIte, go_sem, oread, owrite, Nat.reduceAdd, Nat.reduceSub, Nat.reduceMul, Nat.reduceLT, Nat.reduceLeDiff, Nat.reduceEqDiff, Nat.reduceBEq, Int.reduceLE, Int.reduceLT, Int.reduceEq, Int.reduceNe, Int.reduceAdd, Int.reduceSub, Int.reduceMul, Int.reduceNeg, Int.reduceToNat, Int.reduceNatCast, reduceCtorEq, eq_self]
  refine ⟨_, _, Weak.virtBox _ (H ++ [.box 3 1 0 1 [iA 0], .box 24 1 0 1 [.d (.v (.slice none 0 0))], .box 45 1 0 1 [.fn 21 [.ptr H.length 0 0 0, .ptr (H.length + 1) 0 0 0, .ptr (H.length + 2) 0 0 0]]]) (H.length + 1) 24 1 0 1 [.d (.v (.slice none 0 0))] 0 (.d (.v (.slice none 0 0))) 27 1 (by decide) (by simp [app_get]) rfl rfl, ?_⟩
  simp (implicitDefEqProofs := false) only [↓reduceIte, go_sem, oread, owrite, Nat.reduceAdd, Nat.reduceSub, Nat.reduceMul, Nat.reduceLT, Nat.reduceLeDiff, Nat.reduceEqDiff, Nat.reduceBEq, Int.reduceLE, Int.reduceLT, Int.reduceEq, Int.reduceNe, Int.reduceAdd, Int.reduceSub, Int.reduceMul, Int.reduceNeg, Int.reduceToNat, Int.reduceNatCast, reduceCtorEq, eq_self]
  refine KCall.ok (by exact hr) ?_
  simp (implicitDefEqProofs := false) only [↓reduceIte, go_sem, oread, owrite, Nat.reduceAdd, Nat.reduceSub, Nat.reduceMul, Nat.reduceLT, Nat.reduceLeDiff, Nat.reduceEqDiff, Nat.reduceBEq, Int.reduceLE, Int.reduceLT, Int.reduceEq, Int.reduceNe, Int.reduceAdd, Int.reduceSub, Int.reduceMul, Int.reduceNeg, Int.reduceToNat, Int.reduceNatCast, reduceCtorEq, eq_self]
  refine AEnd.ret ?_
  simp (implicitDefEqProofs := false) only [↓reduceIte, go_sem, oread, owrite, Nat.reduceAdd, Nat.reduceSub, Nat.reduceMul, Nat.reduceLT, Nat.reduceLeDiff, Nat.reduceEqDiff, Nat.reduceBEq, Int.reduceLE, Int.reduceLT, Int.reduceEq, Int.reduceNe, Int.reduceAdd, Int.reduceSub, Int.reduceMul, Int.reduceNeg, Int.reduceToNat, Int.reduceNatCast, reduceCtorEq, eq_self]
theorem planOrders0_does (n : Nat) (hm : n ≤ 1000) (H : AHeap) : ∃ nn, Does Try.prog 8 [iA n] H (.ok (.d (.list nn ((ordersP n).map encO)))) H := by
  unfold ordersP
  by_cases h4 : 4 < n
  · rw [if_pos h4]; exact ⟨true, planOrders0_big n h4 hm H⟩
  · rw [if_neg h4]
    rcases n with _ | n
    · exact ⟨false, planOrders0_zero H⟩
    · exact ⟨false, planOrders0_mid (n + 1) (by omega) (by omega) H⟩
set_option maxRecDepth 10000 in
set_option maxHeartbeats 1000000 in
theorem shown22_does (H : AHeap) : Does Try.prog 7 [] H (.ok (bA true)) H := by
  have e3 : (ordersR 3).map encO = [encO [0, 1, 2], encO [0, 2, 1], encO [1, 0, 2], encO [1, 2, 0], encO [2, 0, 1], encO [2, 1, 0]] := by
    rw [show ordersR 3 = [[0, 1, 2], [0, 2, 1], [1, 0, 2], [1, 2, 0], [2, 0, 1], [2, 1, 0]] from by decide]; rfl
  have e0 : (ordersR 0).map encO = [[.list false []]] := rfl
  have h3 := planOrders0_mid 3 (by decide) (by decide) H
  rw [e3] at h3
  refine Does.of_awp (hint := (fun _ => false)) Try.func7 (by kernel_rfl) rfl [0] (by kernel_rfl) (by decide) (by simp [Try.ntmps7]) ?_
  rw [Try.ntmps7]
  simp (implicitDefEqProofs := false) only [↓reduceIte, go_sem, oread, owrite, Nat.reduceAdd, Nat.reduceSub, Nat.reduceMul, Nat.reduceLT, Nat.reduceLeDiff, Nat.reduceEqDiff, Nat.reduceBEq, Int.reduceLE, Int.reduceLT, Int.reduceEq, Int.reduceNe, Int.reduceAdd, Int.reduceSub, Int.reduceMul, Int.reduceNeg, Int.reduceToNat, Int.reduceNatCast, reduceCtorEq, eq_self]
  refine KCall.ok h3 ?_
  simp (implicitDefEqProofs := false) only [↓reduceIte, go_sem, oread, owrite, Nat.reduceAdd, Nat.reduceSub, Nat.reduceMul, Nat.reduceLT, Nat.reduceLeDiff, Nat.reduceEqDiff, Nat.reduceBEq, Int.reduceLE, Int.reduceLT, Int.reduceEq, Int.reduceNe, Int.reduceAdd, Int.reduceSub, Int.reduceMul, Int.reduceNeg, Int.reduceToNat, Int.reduceNatCast, reduceCtorEq, eq_self, encO]
  refine KCall.ok (ints12_does [1, 2, 0] [1, 2, 0] false true H (by decide)) ?_
  simp (implicitDefEqProofs := false) only [↓reduceIte, go_sem, oread, owrite, Nat.reduceAdd, Nat.reduceSub, Nat.reduceMul, Nat.reduceLT, Nat.reduceLeDiff, Nat.reduceEqDiff, Nat.reduceBEq, Int.reduceLE, Int.reduceLT, Int.reduceEq, Int.reduceNe, Int.reduceAdd, Int.reduceSub, Int.reduceMul, Int.reduceNeg, Int.reduceToNat, Int.reduceNatCast, reduceCtorEq, eq_self]
  refine KCall.ok (planOrders0_zero H) ?_
  rw [e0]
  simp (implicitDefEqProofs := false) only [↓reduceIte, go_sem, oread, owrite, Nat.reduceAdd, Nat.reduceSub, Nat.reduceMul, Nat.reduceLT, Nat.reduceLeDiff, Nat.reduceEqDiff, Nat.reduceBEq, Int.reduceLE, Int.reduceLT, Int.reduceEq, Int.reduceNe, Int.reduceAdd, Int.reduceSub, Int.reduceMul, Int.reduceNeg, Int.reduceToNat, Int.reduceNatCast, reduceCtorEq, eq_self]
  refine AEnd.ret0 ?_
  simp (implicitDefEqProofs := false) only [↓reduceIte, go_sem, oread, owrite, Nat.reduceAdd, Nat.reduceSub, Nat.reduceMul, Nat.reduceLT, Nat.reduceLeDiff, Nat.reduceEqDiff, Nat.reduceBEq, Int.reduceLE, Int.reduceLT, Int.reduceEq, Int.reduceNe, Int.reduceAdd, Int.reduceSub, Int.reduceMul, Int.reduceNeg, Int.reduceToNat, Int.reduceNatCast, reduceCtorEq, eq_self]
theorem planOrders_does (x0 : AV) (h0 : ArgOk Try.prog 22 x0) : Does Try.prog 3 [x0] [] (.ok (.d (.v (.bool true)))) [] := by
  obtain ⟨d, rfl, hf⟩ := arg_one h0 K.agB22 (sh := .int .i8) (by kernel_rfl)
  obtain ⟨n, rfl, hn⟩ := Fits.int_inv hf
  have h : IntKind.i8.min ≤ n ∧ n ≤ IntKind.i8.max := by simpa [Lit.wf] using hn
  have h1 : IntKind.i8.min = -128 := by decide
  have h2 : IntKind.i8.max = 127 := by decide
  by_cases hneg : n < 0
  · exact planOrders_neg n hneg (by omega) [] (shown22_does []) (planOrders0_neg n hneg [])
  · obtain ⟨m, rfl⟩ := Int.eq_ofNat_of_zero_le (show 0 ≤ n by omega)
    obtain ⟨nn, hp⟩ := planOrders0_does m (by omega) []
    exact planOrders_pos m (by omega) nn [] (shown22_does []) hp
end Go.Proofs.Ytfjdggcemfebpaa

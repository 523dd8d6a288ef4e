/- Bytes as a text. (A trial: to be moved into the machine, aop's convert.) -/
import Derived.Test.YtfmmemboakdeiaaAw7
import Derived.Laws.BytesString
namespace Go.Proofs.YtfmmemboakdeiaaAw
open Go.RowKit
set_option linter.unusedVariables false
def asBytes : List (List D) → Option (List Int)
  | [] => some []
  | [.v (.int .u8 n)] :: es => (asBytes es).map (n :: ·)
  | _ => none
def pushAll (ns : List Int) : ByteArray := ns.foldl (fun r n => r.push (UInt8.ofNat n.toNat)) ByteArray.empty
theorem asBytes_get : ∀ {es : List (List D)} {ns : List Int}, asBytes es = some ns → es.length = ns.length ∧ ∀ i (h : i < es.length), es[i] = [.v (.int .u8 (ns.getD i 0))]
  | [], ns, h => by cases h; exact ⟨rfl, fun i h => by simp at h⟩
  | c :: es, ns, h => by
    unfold asBytes at h
    split at h
    · cases h; contradiction
    · rename_i n es' heq
      cases heq
      obtain ⟨ns', hn, rfl⟩ := Option.map_eq_some_iff.1 h
      obtain ⟨h1, h2⟩ := asBytes_get hn
      refine ⟨by simp [h1], fun i hi => ?_⟩
      cases i with
      | zero => rfl
      | succ i => simpa using h2 i (by simpa using hi)
    · cases h
section
variable {P : Program} {o : Oper} {a : Act} {w : World} {H : AHeap} {φ : Phi} {N : Addr → Prop} {s : Nat → AV}
theorem ok_convert_bytes (hR : Rel H φ N w) (hT : TRel H φ N w s a) (src dst e : TypeId) (x : Operand) (ho : o.op = .convert src dst x) (hs : SE P src = some e) (he : UK P e = some .u8) (hd : P.underlying dst = some .string)
    (nn : Bool) (es : List (List D)) (ns : List Int) (hx : aeval s x = .d (.list nn es)) (hb : asBytes es = some ns) : OpOk P o a w H φ N (.d (.v (.string (pushAll ns)))) H := by
  have hv := aeval_ok hT x
  rw [hx] at hv
  refine .same hR (x := .string (pushAll ns)) (.d (.v _ rfl)) ?_
  obtain ⟨hl, hg⟩ := asBytes_get hb
  generalize hu : a.eval x = u at hv
  have key : ∀ A l c, u = .slice A l c → (Conv.bytesToString (.slice A l c)).run P w = .ok (.string (pushAll ns)) w → (execOp a.eval o).run P w = .ok (.value (.string (pushAll ns))) w := by
    intro A l c hA hr
    simp only [execOp, ho, hu, hA, Sem.run_bind, run_convert_bytes_string w src dst e A l c (SE.get hs) (UK.get he) hd, hr, Result.andThen_ok]
    rfl
  cases hv with
  | d hd' =>
    cases hd' with
    | nil A c hA =>
      cases hb
      refine key A 0 c rfl ?_
      cases A with
      | none => rfl
      | some ad => exact run_bytesToString w ad 0 c [] (by simp [loadCells, loadCellsFrom])
    | list _ _ ad cap k c hc hk hcell hdd =>
      refine key (some ad) es.length cap rfl ?_
      refine run_bytesToString w ad es.length cap ns ?_
      have hrun := run_loadCells (P := P) w ad es.length (fun i => .int .u8 (ns.getD i 0)) fun i hi => by
        have hlen : (es[i]).length = k := hk _ (List.getElem_mem hi)
        have h1 := hg i hi
        have hk1 : k = 1 := by rw [← hlen, h1]; rfl
        subst hk1
        have h2 := (hcell i 0 hi (by omega)).2
        have h3 := hdd i hi 0 (by rw [h1]; simp)
        simp only [h1, List.getElem_cons_zero] at h3
        generalize hcc : c i 0 = u at h2 h3
        cases h3
        simpa using h2
      rw [hrun]
      congr 2
      refine List.ext_getElem (by simp [hl]) fun i h1 h2 => ?_
      have : i < ns.length := by simpa using h2
      simp [this]
end
end Go.Proofs.YtfmmemboakdeiaaAw
